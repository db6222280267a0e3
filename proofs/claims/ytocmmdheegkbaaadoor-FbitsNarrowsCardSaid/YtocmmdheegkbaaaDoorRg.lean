/- Plain: the reference's class is Cls; the reference's guess is I16, I32. -/
import Derived.Test.YtocmmdheegkbaaaDoorRd
namespace Go.Proofs.YtocmmdheegkbaaaDoor
open Go.RowKit
set_option linter.unusedVariables false
set_option linter.unusedSimpArgs false
theorem clsF_Cls (b : Nat) : clsF 2048 (b / 4503599627370496 % 2048) (b % 4503599627370496) = Cls b := by
  have h1 : b % 9223372036854775808 = (b / 4503599627370496 % 2048) * 4503599627370496 + b % 4503599627370496 := by omega
  have h2 : b / 4503599627370496 % 2048 < 2048 := by omega
  have h3 : b % 4503599627370496 < 4503599627370496 := by omega
  unfold clsF Cls
  rw [h1]
  generalize b / 4503599627370496 % 2048 = e at *
  generalize b % 4503599627370496 = f at *
  clear h1
  by_cases c : e = 2047
  · subst c
    by_cases d : f = 0
    · subst d; rfl
    · rw [if_pos (by decide), if_neg d, if_pos (by omega)]
  · rw [if_neg (show ¬ decide (e = 2048 - 1) = true by rw [decide_eq_true_iff]; omega), if_neg (show ¬ 9218868437227405312 < e * 4503599627370496 + f by omega), if_neg (show ¬ e * 4503599627370496 + f = 9218868437227405312 by omega)]
    by_cases c0 : e = 0
    · rw [if_pos c0]
      by_cases d : f = 0
      · rw [if_pos d, if_pos (by omega)]
      · rw [if_neg d, if_neg (by omega), if_pos (by omega)]
    · rw [if_neg c0, if_neg (by omega), if_neg (by omega)]
end Go.Proofs.YtocmmdheegkbaaaDoor
