/- Plain: the two Unhex's answers are the same. -/
import Derived.Test.YtocmmdheegkbaaaDoorRl
namespace Go.Proofs.YtocmmdheegkbaaaDoor
open Go.RowKit
set_option linter.unusedVariables false
set_option linter.unusedSimpArgs false
/-- Lower digits are read the same, while there is room. -/
theorem p16_lvs : ∀ (cs : List UInt8) (j acc n : Nat), j + cs.length ≤ 16 → acc < 16 ^ j → lvs acc cs = some n → p16 acc cs = .ok n
  | [], j, acc, n, _, _, h => by rw [lvs] at h; injection h with h; rw [p16, h]
  | c :: cs, j, acc, n, hl, ha, h => by
    rw [lvs] at h
    rw [List.length_cons] at hl
    cases hc : lv c with
    | none => rw [hc] at h; cases h
    | some d =>
      rw [hc] at h
      simp only [] at h
      have hd := lv_lt c d hc
      have h15 : 16 ^ j ≤ 16 ^ 15 := Nat.pow_le_pow_right (by decide) (by omega)
      have h15' : (16 : Nat) ^ 15 = 1152921504606846976 := by decide
      rw [p16_some acc c cs d (dv_lv c d hc) (by omega)]
      exact p16_lvs cs (j + 1) _ n (by omega) (by rw [Nat.pow_succ]; omega) (by rw [Nat.mul_comm] at h; exact h)
theorem uh_ru (s : ByteArray) : uh s = ru s := by
  unfold uh ru pr
  by_cases h16 : s.size = 16
  · rw [if_pos h16, if_neg (by omega)]
    have hL : s.data.toList.length = 16 := by rw [← Lib.size_eq]; exact h16
    cases h : lvs 0 s.data.toList with
    | some n =>
      rw [p16_lvs _ 0 0 n (by omega) (by decide) h]
      have hb := lvs_back 16 _ n hL h
      have e : hexS n = s := by unfold hexS; rw [hb.1]
      simp only [h16, e, and_self, if_true]
    | none =>
      cases hp : p16 0 s.data.toList with
      | ok n =>
        have hn : n < 16 ^ 16 := p16_lt _ _ _ (by decide) hp
        have e : ¬ hexS n = s := by
          intro e
          have := lvs_hexF 16 n hn
          rw [← e] at h
          change lvs 0 (hexF 16 n) = none at h
          rw [this] at h; cases h
        simp only [e, and_false, if_false]
      | syn => rfl
      | rng => rfl
  · rw [if_neg h16]
    split
    · rw [if_neg (fun c => h16 c.1)]
    · rfl
end Go.Proofs.YtocmmdheegkbaaaDoor
