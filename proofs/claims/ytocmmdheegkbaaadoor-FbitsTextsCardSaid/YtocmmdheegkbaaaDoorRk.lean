/- Plain: the two Unhex's answers are the same. -/
import Derived.Test.YtocmmdheegkbaaaDoorRj
namespace Go.Proofs.YtocmmdheegkbaaaDoor
open Go.RowKit
set_option linter.unusedVariables false
set_option linter.unusedSimpArgs false
theorem lv_dgt (d : Nat) (h : d < 16) : lv (dgt d) = some d := by
  have : ∀ d : Fin 16, lv (dgt d.1) = some d.1 := by decide
  exact this ⟨d, h⟩
theorem dgt_lv (c : UInt8) (d : Nat) (h : lv c = some d) : dgt d = c := by
  have : ∀ c : Fin 256, ∀ d, lv (UInt8.ofNat c.1) = some d → dgt d = UInt8.ofNat c.1 := by
    intro c
    have k : ∀ c : Fin 256, (match lv (UInt8.ofNat c.1) with | some d => decide (dgt d = UInt8.ofNat c.1) | none => true) = true := by decide +kernel
    intro d hd
    have := k c
    rw [hd] at this
    exact of_decide_eq_true this
  have e : UInt8.ofNat c.toNat = c := by simp
  have := this ⟨c.toNat, c.toNat_lt⟩ d
  simp only [e] at this
  exact this h
theorem lvs_app : ∀ (xs : List UInt8) (acc : Nat) (c : UInt8), lvs acc (xs ++ [c]) = (lvs acc xs).bind fun n => (lv c).map fun d => 16 * n + d
  | [], acc, c => by
    show lvs acc [c] = _
    rw [lvs]
    cases h : lv c <;> simp [lvs, h]
  | x :: xs, acc, c => by
    rw [List.cons_append, lvs, lvs]
    cases h : lv x with
    | none => simp
    | some d => simp only []; exact lvs_app xs _ c
theorem lvs_hexF : ∀ (k n : Nat), n < 16 ^ k → lvs 0 (hexF k n) = some n
  | 0, n, h => by
    have : n = 0 := by simpa using h
    subst this; rfl
  | k + 1, n, h => by
    rw [hexF, lvs_app, lvs_hexF k (n / 16) (by rw [Nat.pow_succ] at h; omega), lv_dgt _ (by omega)]
    simp
    omega
end Go.Proofs.YtocmmdheegkbaaaDoor
