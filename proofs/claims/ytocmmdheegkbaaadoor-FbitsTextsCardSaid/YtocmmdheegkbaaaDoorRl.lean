/- Plain: the two Unhex's answers are the same, second part. -/
import Derived.Test.YtocmmdheegkbaaaDoorRk
namespace Go.Proofs.YtocmmdheegkbaaaDoor
open Go.RowKit
set_option linter.unusedVariables false
set_option linter.unusedSimpArgs false
theorem dv_lv (c : UInt8) (d : Nat) (h : lv c = some d) : dv c = some d := by
  have k : ∀ c : Fin 256, (match lv (UInt8.ofNat c.1) with | some d => decide (dv (UInt8.ofNat c.1) = some d) | none => true) = true := by decide +kernel
  have := k ⟨c.toNat, c.toNat_lt⟩
  have e : UInt8.ofNat c.toNat = c := by simp
  simp only [e] at this
  rw [h] at this
  exact of_decide_eq_true this
/-- What is read has just those digits. -/
theorem lvs_back : ∀ (k : Nat) (cs : List UInt8) (n : Nat), cs.length = k → lvs 0 cs = some n → hexF k n = cs ∧ n < 16 ^ k
  | 0, cs, n, hl, h => by
    obtain rfl := List.length_eq_zero_iff.1 hl
    rw [lvs] at h; injection h with h
    subst h; exact ⟨rfl, by decide⟩
  | k + 1, cs, n, hl, h => by
    have hne : cs ≠ [] := by intro e; subst e; simp at hl
    obtain ⟨xs, c, rfl⟩ : ∃ xs c, cs = xs ++ [c] := ⟨cs.dropLast, cs.getLast hne, (List.dropLast_concat_getLast hne).symm⟩
    rw [lvs_app] at h
    cases hx : lvs 0 xs with
    | none => rw [hx] at h; simp at h
    | some m =>
      rw [hx] at h
      cases hc : lv c with
      | none => rw [hc] at h; simp at h
      | some d =>
        rw [hc] at h
        simp at h
        have hd := lv_lt c d hc
        obtain ⟨h1, h2⟩ := lvs_back k xs m (by simpa using hl) hx
        subst h
        rw [hexF, show (16 * m + d) / 16 = m by omega, show (16 * m + d) % 16 = d by omega, h1, dgt_lv c d hc, Nat.pow_succ]
        exact ⟨rfl, by omega⟩
end Go.Proofs.YtocmmdheegkbaaaDoor
