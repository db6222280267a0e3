/- The reference: Digit, Unhex. -/
import Derived.Test.YtocmmdheegkbaaaDoorHe
import Derived.LoopTactic
namespace Go.Proofs.YtocmmdheegkbaaaDoor
open Go.RowKit Go.Proofs.YtocmmdheegkbaaaDoorW.PrintWords Go.Proofs.YtocmmdheegkbaaaDoorW.PrintMore
set_option linter.unusedVariables false
set_option linter.unusedSimpArgs false
/-- A lower digit's value. -/
def lv (c : UInt8) : Option Nat :=
  if 48 ≤ c.toNat ∧ c.toNat ≤ 57 then some (c.toNat - 48) else if 97 ≤ c.toNat ∧ c.toNat ≤ 102 then some (c.toNat - 87) else none
def lvI (c : UInt8) : Int := match lv c with | some d => (d : Int) | none => -1
set_option maxHeartbeats 800000 in
set_option maxRecDepth 100000 in
theorem Digit_any (c : UInt8) (w : World) :
    Calls Tryd.prog 34 #[.int .u8 (c.toNat : Int)] w fun e w' => e = .returned (.int .i64 (lvI c)) ∧ w = w' := by
  have hc := c.toNat_lt
  obtain ⟨v, hv⟩ : ∃ v, lvI c = v := ⟨_, rfl⟩
  rw [hv]
  unfold lvI lv at hv
  generalize c.toNat = n at *
  by_cases h1 : 48 ≤ n ∧ n ≤ 57
  · rw [if_pos h1] at hv
    obtain ⟨a, b⟩ := h1
    have hv' : (n : Int) - 48 = v := by rw [← hv]; show (n : Int) - 48 = ((n - 48 : Nat) : Int); omega
    clear hv
    go_enter Tryd.func34, Tryd.ntmps34
    go_wp2_with fail
    go_ret
    exact ⟨by rw [← hv']; rfl, rfl⟩
  · by_cases h2 : 97 ≤ n ∧ n ≤ 102
    · rw [if_neg h1, if_pos h2] at hv
      obtain ⟨a, b⟩ := h2
      have hv' : (n : Int) - 97 + 10 = v := by rw [← hv]; show (n : Int) - 97 + 10 = ((n - 87 : Nat) : Int); omega
      clear hv
      go_enter Tryd.func34, Tryd.ntmps34
      go_wp2_with fail
      go_ret
      exact ⟨by rw [← hv']; rfl, rfl⟩
    · rw [if_neg h1, if_neg h2] at hv
      simp only [] at hv
      subst hv
      go_enter Tryd.func34, Tryd.ntmps34
      go_wp2_with fail
      all_goals go_ret
      all_goals exact ⟨rfl, rfl⟩
end Go.Proofs.YtocmmdheegkbaaaDoor
