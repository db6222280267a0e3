/- The reference: power. -/
import Derived.Test.YtocmmdheegkbaaaDoorGh
import Derived.LoopTactic
namespace Go.Proofs.YtocmmdheegkbaaaDoor
open Go.RowKit Go.Proofs.YtocmmdheegkbaaaDoorW.PrintWords Go.Proofs.YtocmmdheegkbaaaDoorW.PrintMore
set_option linter.unusedVariables false
set_option linter.unusedSimpArgs false

set_option maxHeartbeats 8000000 in
set_option maxRecDepth 100000 in
theorem power_any (n p : Nat) (hn : n < 64) (hp : 2 ^ n = p) (w : World) :
    Calls Tryd.prog 38 #[.int .i64 (n : Int)] w fun e w' => e = .returned (.int .u64 (p : Int)) ∧ Drawn0 w w' := by
  replace hp := Aside0.mk hp
  go_enter Tryd.func38, Tryd.ntmps38
  go_wp2
  go_loopw [3, 4] (fun v3 v4 w' => ∃ (i q : Nat), v3 = .int .u64 q ∧ v4 = .int .i64 i ∧ i ≤ n ∧ Aside0 (2 ^ i = q) ∧ Drawn0 w w') (fun _ v4 _ => n - (intOf v4).toNat)
  case atStart => exact ⟨0, 1, rfl, rfl, by omega, ⟨rfl⟩, by repeat (first | exact Drawn0.refl _ | apply Drawn0.step)⟩
  case round =>
    obtain ⟨i, q, rfl, rfl, hi, hq, ⟨m1, rfl⟩⟩ := hrel
    by_cases c : i < n
    · have hd : decide ((i : Int) < (n : Int)) = true := decide_eq_true (by omega)
      have hw2 : IntKind.u64.wrap (2 * (q : Int)) = ((2 * q : Nat) : Int) := by
        have h1 : 2 * q < 18446744073709551616 := by
          have := hq.out
          have h2 : 2 ^ (i + 1) ≤ 2 ^ 63 := Nat.pow_le_pow_right (by decide) (by omega)
          rw [Nat.pow_succ] at h2
          omega
        rw [IntKind.wrap_u64]; omega
      go_wp2
      go_roundw
      case rel => exact ⟨i + 1, 2 * q, rfl, rfl, by omega, ⟨by rw [Nat.pow_succ, hq.out]; omega⟩, by repeat (first | exact Drawn0.refl _ | apply Drawn0.step)⟩
      case measure => simp [intOf]; omega
    · have hd : decide ((i : Int) < (n : Int)) = false := decide_eq_false (by omega)
      have : i = n := by omega
      subst this
      have hqp : q = p := by rw [← hq.out, ← hp.out]
      subst hqp
      clear hq hp
      go_wp2
      go_ret
      exact ⟨rfl, by repeat (first | exact Drawn0.refl _ | apply Drawn0.step)⟩
end Go.Proofs.YtocmmdheegkbaaaDoor
