/- math's functions that fbits uses: Abs, IsNaN, IsInf. -/
import Derived.Test.YtocmmdheegkbaaaDoorFc
import Derived.Test.YtocmmdheegkbaaaDoorProg
import Derived.Test.YtocmmdheegkbaaaDoorWWords
import Derived.Test.YtocmmdheegkbaaaDoorWMore
import Derived.WalkKit
import Derived.WalkSpells
import Derived.WalkLawsBesides
import Derived.Laws.BitsAllLaws
import Derived.Laws.Externs
import Derived.Lib.Hide
namespace Go.Proofs.YtocmmdheegkbaaaDoor
open Go.RowKit Go.Proofs.YtocmmdheegkbaaaDoorW.PrintWords Go.Proofs.YtocmmdheegkbaaaDoorW.PrintMore
set_option linter.unusedVariables false
set_option linter.unusedSimpArgs false

theorem ext28 (n : Int) (w : World) : (callFunc 28 #[.int .u64 n]).run Tryd.prog w = .ok (.value (.float .f64 n.toNat)) w := by
  rw [run_callFunc_extern (e := Extern.MathFloatBits.float64frombits) Tryd.func28 (by kernel_rfl) (by kernel_rfl) (by kernel_rfl) (by kernel_rfl)]
  rfl
theorem ext36 (n : Nat) (w : World) : (callFunc 36 #[.float .f64 n]).run Tryd.prog w = .ok (.value (.int .u64 (n : Int))) w := by
  rw [run_callFunc_extern (e := Extern.MathFloatBits.float64bits) Tryd.func36 (by kernel_rfl) (by kernel_rfl) (by kernel_rfl) (by kernel_rfl)]
  rfl
theorem ext40 (n : Nat) (w : World) : (callFunc 40 #[.float .f32 n]).run Tryd.prog w = .ok (.value (.int .u32 (n : Int))) w := by
  rw [run_callFunc_extern (e := Extern.MathFloatBits.float32bits) Tryd.func40 (by kernel_rfl) (by kernel_rfl) (by kernel_rfl) (by kernel_rfl)]
  rfl
theorem andNot_sign (b : Nat) (hb : b < 18446744073709551616) : bits .andNot .u64 (b : Int) 9223372036854775808 = ((b % 9223372036854775808 : Nat) : Int) := by
  rw [show (9223372036854775808 : Int) = ((9223372036854775808 : Nat) : Int) from rfl, u64_andNot_nat _ _ hb (by decide)]
  congr 1
  exact Nat.and_two_pow_sub_one_eq_mod b 63
attribute [local go_sem] ext28 ext36 ext40 andNot_sign

theorem tn (b K : Nat) : ((b : Int) % (K : Int)).toNat = b % K := by omega
theorem emod_tn (b : Nat) : ((b : Int) % 9223372036854775808).toNat = b % 9223372036854775808 := by omega
attribute [local go_sem] emod_tn

set_option maxHeartbeats 1000000 in
set_option maxRecDepth 100000 in
theorem abs_any (b : Nat) (hb : b < 18446744073709551616) (w : World) : Calls Tryd.prog 31 #[.float .f64 b] w fun e w' => e = .returned (.float .f64 (b % 9223372036854775808)) ∧ w = w' := by
  go_enter Tryd.func31, Tryd.ntmps31
  go_wp2
  go_ret
  exact ⟨rfl, rfl⟩

/-- Is it no number? -/
theorem ne_self (s : Bool) (r : Nat) (hr : r < 9223372036854775808) : (FloatKind.f64.format.order (wd s r) (wd s r) != some .eq) = decide (9218868437227405312 < r) := by
  by_cases c : 9218868437227405312 < r
  · rw [show FloatKind.f64.format.order (wd s r) (wd s r) = none from ord_nan s r c hr _, decide_eq_true c]; rfl
  · rw [show FloatKind.f64.format.order (wd s r) (wd s r) = some .eq from ord_self s r (by omega), decide_eq_false c]; rfl
set_option maxHeartbeats 1000000 in
set_option maxRecDepth 100000 in
theorem isNaN_any (s : Bool) (r : Nat) (hr : r < 9223372036854775808) (c : Bool) (hc : decide (9218868437227405312 < r) = c) (w : World) : Calls Tryd.prog 29 #[.float .f64 (wd s r)] w fun e w' => e = .returned (.bool c) ∧ w = w' := by
  have h := ne_self s r hr
  rw [hc] at h
  clear hc
  generalize wd s r = b at *
  go_enter Tryd.func29, Tryd.ntmps29
  go_wp2
  go_ret
  exact ⟨rfl, rfl⟩
/-- Is it infinite (or no number)? -/
theorem gt_max (r : Nat) (hr : r < 9223372036854775808) (c : Bool) (hc : decide (9218868437227405312 = r) = c) : (FloatKind.f64.format.order r 9218868437227405311 == some .gt) = c := by
  rw [← hc]
  rcases Nat.lt_trichotomy r 9218868437227405312 with h | h | h
  · rw [show FloatKind.f64.format.order r 9218868437227405311 = _ from ord_pos _ _ h (by decide), decide_eq_false (by omega)]
    have : compare r 9218868437227405311 ≠ .gt := by
      intro e; rw [Nat.compare_eq_gt] at e; omega
    cases hcmp : compare r 9218868437227405311
    · rfl
    · rfl
    · exact absurd hcmp this
  · subst h; rw [show FloatKind.f64.format.order 9218868437227405312 9218868437227405311 = some .gt from (ord_inf _ (by decide)).1]; rfl
  · rw [show FloatKind.f64.format.order r 9218868437227405311 = none from ord_nan false r h hr _, decide_eq_false (show ¬ 9218868437227405312 = r by omega)]; rfl
set_option maxHeartbeats 1000000 in
set_option maxRecDepth 100000 in
theorem isInf_any (b r : Nat) (hb : b < 18446744073709551616) (hr : b % 9223372036854775808 = r) (c : Bool) (hc : decide (9218868437227405312 = r) = c) (w : World) : Calls Tryd.prog 30 #[.float .f64 b, .int .i64 0] w fun e w' => e = .returned (.bool c) ∧ w = w' := by
  have H := gt_max r (by omega) c hc
  have ha := fun w => abs_any b hb w
  rw [hr] at ha
  have HA := Lib.hid ha
  clear ha hr hc
  go_enter Tryd.func30, Tryd.ntmps30
  go_wp2_with fail
  refine (HA.out _).mono ?_
  rintro e w1 ⟨rfl, rfl⟩
  go_wp2
  go_ret
  exact ⟨rfl, rfl⟩
end Go.Proofs.YtocmmdheegkbaaaDoor
