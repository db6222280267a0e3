/- fbits.Class; math's normalize, ldexp. -/
import Derived.Test.YtocmmdheegkbaaaDoorGa
namespace Go.Proofs.YtocmmdheegkbaaaDoor
open Go.RowKit Go.Proofs.YtocmmdheegkbaaaDoorW.PrintWords Go.Proofs.YtocmmdheegkbaaaDoorW.PrintMore
set_option linter.unusedVariables false
set_option linter.unusedSimpArgs false
attribute [local go_sem] ext28 ext36 ext40 andNot_sign emod_tn

theorem isNaN_b (b r : Nat) (hb : b < 18446744073709551616) (hr : b % 9223372036854775808 = r) (c : Bool) (hc : decide (9218868437227405312 < r) = c) (w : World) : Calls Tryd.prog 29 #[.float .f64 b] w fun e w' => e = .returned (.bool c) ∧ w = w' := by
  have h := isNaN_any (b / 9223372036854775808 % 2 == 1) r (by omega) c hc w
  rw [← hr, ← wd_parts b hb] at h
  exact h
theorem eq_zero (b r : Nat) (hb : b < 18446744073709551616) (hr : b % 9223372036854775808 = r) (c : Bool) (hc : decide (r = 0) = c) : (FloatKind.f64.format.order b 0 == some .eq) = c := by
  have h := ord_zero (b / 9223372036854775808 % 2 == 1) r (by omega)
  rw [← hr, ← wd_parts b hb, hr, hc] at h
  exact h
theorem lt_norm (r : Nat) (hr : r < 9218868437227405312) (c : Bool) (hc : decide (r < 4503599627370496) = c) : (FloatKind.f64.format.order r 4503599627370496 == some .lt) = c := by
  rw [← hc, show FloatKind.f64.format.order r 4503599627370496 = _ from ord_pos _ _ hr (by decide)]
  by_cases h : r < 4503599627370496
  · rw [Nat.compare_eq_lt.2 h, decide_eq_true h]; rfl
  · rw [decide_eq_false h]
    cases hcmp : compare r 4503599627370496
    · exact absurd (Nat.compare_eq_lt.1 hcmp) h
    · rfl
    · rfl

set_option maxHeartbeats 1000000 in
set_option maxRecDepth 100000 in
theorem class_any (b : Nat) (hb : b < 18446744073709551616) (w : World) : Calls Tryd.prog 16 #[.int .u64 (b : Int)] w fun e w' => e = .returned (.int .i64 (Cls b)) ∧ w = w' := by
  obtain ⟨r, hr⟩ : ∃ r, b % 9223372036854775808 = r := ⟨_, rfl⟩
  have hrl : r < 9223372036854775808 := by omega
  unfold Cls
  rw [hr]
  by_cases c1 : 9218868437227405312 < r
  · rw [if_pos c1]
    have h1 := fun w => isNaN_b b r hb hr true (decide_eq_true c1) w
    have H1 := Lib.hid h1
    clear h1 hr c1 hrl
    go_enter Tryd.func16, Tryd.ntmps16
    go_wp2_with (refine (H1.out _).mono ?_; rintro e w1 ⟨rfl, rfl⟩)
    go_ret
    exact ⟨rfl, rfl⟩
  rw [if_neg c1]
  have H1 := Lib.hid (fun w => isNaN_b b r hb hr false (decide_eq_false c1) w)
  by_cases c2 : r = 9218868437227405312
  · rw [if_pos c2]
    have H2 := Lib.hid (fun w => isInf_any b r hb hr true (decide_eq_true c2.symm) w)
    clear hr c1 hrl c2
    go_enter Tryd.func16, Tryd.ntmps16
    go_wp2_with (first | (go_at_call 29; refine (H1.out _).mono ?_; rintro e w1 ⟨rfl, rfl⟩) | (go_at_call 30; refine (H2.out _).mono ?_; rintro e w2 ⟨rfl, rfl⟩))
    go_ret
    exact ⟨rfl, rfl⟩
  rw [if_neg c2]
  have H2 := Lib.hid (fun w => isInf_any b r hb hr false (decide_eq_false (fun h => c2 h.symm)) w)
  have HA := fun w => abs_any b hb w
  rw [hr] at HA
  replace HA := Lib.hid HA
  by_cases c3 : r = 0
  · rw [if_pos c3]
    have h3 := eq_zero b r hb hr true (decide_eq_true c3)
    clear hr c1 hrl c2 c3
    go_enter Tryd.func16, Tryd.ntmps16
    go_wp2_with (first | (go_at_call 29; refine (H1.out _).mono ?_; rintro e w1 ⟨rfl, rfl⟩) | (go_at_call 30; refine (H2.out _).mono ?_; rintro e w2 ⟨rfl, rfl⟩))
    go_ret
    exact ⟨rfl, rfl⟩
  rw [if_neg c3]
  have h3 := eq_zero b r hb hr false (decide_eq_false c3)
  by_cases c4 : r < 4503599627370496
  · rw [if_pos c4]
    have h4 := lt_norm r (by omega) true (decide_eq_true c4)
    clear hr c1 hrl c2 c3 c4
    go_enter Tryd.func16, Tryd.ntmps16
    go_wp2_with (first | (go_at_call 29; refine (H1.out _).mono ?_; rintro e w1 ⟨rfl, rfl⟩) | (go_at_call 30; refine (H2.out _).mono ?_; rintro e w2 ⟨rfl, rfl⟩) | (go_at_call 31; refine (HA.out _).mono ?_; rintro e w3 ⟨rfl, rfl⟩))
    go_ret
    exact ⟨rfl, rfl⟩
  · rw [if_neg c4]
    have h4 := lt_norm r (by omega) false (decide_eq_false c4)
    clear hr c1 hrl c2 c3 c4
    go_enter Tryd.func16, Tryd.ntmps16
    go_wp2_with (first | (go_at_call 29; refine (H1.out _).mono ?_; rintro e w1 ⟨rfl, rfl⟩) | (go_at_call 30; refine (H2.out _).mono ?_; rintro e w2 ⟨rfl, rfl⟩) | (go_at_call 31; refine (HA.out _).mono ?_; rintro e w3 ⟨rfl, rfl⟩))
    go_ret
    exact ⟨rfl, rfl⟩
end Go.Proofs.YtocmmdheegkbaaaDoor
