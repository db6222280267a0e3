/- math's normalize and ldexp. -/
import Derived.Test.YtocmmdheegkbaaaDoorGb
import Derived.Deep.DeepCutAuto
import Derived.IntWalk
namespace Go.Proofs.YtocmmdheegkbaaaDoor
open Go.RowKit Go.Proofs.YtocmmdheegkbaaaDoorW.PrintWords Go.Proofs.YtocmmdheegkbaaaDoorW.PrintMore
set_option linter.unusedVariables false
set_option linter.unusedSimpArgs false
attribute [local go_sem] ext28 ext36 ext40 andNot_sign emod_tn

set_option maxHeartbeats 1000000 in
set_option maxRecDepth 1000000 in
theorem normalize_norm (r : Nat) (h1 : 4503599627370496 ≤ r) (h2 : r < 9218868437227405312) (w : World) :
    Calls Tryd.prog 57 #[.float .f64 r] w fun e w' => e = .returned (.tuple #[.float .f64 r, .int .i64 0]) ∧ w = w' := by
  have HA := fun w => abs_any r (by omega) w
  rw [Nat.mod_eq_of_lt (by omega)] at HA
  replace HA := Lib.hid HA
  have h4 := lt_norm r (by omega) false (decide_eq_false (by omega))
  clear h1 h2
  go_enter Tryd.func57, Tryd.ntmps57
  go_wp2_with (refine (HA.out _).mono ?_; rintro e w3 ⟨rfl, rfl⟩)
  go_ret2
  exact ⟨rfl, rfl⟩
set_option maxHeartbeats 1000000 in
set_option maxRecDepth 1000000 in
theorem normalize_sub (r q : Nat) (h2 : r < 4503599627370496) (hq : floatBits .mul .f64 r 4841369599423283200 = some q) (w : World) :
    Calls Tryd.prog 57 #[.float .f64 r] w fun e w' => e = .returned (.tuple #[.float .f64 q, .int .i64 (-52)]) ∧ w = w' := by
  have HA := fun w => abs_any r (by omega) w
  rw [Nat.mod_eq_of_lt (by omega)] at HA
  replace HA := Lib.hid HA
  have h4 := lt_norm r (by omega) true (decide_eq_true h2)
  have hm := fun w => run_float_arith (P := Tryd.prog) w .mul 50 .f64 r 4841369599423283200 q hq
  clear h2 hq
  go_enter Tryd.func57, Tryd.ntmps57
  go_wp2_with (refine (HA.out _).mono ?_; rintro e w3 ⟨rfl, rfl⟩)
  go_ret2
  exact ⟨rfl, rfl⟩

theorem ofInt_i64 (a : Nat) (ha : a < 18446744073709551616) : (BitVec.ofInt 64 (a : Int)).toNat = a := ofInt_u64 a ha
theorem i64_and_nat (a b : Nat) (ha : a < 9223372036854775808) (hb : b < 9223372036854775808) : bits .and .i64 (a : Int) (b : Int) = ((a &&& b : Nat) : Int) := by
  have hx : a &&& b < 2 ^ 63 := Nat.and_lt_two_pow _ (by omega)
  show IntKind.i64.wrap ((BitVec.ofInt 64 (a : Int) &&& BitVec.ofInt 64 (b : Int)).toNat : Int) = _
  rw [BitVec.toNat_and, ofInt_u64 a (by omega), ofInt_u64 b (by omega)]
  exact IntWalk.i64_in _ (by omega)
theorem and_mask (E : Nat) (h : E < 2047) : bits .and .i64 (E : Int) 2047 = (E : Int) := by
  rw [show (2047 : Int) = ((2047 : Nat) : Int) from rfl, i64_and_nat _ _ (by omega) (by decide)]
  have : E &&& 2047 = E % 2048 := Nat.and_two_pow_sub_one_eq_mod E 11
  rw [this]; omega
theorem andNot_exp (r E F : Nat) (hr : r < 9223372036854775808) (hE : r = E * 4503599627370496 + F) (hF : F < 4503599627370496) : bits .andNot .u64 (r : Int) 9218868437227405312 = (F : Int) := by
  rw [show (9218868437227405312 : Int) = ((9218868437227405312 : Nat) : Int) from rfl, u64_andNot_nat _ _ (by omega) (by decide)]
  congr 1
  have h1 : r &&& (18446744073709551615 - 9218868437227405312) < 2 ^ 63 := Nat.lt_of_le_of_lt Nat.and_le_left (by omega)
  rw [← Nat.mod_eq_of_lt h1, Nat.and_mod_two_pow, Nat.mod_eq_of_lt (show r < 2 ^ 63 by omega)]
  have : r &&& ((18446744073709551615 - 9218868437227405312) % 2 ^ 63) = r % 2 ^ 52 := Nat.and_two_pow_sub_one_eq_mod r 52
  rw [this]; omega
theorem or_exp (X F : Nat) (hX : X < 2047) (hF : F < 4503599627370496) : bits .or .u64 (F : Int) ((X : Int) * 4503599627370496) = ((X * 4503599627370496 + F : Nat) : Int) := by
  rw [show (X : Int) * 4503599627370496 = ((X * 4503599627370496 : Nat) : Int) by omega, u64_or_nat _ _ (by omega) (by omega)]
  congr 1
  rw [Nat.or_comm]
  exact nat_join 52 _ _ (by omega) hF
set_option maxHeartbeats 1000000 in
set_option maxRecDepth 1000000 in
theorem ldexp_norm (r E F X : Nat) (k : Int) (hE : r = E * 4503599627370496 + F) (hF : F < 4503599627370496) (hE1 : 1 ≤ E) (hE2 : E < 2047) (hX : (E : Int) + k = X) (hX1 : 1 ≤ X) (hX2 : X < 2047) (w : World) :
    Calls Tryd.prog 46 #[.float .f64 r, .int .i64 k] w fun e w' => e = .returned (.float .f64 (X * 4503599627370496 + F)) ∧ w = w' := by
  have h3 := eq_zero r r (by omega) (Nat.mod_eq_of_lt (by omega)) false (decide_eq_false (by omega))
  have H1 := Lib.hid (fun w => isNaN_b r r (by omega) (Nat.mod_eq_of_lt (by omega)) false (decide_eq_false (by omega)) w)
  have H2 := Lib.hid (fun w => isInf_any r r (by omega) (Nat.mod_eq_of_lt (by omega)) false (decide_eq_false (by omega)) w)
  have H3 := Lib.hid (fun w => normalize_norm r (by omega) (by omega) w)
  have hrb : (r : Int) < 9218868437227405312 := by omega
  have hk1 : 1 ≤ (E : Int) + k := by omega
  have hk2 : (E : Int) + k < 2047 := by omega
  have ha : bits .and .i64 ((r : Int) / 4503599627370496) 2047 = (E : Int) := by
    rw [show (r : Int) / 4503599627370496 = ((E : Nat) : Int) by omega]
    exact and_mask E hE2
  replace hE := Aside0.mk hE
  replace hX := Aside0.mk hX
  go_enter Tryd.func46, Tryd.ntmps46
  go_upto_region 9 with (first | (go_at_call 29; refine (H1.out _).mono ?_; rintro e w1 ⟨rfl, rfl⟩) | (go_at_call 30; refine (H2.out _).mono ?_; rintro e w2 ⟨rfl, rfl⟩) | (go_at_call 57; refine (H3.out _).mono ?_; rintro e w3 ⟨rfl, rfl⟩))
  have hY1 : -1022 ≤ k + ((E : Int) - 1023) := by omega
  have hY2 : k + ((E : Int) - 1023) ≤ 1023 := by omega
  have hYX : k + ((E : Int) - 1023) + 1023 = X := by have := hX.out; omega
  have hAN : bits .andNot .u64 (r : Int) 9218868437227405312 = (F : Int) := andNot_exp r E F (by omega) hE.out hF
  have hOR : bits .or .u64 (F : Int) ((X : Int) * 4503599627370496) = ((X * 4503599627370496 + F : Nat) : Int) := or_exp X F hX2 hF
  have hml := fun w => run_float_arith (P := Tryd.prog) w .mul 50 .f64 4607182418800017408 (X * 4503599627370496 + F) (X * 4503599627370496 + F) (mul_one_ false _ (by omega) (by omega))
  generalize k + ((E : Int) - 1023) = Y at *
  clear ha hrb hk1 hk2 H1 H2 H3 h3 hE1 hE2
  go_wp2
  go_ret
  exact ⟨rfl, rfl⟩

set_option maxHeartbeats 1000000 in
set_option maxRecDepth 1000000 in
theorem ldexp_zero (k : Int) (w : World) : Calls Tryd.prog 46 #[.float .f64 0, .int .i64 k] w fun e w' => e = .returned (.float .f64 0) ∧ w = w' := by
  have h3 := eq_zero 0 0 (by decide) rfl true rfl
  go_enter Tryd.func46, Tryd.ntmps46
  go_wp2
  go_ret
  exact ⟨rfl, rfl⟩

/- A number less than each normal one: what comes of it is small. -/
set_option maxHeartbeats 1000000 in
set_option maxRecDepth 1000000 in
theorem ldexp_sub (r : Nat) (h0 : r ≠ 0) (h1 : r < 4503599627370496) :
    ∃ q : Nat, q < 1075 * 4503599627370496 ∧ ∀ w, Calls Tryd.prog 46 #[.float .f64 r, .int .i64 24] w fun e w' => e = .returned (.float .f64 q) ∧ w = w' := by
  obtain ⟨L, hL⟩ : ∃ L, r.log2 = L := ⟨_, rfl⟩
  have hL52 : L < 52 := by rw [← hL]; exact log_lt h0 (by omega)
  have hmu := mul_up false r L h0 hL h1
  obtain ⟨hm1, hm2⟩ := lead r L h0 hL (by omega)
  generalize r * 2 ^ (52 - L) = m at *
  obtain ⟨q, hq⟩ : ∃ q, L * 4503599627370496 + m = q := ⟨_, rfl⟩
  have h3 := eq_zero r r (by omega) (Nat.mod_eq_of_lt (by omega)) false (decide_eq_false h0)
  have H1 := Lib.hid (fun w => isNaN_b r r (by omega) (Nat.mod_eq_of_lt (by omega)) false (decide_eq_false (by omega)) w)
  have H2 := Lib.hid (fun w => isInf_any r r (by omega) (Nat.mod_eq_of_lt (by omega)) false (decide_eq_false (by omega)) w)
  rw [hq] at hmu
  have H3 := Lib.hid (fun w => normalize_sub r q h1 hmu w)
  have ha : bits .and .i64 ((q : Int) / 4503599627370496) 2047 = (L : Int) + 1 := by
    rw [show (q : Int) / 4503599627370496 = ((L + 1 : Nat) : Int) by omega]
    have := and_mask (L + 1) (by omega)
    rw [this]; omega
  obtain ⟨F, hF⟩ : ∃ F, m - 4503599627370496 = F := ⟨_, rfl⟩
  have hqF : q = (L + 1) * 4503599627370496 + F := by omega
  have hFl : F < 4503599627370496 := by omega
  have hAN := andNot_exp q (L + 1) F (by omega) hqF hFl
  have hqb : (q : Int) < 9218868437227405312 := by omega
  replace hq := Aside0.mk hq
  replace hqF := Aside0.mk hqF
  clear hmu h0 h1 hm1 hm2 hF hL
  by_cases h28 : 28 ≤ L
  · obtain ⟨X, hX⟩ : ∃ X, L - 27 = X := ⟨_, rfl⟩
    have hY1 : -1022 ≤ -28 + ((L : Int) + 1 - 1023) := by omega
    have hY2 : -28 + ((L : Int) + 1 - 1023) ≤ 1023 := by omega
    have hYX : -28 + ((L : Int) + 1 - 1023) + 1023 = X := by omega
    have hX1 : 1 ≤ X := by omega
    have hX2 : X < 2047 := by omega
    have hXb : X < 1075 := by omega
    have hOR := or_exp X F hX2 hFl
    have hml := fun w => run_float_arith (P := Tryd.prog) w .mul 50 .f64 4607182418800017408 (X * 4503599627370496 + F) (X * 4503599627370496 + F) (mul_one_ false _ (by omega) (by omega))
    refine ⟨X * 4503599627370496 + F, by omega, fun w => ?_⟩
    replace hml := Lib.hid hml
    replace hOR := Lib.hid hOR
    replace hAN := Lib.hid hAN
    replace hYX := Lib.hid hYX
    go_enter Tryd.func46, Tryd.ntmps46
    go_upto_region 9 with (first | (go_at_call 29; refine (H1.out _).mono ?_; rintro e w1 ⟨rfl, rfl⟩) | (go_at_call 30; refine (H2.out _).mono ?_; rintro e w2 ⟨rfl, rfl⟩) | (go_at_call 57; refine (H3.out _).mono ?_; rintro e w3 ⟨rfl, rfl⟩))
    replace hml := hml.out
    replace hOR := hOR.out
    replace hAN := hAN.out
    replace hYX := hYX.out
    generalize -28 + ((L : Int) + 1 - 1023) = Y at *
    clear ha hqb H1 H2 H3 h3 hX hL52 h28 hXb
    go_wp2
    go_ret
    exact ⟨rfl, rfl⟩
  · obtain ⟨X, hX⟩ : ∃ X, L + 26 = X := ⟨_, rfl⟩
    have hY1 : -1075 ≤ -28 + ((L : Int) + 1 - 1023) := by omega
    have hY2 : -28 + ((L : Int) + 1 - 1023) < -1022 := by omega
    have hYX : -28 + ((L : Int) + 1 - 1023) + 53 + 1023 = X := by omega
    have hX1 : 1 ≤ X := by omega
    have hX2 : X < 2047 := by omega
    have hXb : X < 54 := by omega
    have hOR := or_exp X F hX2 hFl
    obtain ⟨p, hp1, hp2⟩ := mul_down (X * 4503599627370496 + F) (by omega) (by omega)
    have hml := fun w => run_float_arith (P := Tryd.prog) w .mul 50 .f64 4368491638549381120 (X * 4503599627370496 + F) p hp1
    refine ⟨p, by omega, fun w => ?_⟩
    replace hml := Lib.hid hml
    replace hOR := Lib.hid hOR
    replace hAN := Lib.hid hAN
    replace hYX := Lib.hid hYX
    go_enter Tryd.func46, Tryd.ntmps46
    go_upto_region 9 with (first | (go_at_call 29; refine (H1.out _).mono ?_; rintro e w1 ⟨rfl, rfl⟩) | (go_at_call 30; refine (H2.out _).mono ?_; rintro e w2 ⟨rfl, rfl⟩) | (go_at_call 57; refine (H3.out _).mono ?_; rintro e w3 ⟨rfl, rfl⟩))
    replace hml := hml.out
    replace hOR := hOR.out
    replace hAN := hAN.out
    replace hYX := hYX.out
    generalize -28 + ((L : Int) + 1 - 1023) = Y at *
    clear ha hqb H1 H2 H3 h3 hX hL52 h28 hXb hp1 hp2
    go_wp2
    go_ret
    exact ⟨rfl, rfl⟩

/-! ### Ldexp -/
set_option maxHeartbeats 1000000 in
set_option maxRecDepth 1000000 in
theorem Ldexp_of (r : Nat) (k : Int) (w : World) (Q : Ending → World → Prop) (h : Calls Tryd.prog 46 #[.float .f64 r, .int .i64 k] w Q) (hQ : ∀ e w', Q e w' → ∃ q, e = .returned (.float .f64 q)) :
    Calls Tryd.prog 37 #[.float .f64 r, .int .i64 k] w Q := by
  have H := Lib.hid h
  have HQ := Lib.hid hQ
  clear h hQ
  go_enter Tryd.func37, Tryd.ntmps37
  go_wp2_with fail
  refine H.out.mono ?_
  intro e w' h
  obtain ⟨q, rfl⟩ := HQ.out e w' h
  replace h := Lib.hid h
  go_wp2
  exact h.out
end Go.Proofs.YtocmmdheegkbaaaDoor
