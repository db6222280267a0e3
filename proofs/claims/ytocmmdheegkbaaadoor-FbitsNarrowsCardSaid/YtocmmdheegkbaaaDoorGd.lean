/- fbits.widen. -/
import Derived.Test.YtocmmdheegkbaaaDoorGc
import Derived.Deep.QuietTactic
import Derived.BigQuiet
namespace Go.Proofs.YtocmmdheegkbaaaDoor
open Go.RowKit Go.Proofs.YtocmmdheegkbaaaDoorW.PrintWords Go.Proofs.YtocmmdheegkbaaaDoorW.PrintMore
set_option linter.unusedVariables false
set_option linter.unusedSimpArgs false
attribute [local go_sem] ext28 ext36 ext40 andNot_sign emod_tn

theorem or_add (i a b c : Nat) (ha : a % 2 ^ i = 0) (hb : b < 2 ^ i) (hc : a + b = c) (hl : c < 18446744073709551616) (x y : Int) (hx : x = a) (hy : y = b) : bits .or .u64 x y = (c : Int) := by
  subst hx; subst hy
  rw [u64_or_nat _ _ (by omega) (by omega), nat_join i a b ha hb, hc]
theorem and_low (i a m c : Nat) (hm : m = 2 ^ i - 1) (hc : a % 2 ^ i = c) (ha : a < 18446744073709551616) (hml : m < 18446744073709551616) (x y : Int) (hx : x = a) (hy : y = m) : bits .and .u64 x y = (c : Int) := by
  subst hx; subst hy
  rw [u64_and_nat _ _ ha hml, hm, Nat.and_two_pow_sub_one_eq_mod, hc]
theorem W16_of (h s e fr : Nat) (hs : h / 32768 = s) (hs1 : s ≤ 1) (he : h / 1024 % 32 = e) (hf : h % 1024 = fr) : W16 h = s * 9223372036854775808 + R16 e fr := by
  unfold W16 wd
  rw [he, hf, hs]
  rcases (show s = 0 ∨ s = 1 by omega) with rfl | rfl
  · simp
  · simp
theorem W32_of (h s e fr : Nat) (hs : h / 2147483648 = s) (hs1 : s ≤ 1) (he : h / 8388608 % 256 = e) (hf : h % 8388608 = fr) : W32 h = s * 9223372036854775808 + R32 e fr := by
  unfold W32 wd
  rw [he, hf, hs]
  rcases (show s = 0 ∨ s = 1 by omega) with rfl | rfl
  · simp
  · simp

theorem sub_sum (s W Y m q : Nat) (hW : W = s * 9223372036854775808 + (Y * 4503599627370496 + m)) (hq : (Y + 1) * 4503599627370496 + (m - 4503599627370496) = q) (hm1 : 4503599627370496 ≤ m) (hm2 : m < 9007199254740992) (hs : s ≤ 1) (hY : Y ≤ 2000) :
    q < 2 ^ 63 ∧ s * 9223372036854775808 + q = W ∧ W < 18446744073709551616 := by
  have e : q = Y * 4503599627370496 + m := by omega
  rw [e]
  refine ⟨by omega, hW.symm, by omega⟩
theorem ldexp_q (r q L m : Nat) (k : Int) (X : Nat) (hr : (L + 1022) * 4503599627370496 + m = r) (hq : X * 4503599627370496 + (m - 4503599627370496) = q) (hm1 : 4503599627370496 ≤ m) (hm2 : m < 9007199254740992) (hL : L < 52) (hX : ((L + 1023 : Nat) : Int) + k = X) (hX1 : 1 ≤ X) (hX2 : X < 2047) (w : World) :
    Calls Tryd.prog 46 #[.float .f64 r, .int .i64 k] w fun e w' => e = .returned (.float .f64 q) ∧ w = w' := by
  subst hq
  exact ldexp_norm r (L + 1023) (m - 4503599627370496) X k (by omega) (by omega) (by omega) (by omega) hX hX1 hX2 w
set_option maxHeartbeats 1000000 in
set_option maxRecDepth 1000000 in
theorem widen_half (h : Nat) (hh : h < 65536) (w : World) : Calls Tryd.prog 23 #[.int .u64 (h : Int), .agg #[.int .i64 5, .int .i64 10]] w fun e w' => e = .returned (.int .u64 (W16 h)) ∧ Below w.heap.size w w' := by
  obtain ⟨s, hs⟩ : ∃ s, h / 32768 = s := ⟨_, rfl⟩
  obtain ⟨e, he⟩ : ∃ e, h / 1024 % 32 = e := ⟨_, rfl⟩
  obtain ⟨f, hf⟩ : ∃ f, h % 1024 = f := ⟨_, rfl⟩
  have hs1 : s ≤ 1 := by omega
  have he1 : e < 32 := by omega
  have hf1 : f < 1024 := by omega
  have hW := W16_of h s e f hs hs1 he hf
  have hS : (h : Int) / 32768 = (s : Int) := by omega
  have hA1 : bits .and .u64 ((h : Int) / 1024) 31 = (e : Int) := and_low 5 (h / 1024) 31 e rfl he (by omega) (by decide) _ _ (by omega) rfl
  have hA2 : bits .and .u64 (h : Int) 1023 = (f : Int) := and_low 10 h 1023 f rfl hf (by omega) (by decide) _ _ rfl rfl
  obtain ⟨W, hWW⟩ : ∃ W, W16 h = W := ⟨_, rfl⟩
  rw [hWW] at hW ⊢
  clear hWW hs he hf
  by_cases c1 : e = 31
  · obtain ⟨p, hp⟩ : ∃ p, s * 9223372036854775808 + 9218868437227405312 = p := ⟨_, rfl⟩
    have hO1 : bits .or .u64 ((s : Int) * 9223372036854775808) 9218868437227405312 = (p : Int) := or_add 63 (s * 9223372036854775808) 9218868437227405312 p (by omega) (by decide) hp (by omega) _ _ (by omega) rfl
    have hO2 : bits .or .u64 (p : Int) ((f : Int) * 4398046511104) = (W : Int) := or_add 52 p (f * 4398046511104) W (by omega) (by omega) (by have := hW; unfold R16 at this; rw [if_pos c1] at this; omega) (by have := R16_lt e f he1 hf1; omega) _ _ rfl (by omega)
    subst c1
    clear hp hW
    go_enter Tryd.func23, Tryd.ntmps23
    go_wp2
    go_quiet (fail)
    go_wp2
    go_quiet (fail)
    go_wp2
    go_ret
    exact ⟨rfl, pw_below_drewN (below_alloc (Below.refl _ _) _) _⟩
  by_cases c2 : e = 0
  · by_cases c3 : f = 0
    · subst c2; subst c3
      have hO : bits .or .u64 ((s : Int) * 9223372036854775808) 0 = (W : Int) := or_add 63 (s * 9223372036854775808) 0 W (by omega) (by decide) (by rw [hW]; rfl) (by have := R16_lt 0 0 (by decide) (by decide); omega) _ _ (by omega) rfl
      have hcv : floatOfInt .f64 0 = 0 := of_zero
      have HL := Lib.hid (fun w => Ldexp_of 0 (-24) w _ (ldexp_zero (-24) w) (fun e w' h => ⟨0, h.1⟩))
      clear hW c1
      go_enter Tryd.func23, Tryd.ntmps23
      go_wp2
      go_quiet (fail)
      go_wp2
      go_quiet (fail)
      go_wp2_with (refine (HL.out _).mono ?_; rintro e w1 ⟨rfl, rfl⟩)
      go_ret
      exact ⟨rfl, pw_below_drewN (below_alloc (Below.refl _ _) _) _⟩
    · subst c2
      rw [R16_sub f c3 hf1] at hW
      obtain ⟨hm1, hm2⟩ := lead' f c3 (by omega)
      have hL1 : f.log2 < 10 := log_lt c3 hf1
      have hof := of_int f f.log2 c3 rfl (by omega)
      obtain ⟨L, hL⟩ : ∃ L, f.log2 = L := ⟨_, rfl⟩
      rw [hL] at hm1 hm2 hL1 hof hW
      obtain ⟨m, hm⟩ : ∃ m, f * 2 ^ (52 - L) = m := ⟨_, rfl⟩
      rw [hm] at hm1 hm2 hof hW
      obtain ⟨r, hr⟩ : ∃ r, (L + 1022) * 4503599627370496 + m = r := ⟨_, rfl⟩
      obtain ⟨q, hq⟩ : ∃ q, (L + 999) * 4503599627370496 + (m - 4503599627370496) = q := ⟨_, rfl⟩
      have hcv : floatOfInt .f64 (f : Int) = r := by
        show FloatKind.nearest .f64 (f : Int) = r
        rw [hof, hr]; rfl
      have hn := ldexp_q r q L m (-24) (L + 999) hr hq hm1 hm2 (by omega) (by omega) (by omega) (by omega)
      have HL := Lib.hid (fun w => Ldexp_of r (-24) w _ (hn w) (fun e w' h => ⟨q, h.1⟩))
      obtain ⟨g1, g2, g3⟩ := sub_sum s W (L + 998) m q hW hq hm1 hm2 hs1 (by omega)
      have hO : bits .or .u64 ((s : Int) * 9223372036854775808) (q : Int) = (W : Int) := or_add 63 (s * 9223372036854775808) q W (by omega) g1 g2 g3 _ _ (by omega) rfl
      clear g1 g2 g3
      have hf0 : ¬ (f : Int) = 0 := by omega
      clear hW c1 hof hm hL hr hq hm1 hm2 hL1 hn
      go_enter Tryd.func23, Tryd.ntmps23
      go_wp2
      go_quiet (fail)
      go_wp2
      go_quiet (fail)
      go_wp2_with (refine (HL.out _).mono ?_; rintro e w1 ⟨rfl, rfl⟩)
      go_ret
      exact ⟨rfl, pw_below_drewN (below_alloc (Below.refl _ _) _) _⟩
  · unfold R16 at hW
    rw [if_neg c1, if_neg c2] at hW
    obtain ⟨p, hp⟩ : ∃ p, s * 9223372036854775808 + (e + 1008) * 4503599627370496 = p := ⟨_, rfl⟩
    have hO1 : bits .or .u64 ((s : Int) * 9223372036854775808) (((e : Int) - 15 + 1023) * 4503599627370496) = (p : Int) := or_add 63 (s * 9223372036854775808) ((e + 1008) * 4503599627370496) p (by omega) (by omega) hp (by omega) _ _ (by omega) (by omega)
    have hO2 : bits .or .u64 (p : Int) ((f : Int) * 4398046511104) = (W : Int) := or_add 52 p (f * 4398046511104) W (by omega) (by omega) (by omega) (by omega) _ _ rfl (by omega)
    have e1 : ((e : Int) == 31) = false := beq_eq_false_iff_ne.2 (by omega)
    have e2 : ((e : Int) == 0) = false := beq_eq_false_iff_ne.2 (by omega)
    have e3 : 1 ≤ e := by omega
    clear hp hW c1 c2
    go_enter Tryd.func23, Tryd.ntmps23
    go_wp2
    go_quiet (fail)
    go_wp2
    go_quiet (fail)
    go_wp2
    go_ret
    exact ⟨rfl, pw_below_drewN (below_alloc (Below.refl _ _) _) _⟩

set_option maxHeartbeats 1000000 in
set_option maxRecDepth 1000000 in
theorem widen_single (h : Nat) (hh : h < 4294967296) (w : World) : Calls Tryd.prog 23 #[.int .u64 (h : Int), .agg #[.int .i64 8, .int .i64 23]] w fun e w' => e = .returned (.int .u64 (W32 h)) ∧ Below w.heap.size w w' := by
  obtain ⟨s, hs⟩ : ∃ s, h / 2147483648 = s := ⟨_, rfl⟩
  obtain ⟨e, he⟩ : ∃ e, h / 8388608 % 256 = e := ⟨_, rfl⟩
  obtain ⟨f, hf⟩ : ∃ f, h % 8388608 = f := ⟨_, rfl⟩
  have hs1 : s ≤ 1 := by omega
  have he1 : e < 256 := by omega
  have hf1 : f < 8388608 := by omega
  have hW := W32_of h s e f hs hs1 he hf
  have hS : (h : Int) / 2147483648 = (s : Int) := by omega
  have hA1 : bits .and .u64 ((h : Int) / 8388608) 255 = (e : Int) := and_low 8 (h / 8388608) 255 e rfl he (by omega) (by decide) _ _ (by omega) rfl
  have hA2 : bits .and .u64 (h : Int) 8388607 = (f : Int) := and_low 23 h 8388607 f rfl hf (by omega) (by decide) _ _ rfl rfl
  obtain ⟨W, hWW⟩ : ∃ W, W32 h = W := ⟨_, rfl⟩
  rw [hWW] at hW ⊢
  clear hWW hs he hf
  by_cases c1 : e = 255
  · obtain ⟨p, hp⟩ : ∃ p, s * 9223372036854775808 + 9218868437227405312 = p := ⟨_, rfl⟩
    have hO1 : bits .or .u64 ((s : Int) * 9223372036854775808) 9218868437227405312 = (p : Int) := or_add 63 (s * 9223372036854775808) 9218868437227405312 p (by omega) (by decide) hp (by omega) _ _ (by omega) rfl
    have hO2 : bits .or .u64 (p : Int) ((f : Int) * 536870912) = (W : Int) := or_add 52 p (f * 536870912) W (by omega) (by omega) (by have := hW; unfold R32 at this; rw [if_pos c1] at this; omega) (by have := R32_lt e f he1 hf1; omega) _ _ rfl (by omega)
    subst c1
    clear hp hW
    go_enter Tryd.func23, Tryd.ntmps23
    go_wp2
    go_quiet (fail)
    go_wp2
    go_quiet (fail)
    go_wp2
    go_ret
    exact ⟨rfl, pw_below_drewN (below_alloc (Below.refl _ _) _) _⟩
  by_cases c2 : e = 0
  · by_cases c3 : f = 0
    · subst c2; subst c3
      have hO : bits .or .u64 ((s : Int) * 9223372036854775808) 0 = (W : Int) := or_add 63 (s * 9223372036854775808) 0 W (by omega) (by decide) (by rw [hW]; rfl) (by have := R32_lt 0 0 (by decide) (by decide); omega) _ _ (by omega) rfl
      have hcv : floatOfInt .f64 0 = 0 := of_zero
      have HL := Lib.hid (fun w => Ldexp_of 0 (-149) w _ (ldexp_zero (-149) w) (fun e w' h => ⟨0, h.1⟩))
      clear hW c1
      go_enter Tryd.func23, Tryd.ntmps23
      go_wp2
      go_quiet (fail)
      go_wp2
      go_quiet (fail)
      go_wp2_with (refine (HL.out _).mono ?_; rintro e w1 ⟨rfl, rfl⟩)
      go_ret
      exact ⟨rfl, pw_below_drewN (below_alloc (Below.refl _ _) _) _⟩
    · subst c2
      rw [R32_sub f c3 hf1] at hW
      obtain ⟨hm1, hm2⟩ := lead' f c3 (by omega)
      have hL1 : f.log2 < 23 := log_lt c3 hf1
      have hof := of_int f f.log2 c3 rfl (by omega)
      obtain ⟨L, hL⟩ : ∃ L, f.log2 = L := ⟨_, rfl⟩
      rw [hL] at hm1 hm2 hL1 hof hW
      obtain ⟨m, hm⟩ : ∃ m, f * 2 ^ (52 - L) = m := ⟨_, rfl⟩
      rw [hm] at hm1 hm2 hof hW
      obtain ⟨r, hr⟩ : ∃ r, (L + 1022) * 4503599627370496 + m = r := ⟨_, rfl⟩
      obtain ⟨q, hq⟩ : ∃ q, (L + 874) * 4503599627370496 + (m - 4503599627370496) = q := ⟨_, rfl⟩
      have hcv : floatOfInt .f64 (f : Int) = r := by
        show FloatKind.nearest .f64 (f : Int) = r
        rw [hof, hr]; rfl
      have hn := ldexp_q r q L m (-149) (L + 874) hr hq hm1 hm2 (by omega) (by omega) (by omega) (by omega)
      have HL := Lib.hid (fun w => Ldexp_of r (-149) w _ (hn w) (fun e w' h => ⟨q, h.1⟩))
      obtain ⟨g1, g2, g3⟩ := sub_sum s W (L + 873) m q hW hq hm1 hm2 hs1 (by omega)
      have hO : bits .or .u64 ((s : Int) * 9223372036854775808) (q : Int) = (W : Int) := or_add 63 (s * 9223372036854775808) q W (by omega) g1 g2 g3 _ _ (by omega) rfl
      clear g1 g2 g3
      have hf0 : ¬ (f : Int) = 0 := by omega
      clear hW c1 hof hm hL hr hq hm1 hm2 hL1 hn
      go_enter Tryd.func23, Tryd.ntmps23
      go_wp2
      go_quiet (fail)
      go_wp2
      go_quiet (fail)
      go_wp2_with (refine (HL.out _).mono ?_; rintro e w1 ⟨rfl, rfl⟩)
      go_ret
      exact ⟨rfl, pw_below_drewN (below_alloc (Below.refl _ _) _) _⟩
  · unfold R32 at hW
    rw [if_neg c1, if_neg c2] at hW
    obtain ⟨p, hp⟩ : ∃ p, s * 9223372036854775808 + (e + 896) * 4503599627370496 = p := ⟨_, rfl⟩
    have hO1 : bits .or .u64 ((s : Int) * 9223372036854775808) (((e : Int) - 127 + 1023) * 4503599627370496) = (p : Int) := or_add 63 (s * 9223372036854775808) ((e + 896) * 4503599627370496) p (by omega) (by omega) hp (by omega) _ _ (by omega) (by omega)
    have hO2 : bits .or .u64 (p : Int) ((f : Int) * 536870912) = (W : Int) := or_add 52 p (f * 536870912) W (by omega) (by omega) (by omega) (by omega) _ _ rfl (by omega)
    have e1 : ((e : Int) == 255) = false := beq_eq_false_iff_ne.2 (by omega)
    have e2 : ((e : Int) == 0) = false := beq_eq_false_iff_ne.2 (by omega)
    have e3 : 1 ≤ e := by omega
    clear hp hW c1 c2
    go_enter Tryd.func23, Tryd.ntmps23
    go_wp2
    go_quiet (fail)
    go_wp2
    go_quiet (fail)
    go_wp2
    go_ret
    exact ⟨rfl, pw_below_drewN (below_alloc (Below.refl _ _) _) _⟩

end Go.Proofs.YtocmmdheegkbaaaDoor
