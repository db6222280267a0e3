/- fbits.guess, half. -/
import Derived.Test.YtocmmdheegkbaaaDoorGe
import Derived.Deep.DeepCutAuto
namespace Go.Proofs.YtocmmdheegkbaaaDoor
open Go.RowKit Go.Proofs.YtocmmdheegkbaaaDoorW.PrintWords Go.Proofs.YtocmmdheegkbaaaDoorW.PrintMore
set_option linter.unusedVariables false
set_option linter.unusedSimpArgs false
attribute [local go_sem] ext28 ext36 ext40 andNot_sign emod_tn

theorem quiet_add_left {P : Program} {f : FuncId} {args : Array Value} {w : World} {a n : Nat} {v : Value}
    (h : Calls P f args (w.drewN (a + n)) fun e w' => e = .returned v ∧ w.drewN (a + n) = w') :
    Calls P f args (w.drewN (a + n)) fun e w'' => e = .returned v ∧ ∃ m, w'' = w.drewN (a + m) :=
  h.mono fun _ _ ⟨he, hm⟩ => ⟨he, n, hm.symm⟩

theorem R16_ge (e f : Nat) (he : 1 ≤ e) : 1009 * 4503599627370496 ≤ R16 e f := by
  unfold R16
  split
  · omega
  · rw [if_neg (by omega)]; omega
theorem lin_he (K L m r E F q : Nat) (h1 : (L + 998) * K + m = r) (h2 : K * E + F = r) (h3 : (E + 24) * K + F = q) : (L + 1022) * K + m = q := by
  rw [Nat.add_mul] at h1 h3 ⊢
  rw [Nat.mul_comm E K] at h3
  omega
/-- What becomes of a number that is too small for a normal pattern of 16 bits. -/
theorem half_small (r : Nat) (hr : r < 1009 * 4503599627370496) : ∃ q n : Nat, (∀ w, Calls Tryd.prog 37 #[.float .f64 r, .int .i64 24] w fun e w' => e = .returned (.float .f64 q) ∧ w = w') ∧
    floatToIntVal .f64 q .u64 = some (n : Int) ∧ n < 9007199254740992 ∧ ∀ f, f < 1024 → R16 0 f = r → n = f := by
  by_cases h0 : r = 0
  · subst h0
    refine ⟨0, 0, fun w => Ldexp_of 0 24 w _ (ldexp_zero 24 w) (fun e w' h => ⟨0, h.1⟩), to_int_zero 0 (by decide), by decide, fun f hf hR => ?_⟩
    by_cases hf0 : f = 0
    · exact hf0.symm
    · rw [R16_sub f hf0 hf] at hR
      have := lead' f hf0 (by omega)
      omega
  by_cases h1 : r < 4503599627370496
  · obtain ⟨q, hq, hc⟩ := ldexp_sub r h0 h1
    obtain ⟨n, hn1, hn2⟩ := to_int q hq
    refine ⟨q, n, fun w => Ldexp_of r 24 w _ (hc w) (fun e w' h => ⟨q, h.1⟩), hn1, hn2, fun f hf hR => ?_⟩
    by_cases hf0 : f = 0
    · subst hf0; exact absurd hR.symm h0
    · rw [R16_sub f hf0 hf] at hR
      have := lead' f hf0 (by omega)
      omega
  · obtain ⟨E, hE⟩ : ∃ E, r / 4503599627370496 = E := ⟨_, rfl⟩
    obtain ⟨F, hF⟩ : ∃ F, r % 4503599627370496 = F := ⟨_, rfl⟩
    have hdm := Nat.div_add_mod r 4503599627370496
    rw [hE, hF] at hdm
    have hFl : F < 4503599627370496 := by omega
    have hE1 : 1 ≤ E := by omega
    have hE3 : E < 1009 := by omega
    clear hE hF h1
    have hc := ldexp_norm r E F (E + 24) 24 (by omega) hFl hE1 (by omega) (by omega) (by omega) (by omega)
    obtain ⟨q, hqq⟩ : ∃ q, (E + 24) * 4503599627370496 + F = q := ⟨_, rfl⟩
    simp only [hqq] at hc
    obtain ⟨n, hn1, hn2⟩ := to_int q (by omega)
    refine ⟨q, n, fun w => Ldexp_of r 24 w _ (hc w) (fun e w' h => ⟨q, h.1⟩), hn1, hn2, fun f hf hR => ?_⟩
    by_cases hf0 : f = 0
    · subst hf0; exact absurd hR.symm h0
    · rw [R16_sub f hf0 hf] at hR
      obtain ⟨hm1, hm2⟩ := lead' f hf0 (by omega)
      have hL1 : f.log2 < 10 := log_lt hf0 hf
      have hx := to_int_exact f f.log2 hf0 rfl (by omega)
      obtain ⟨L, hL⟩ : ∃ L, f.log2 = L := ⟨_, rfl⟩
      rw [hL] at hm1 hm2 hL1 hx hR
      obtain ⟨m, hm⟩ : ∃ m, f * 2 ^ (52 - L) = m := ⟨_, rfl⟩
      rw [hm] at hm1 hm2 hx hR
      clear hm
      have he := lin_he 4503599627370496 L m r E F q hR hdm hqq
      rw [he] at hx
      have h2 := hn1.symm.trans hx
      injection h2 with h2
      omega

/-- A guess: it finds the pattern of 16 bits that is b's, if there is one. -/
def Said16 (b : Nat) (w : World) (e : Ending) (w' : World) : Prop := ∃ g : Nat, e = .returned (.int .u64 g) ∧ g < 65536 ∧ (∀ h, h < 65536 → W16 h = b → g = h) ∧ Below w.heap.size w w'

theorem found16 (b s r g : Nat) (hs : b / 9223372036854775808 = s) (hr : b % 9223372036854775808 = r) (hs1 : s ≤ 1) (hg : s * 32768 + T16 r = g) : ∀ h, h < 65536 → W16 h = b → g = h := by
  intro h hh hW
  have h1 := I16_W16 h hh
  rw [hW] at h1
  unfold I16 at h1
  rw [hr] at h1
  omega

set_option maxHeartbeats 1000000 in
set_option maxRecDepth 1000000 in
theorem guess_half (b : Nat) (hb : b < 18446744073709551616) (w : World) (hS : Shapes w) : Calls Tryd.prog 26 #[.int .u64 (b : Int), .agg #[.int .i64 5, .int .i64 10]] w (Said16 b w) := by
  obtain ⟨s, hs⟩ : ∃ s, b / 9223372036854775808 = s := ⟨_, rfl⟩
  obtain ⟨r, hr⟩ : ∃ r, b % 9223372036854775808 = r := ⟨_, rfl⟩
  have hs1 : s ≤ 1 := by omega
  have hr1 : r < 9223372036854775808 := by omega
  have hSg : (b : Int) / 9223372036854775808 = (s : Int) := by omega
  have HC := Lib.hid (fun w => class_any b hb w)
  obtain ⟨c, hc⟩ : ∃ c, Cls b = c := ⟨_, rfl⟩
  have hcl := hc
  unfold Cls at hcl
  rw [hr] at hcl
  rw [hc] at HC
  obtain ⟨hh0, hh1, hh2, hh3⟩ := hS
  have hh4 := cell_later (below_alloc (Below.refl w.heap.size w) (.cells #[.int .i64 5, .int .i64 10] 44)) hh2
  have hh5 := cell_later (below_alloc (Below.refl w.heap.size w) (.cells #[.int .i64 5, .int .i64 10] 44)) hh3
  clear hh0 hh1 hh2 hh3
  have hFF : IntKind.u64.wrap ((b : Int) * 4096) / 18014398509481984 = ((r % 4503599627370496 / 4398046511104 : Nat) : Int) := by rw [IntKind.wrap_u64]; omega
  obtain ⟨F, hF⟩ : ∃ F, r % 4503599627370496 / 4398046511104 = F := ⟨_, rfl⟩
  rw [hF] at hFF
  have heq : ∀ w, (Op.equalIn 10000 44 (.agg #[.int .i64 5, .int .i64 10]) (.agg #[.int .i64 8, .int .i64 23])).run Tryd.prog w = .ok false w := fun w => by kernel_rfl
  by_cases c4 : 9218868437227405312 ≤ r
  · have hcg : 4 ≤ c := by
      by_cases x : 9218868437227405312 < r
      · rw [if_pos x] at hcl; omega
      · rw [if_neg x, if_pos (by omega)] at hcl; omega
    have hT : T16 r = 31744 + F := by unfold T16; rw [if_neg (by omega), if_pos c4, hF]
    obtain ⟨p, hp⟩ : ∃ p, s * 32768 + 31744 = p := ⟨_, rfl⟩
    obtain ⟨g, hg⟩ : ∃ g, p + F = g := ⟨_, rfl⟩
    have hO1 : bits .or .u64 ((s : Int) * 32768) 31744 = (p : Int) := or_add 15 (s * 32768) 31744 p (by omega) (by decide) hp (by omega) _ _ (by omega) rfl
    have hO2 : bits .or .u64 (p : Int) (F : Int) = (g : Int) := or_add 10 p F g (by omega) (by omega) hg (by omega) _ _ rfl rfl
    have fin := found16 b s r g hs hr hs1 (by omega)
    have hg2 : g < 65536 := by omega
    replace fin := Lib.hid fin
    clear hT hp hg hF hcl hs hr hr1 c4 hc
    go_enter Tryd.func26, Tryd.ntmps26
    go_wp2
    go_quiet (fail)
    go_wp2_with (refine (HC.out _).mono ?_; rintro e w1 ⟨rfl, rfl⟩)
    go_quiet (fail)
    go_wp2
    go_ret
    exact ⟨g, rfl, hg2, fin.out, pw_below_drewN (pw_below_drewN (below_alloc (Below.refl _ _) _) _) _⟩
  have hcg : ¬ 4 ≤ c := by
    rw [if_neg (by omega), if_neg (by omega)] at hcl
    split at hcl <;> (try split at hcl) <;> omega
  have hcd : decide ((c : Int) ≥ 4) = false := decide_eq_false (by omega)
  have hcd2 : decide ((4 : Int) ≤ (c : Int)) = false := decide_eq_false (by omega)
  obtain ⟨E, hE⟩ : ∃ E, r / 4503599627370496 = E := ⟨_, rfl⟩
  have hA := fun w => abs_any b hb w
  rw [hr] at hA
  replace hA := Lib.hid hA
  have hM : bits .and .u64 ((b : Int) / 4503599627370496) 2047 = (E : Int) := and_low 11 (b / 4503599627370496) 2047 E rfl (by omega) (by omega) (by decide) _ _ (by omega) rfl
  have hE2 : E < 2047 := by omega
  by_cases c5 : 1039 ≤ E
  · have hT : T16 r = 0 := by unfold T16; rw [if_neg (by omega), if_neg c4, if_pos (by omega)]
    obtain ⟨g, hg⟩ : ∃ g, s * 32768 = g := ⟨_, rfl⟩
    have fin := found16 b s r g hs hr hs1 (by omega)
    have hg2 : g < 65536 := by omega
    have hgi : (s : Int) * 32768 = (g : Int) := by omega
    replace fin := Lib.hid fin
    replace hgi := Lib.hid hgi
    have e1 : (31 : Int) ≤ (E : Int) - 1023 + 15 := by omega
    clear hT hg hF hFF hcl hs hr hr1 c4 hc hcg hE
    go_enter Tryd.func26, Tryd.ntmps26
    go_wp2
    go_quiet (fail)
    go_wp2_with (first | (go_at_call 16; refine (HC.out _).mono ?_; rintro e w1 ⟨rfl, rfl⟩) | (go_at_call 31; refine (hA.out _).mono ?_; rintro e w2 ⟨rfl, rfl⟩))
    go_ret
    exact ⟨g, congrArg (fun x => Ending.returned (.int .u64 x)) hgi.out, hg2, fin.out, pw_below_drewN (below_alloc (Below.refl _ _) _) _⟩
  by_cases c6 : E < 1009
  · obtain ⟨q, n, HLd, hn1, hn2, himg⟩ := half_small r (by omega)
    have hcv := fun w => run_convert_float_int (P := Tryd.prog) w 50 25 .f64 .u64 q (n : Int) (by kernel_rfl) Tryd.underlying25 hn1
    obtain ⟨k, hk⟩ : ∃ k, n % 1024 = k := ⟨_, rfl⟩
    obtain ⟨g, hg⟩ : ∃ g, s * 32768 + k = g := ⟨_, rfl⟩
    have hAn : bits .and .u64 (n : Int) 1023 = (k : Int) := and_low 10 n 1023 k rfl hk (by omega) (by decide) _ _ rfl rfl
    have hOr : bits .or .u64 ((s : Int) * 32768) (k : Int) = (g : Int) := or_add 15 (s * 32768) k g (by omega) (by omega) hg (by omega) _ _ (by omega) rfl
    have fin : ∀ h, h < 65536 → W16 h = b → g = h := by
      intro h hh hW
      have h1 := I16_W16 h hh
      rw [hW] at h1
      unfold I16 at h1
      rw [hr] at h1
      have hRr : R16 (h / 1024 % 32) (h % 1024) = r := by
        have hb2 := R16_lt (h / 1024 % 32) (h % 1024) (by omega) (by omega)
        have := (wd_div (h / 32768 % 2 == 1) _ hb2).2.1
        rw [← hr, ← hW]; exact this.symm
      have he0 : h / 1024 % 32 = 0 := by
        apply Decidable.byContradiction
        intro hne
        have := R16_ge (h / 1024 % 32) (h % 1024) (by omega)
        omega
      rw [he0] at hRr
      have hT := T16_R16 0 (h % 1024) (by decide) (by omega)
      rw [hRr] at hT
      have := himg (h % 1024) (by omega) hRr
      omega
    have hg2 : g < 65536 := by omega
    have e1 : decide ((E : Int) - 1023 + 15 ≥ 31) = false := decide_eq_false (by omega)
    have e2 : (E : Int) - 1023 + 15 < 1 := by omega
    have e3 : ¬ (31 : Int) ≤ (E : Int) - 1023 + 15 := by omega
    replace fin := Lib.hid fin
    replace HLd := Lib.hid HLd
    clear himg hn1 hk hg hF hFF hcl hs hr hr1 c4 hc hcg hE
    go_enter Tryd.func26, Tryd.ntmps26
    go_wp2
    go_quiet (fail)
    go_wp2_with (first | (go_at_call 16; refine (HC.out _).mono ?_; rintro e w1 ⟨rfl, rfl⟩) | (go_at_call 31; refine (hA.out _).mono ?_; rintro e w2 ⟨rfl, rfl⟩))
    go_quiet ((go_at_call 37; exact quiet_add_left (HLd.out _)))
    go_wp2
    go_ret
    exact ⟨g, rfl, hg2, fin.out, pw_below_drewN (pw_below_drewN (below_alloc (Below.refl _ _) _) _) _⟩
  · have hT : T16 r = (E - 1008) * 1024 + F := by unfold T16; rw [if_neg (by omega), if_neg c4, hE, if_neg (by omega), if_pos (by omega), hF]
    obtain ⟨p, hp⟩ : ∃ p, s * 32768 + (E - 1008) * 1024 = p := ⟨_, rfl⟩
    obtain ⟨g, hg⟩ : ∃ g, p + F = g := ⟨_, rfl⟩
    have hO1 : bits .or .u64 ((s : Int) * 32768) (((E : Int) - 1023 + 15) * 1024) = (p : Int) := or_add 15 (s * 32768) ((E - 1008) * 1024) p (by omega) (by omega) hp (by omega) _ _ (by omega) (by omega)
    have hO2 : bits .or .u64 (p : Int) (F : Int) = (g : Int) := or_add 10 p F g (by omega) (by omega) hg (by omega) _ _ rfl rfl
    have fin := found16 b s r g hs hr hs1 (by omega)
    have hg2 : g < 65536 := by omega
    replace fin := Lib.hid fin
    have e1 : decide ((E : Int) - 1023 + 15 ≥ 31) = false := decide_eq_false (by omega)
    have e2 : ¬ (E : Int) - 1023 + 15 < 1 := by omega
    have e3 : ¬ (31 : Int) ≤ (E : Int) - 1023 + 15 := by omega
    have e4 : 1009 ≤ E := by omega
    clear hT hp hg hF hcl hs hr hr1 c4 hc hcg hE c6
    go_enter Tryd.func26, Tryd.ntmps26
    go_wp2
    go_quiet (fail)
    go_wp2_with (first | (go_at_call 16; refine (HC.out _).mono ?_; rintro e w1 ⟨rfl, rfl⟩) | (go_at_call 31; refine (hA.out _).mono ?_; rintro e w2 ⟨rfl, rfl⟩))
    go_quiet (fail)
    go_wp2
    go_ret
    exact ⟨g, rfl, hg2, fin.out, pw_below_drewN (pw_below_drewN (below_alloc (Below.refl _ _) _) _) _⟩
end Go.Proofs.YtocmmdheegkbaaaDoor
