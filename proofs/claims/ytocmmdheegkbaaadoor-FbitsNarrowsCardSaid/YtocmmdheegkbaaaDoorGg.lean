/- fbits.guess, single. -/
import Derived.Test.YtocmmdheegkbaaaDoorGf
namespace Go.Proofs.YtocmmdheegkbaaaDoor
open Go.RowKit Go.Proofs.YtocmmdheegkbaaaDoorW.PrintWords Go.Proofs.YtocmmdheegkbaaaDoorW.PrintMore
set_option linter.unusedVariables false
set_option linter.unusedSimpArgs false
attribute [local go_sem] ext28 ext36 ext40 andNot_sign emod_tn

theorem single_img (e f : Nat) (he : e < 255) (hf : f < 8388608) (r : Nat) (hR : R32 e f = r) : floatToFloatBits .f64 r .f32 = some (e * 8388608 + f) := by
  by_cases c0 : e = 0
  · subst c0
    by_cases hf0 : f = 0
    · subst hf0; subst hR; exact single_zero
    · rw [R32_sub f hf0 hf] at hR
      have h := single_sub f f.log2 hf0 rfl hf
      rw [hR] at h
      rw [show r = wd false r from rfl, h]
      congr 1; omega
  · unfold R32 at hR
    rw [if_neg (by omega), if_neg c0] at hR
    have h := single_norm e f (by omega) (by omega) hf
    rw [hR] at h
    exact h
/-- A number too great for 32 bits: any. -/
theorem conv_none (r : Nat) (hr : r < 9218868437227405312) (h : floatToFloatBits .f64 r .f32 = none) (w : World) : ∃ v : Nat, v < 4294967296 ∧ (convert 50 66 (.float .f64 r)).run Tryd.prog w = .ok (.float .f32 v) w.drew := by
  obtain ⟨m, k, h1, _⟩ := rd_fin false r hr
  have hd : FloatKind.decode .f64 r = .number false m (-1074 + (k : Int)) := h1
  unfold floatToFloatBits at h
  rw [if_neg (by decide), hd] at h
  simp only at h
  split at h
  · rename_i hi
    refine ⟨(Question.floatToFloat r).cut (w.tape w.drawn (.floatToFloat r)), ?_, ?_⟩
    · exact Nat.mod_lt _ (by decide)
    · simp [convert, run_underlying Tryd.underlying50, run_underlying Tryd.underlying66, Conv.floatToFloat, hd, hi, Question.forced, Result.andThen]
  · cases h

def Said32 (b : Nat) (w : World) (e : Ending) (w' : World) : Prop := ∃ g : Nat, e = .returned (.int .u64 g) ∧ g < 4294967296 ∧ (∀ h, h < 4294967296 → W32 h = b → g = h) ∧ Below w.heap.size w w'
theorem found32 (b s r g : Nat) (hs : b / 9223372036854775808 = s) (hr : b % 9223372036854775808 = r) (hs1 : s ≤ 1) (hg : s * 2147483648 + T32 r = g) : ∀ h, h < 4294967296 → W32 h = b → g = h := by
  intro h hh hW
  have h1 := I32_W32 h hh
  rw [hW] at h1
  unfold I32 at h1
  rw [hr] at h1
  omega
/-- What is one's lies within 32 bits. -/
theorem img32 (b s r h : Nat) (hs : b / 9223372036854775808 = s) (hr : b % 9223372036854775808 = r) (hs1 : s ≤ 1) (hr2 : r < 9218868437227405312) (hh : h < 4294967296) (hW : W32 h = b) :
    floatToFloatBits .f64 r .f32 = some (T32 r) ∧ s * 2147483648 + T32 r = h := by
  refine ⟨?_, found32 b s r _ hs hr hs1 rfl h hh hW⟩
  have hRr : R32 (h / 8388608 % 256) (h % 8388608) = r := by
    have hb2 := R32_lt (h / 8388608 % 256) (h % 8388608) (by omega) (by omega)
    have := (wd_div (h / 2147483648 % 2 == 1) _ hb2).2.1
    rw [← hr, ← hW]; exact this.symm
  have hne : h / 8388608 % 256 ≠ 255 := by
    intro c
    unfold R32 at hRr
    rw [if_pos c] at hRr
    omega
  have hT := T32_R32 (h / 8388608 % 256) (h % 8388608) (by omega) (by omega)
  rw [hRr] at hT
  rw [hT]
  exact single_img _ _ (by omega) (by omega) r hRr

set_option maxHeartbeats 1000000 in
set_option maxRecDepth 1000000 in
theorem guess_single (b : Nat) (hb : b < 18446744073709551616) (w : World) (hS : Shapes w) : Calls Tryd.prog 26 #[.int .u64 (b : Int), .agg #[.int .i64 8, .int .i64 23]] w (Said32 b w) := by
  obtain ⟨s, hs⟩ : ∃ s, b / 9223372036854775808 = s := ⟨_, rfl⟩
  obtain ⟨r, hr⟩ : ∃ r, b % 9223372036854775808 = r := ⟨_, rfl⟩
  have hs1 : s ≤ 1 := by omega
  have hr1 : r < 9223372036854775808 := by omega
  have hSg : (b : Int) / 9223372036854775808 = (s : Int) := by omega
  have HC := Lib.hid (fun w => class_any b hb w)
  obtain ⟨c, hc⟩ : ∃ c, Cls b = c := ⟨_, rfl⟩
  have hcl := hc
  unfold Cls at hcl
  rw [hr] at hcl
  rw [hc] at HC
  obtain ⟨hh0, hh1, hh2, hh3⟩ := hS
  have hh4 := cell_later (below_alloc (Below.refl w.heap.size w) (.cells #[.int .i64 8, .int .i64 23] 44)) hh2
  have hh5 := cell_later (below_alloc (Below.refl w.heap.size w) (.cells #[.int .i64 8, .int .i64 23] 44)) hh3
  clear hh0 hh1 hh2 hh3
  have heq : ∀ w, (Op.equalIn 10000 44 (.agg #[.int .i64 8, .int .i64 23]) (.agg #[.int .i64 8, .int .i64 23])).run Tryd.prog w = .ok true w := fun w => by kernel_rfl
  by_cases c4 : 9218868437227405312 ≤ r
  · have hFF : IntKind.u64.wrap ((b : Int) * 4096) / 2199023255552 = ((r % 4503599627370496 / 536870912 : Nat) : Int) := by rw [IntKind.wrap_u64]; omega
    obtain ⟨F, hF⟩ : ∃ F, r % 4503599627370496 / 536870912 = F := ⟨_, rfl⟩
    rw [hF] at hFF
    have hcg : 4 ≤ c := by
      by_cases x : 9218868437227405312 < r
      · rw [if_pos x] at hcl; omega
      · rw [if_neg x, if_pos (by omega)] at hcl; omega
    have hT : T32 r = 2139095040 + F := by unfold T32; rw [if_neg (by omega), if_pos c4, hF]
    obtain ⟨p, hp⟩ : ∃ p, s * 2147483648 + 2139095040 = p := ⟨_, rfl⟩
    obtain ⟨g, hg⟩ : ∃ g, p + F = g := ⟨_, rfl⟩
    have hO1 : bits .or .u64 ((s : Int) * 2147483648) 2139095040 = (p : Int) := or_add 31 (s * 2147483648) 2139095040 p (by omega) (by decide) hp (by omega) _ _ (by omega) rfl
    have hO2 : bits .or .u64 (p : Int) (F : Int) = (g : Int) := or_add 23 p F g (by omega) (by omega) hg (by omega) _ _ rfl rfl
    have fin := found32 b s r g hs hr hs1 (by omega)
    have hg2 : g < 4294967296 := by omega
    replace fin := Lib.hid fin
    clear hT hp hg hF hcl hs hr hr1 c4 hc
    go_enter Tryd.func26, Tryd.ntmps26
    go_wp2
    go_quiet (fail)
    go_wp2_with (refine (HC.out _).mono ?_; rintro e w1 ⟨rfl, rfl⟩)
    go_quiet (fail)
    go_wp2
    go_ret
    exact ⟨g, rfl, hg2, fin.out, pw_below_drewN (pw_below_drewN (below_alloc (Below.refl _ _) _) _) _⟩
  have hcg : ¬ 4 ≤ c := by
    rw [if_neg (by omega), if_neg (by omega)] at hcl
    split at hcl <;> (try split at hcl) <;> omega
  have hcd : decide ((c : Int) ≥ 4) = false := decide_eq_false (by omega)
  have hcd2 : decide ((4 : Int) ≤ (c : Int)) = false := decide_eq_false (by omega)
  have hA := fun w => abs_any b hb w
  rw [hr] at hA
  replace hA := Lib.hid hA
  have hi := fun h hh hW => img32 b s r h hs hr hs1 (by omega) hh hW
  rcases to_single r (by omega) with hno | ⟨q, hq, hql⟩
  · have fin : ∀ g h : Nat, h < 4294967296 → W32 h = b → g = h := by
      intro g h hh hW
      have h1 := (hi h hh hW).1
      rw [show wd false r = r from rfl, h1] at hno
      cases hno
    have hn := Lib.hid (conv_none r (by omega) hno)
    replace fin := Lib.hid fin
    clear hi hno hcl hs hr hr1 c4 hc hcg
    go_enter Tryd.func26, Tryd.ntmps26
    go_wp2
    go_quiet (fail)
    obtain ⟨v, hv, hcv⟩ := hn.out ((w.alloc (.cells #[.int .i64 8, .int .i64 23] 44)).drewN nq)
    obtain ⟨g, hg⟩ : ∃ g, (s * 2147483648) ||| v = g := ⟨_, rfl⟩
    have hg2 : g < 4294967296 := by rw [← hg]; exact Nat.or_lt_two_pow (n := 32) (by omega) (by omega)
    have hO : bits .or .u64 ((s : Int) * 2147483648) (v : Int) = (g : Int) := by
      rw [show (s : Int) * 2147483648 = ((s * 2147483648 : Nat) : Int) by omega, u64_or_nat _ _ (by omega) (by omega), hg]
    replace hg := Lib.hid hg
    go_wp2_with (first | (go_at_call 16; refine (HC.out _).mono ?_; rintro e w1 ⟨rfl, rfl⟩) | (go_at_call 31; refine (hA.out _).mono ?_; rintro e w2 ⟨rfl, rfl⟩))
    go_ret
    exact ⟨g, rfl, hg2, fin.out g, (pw_below_drewN (below_alloc (Below.refl _ _) _) _).drew⟩
  · obtain ⟨g, hg⟩ : ∃ g, s * 2147483648 + q = g := ⟨_, rfl⟩
    rw [show wd false r = r from rfl] at hq
    have hcv := fun w => run_convert_float_float (P := Tryd.prog) w 50 66 .f64 .f32 r q (by kernel_rfl) Tryd.underlying66 hq
    have fin : ∀ h : Nat, h < 4294967296 → W32 h = b → g = h := by
      intro h hh hW
      obtain ⟨h1, h2⟩ := hi h hh hW
      rw [h1] at hq
      injection hq with hq
      omega
    have hg2 : g < 4294967296 := by omega
    have hO : bits .or .u64 ((s : Int) * 2147483648) (q : Int) = (g : Int) := or_add 31 (s * 2147483648) q g (by omega) (by omega) hg (by omega) _ _ (by omega) rfl
    replace fin := Lib.hid fin
    clear hi hq hg hcl hs hr hr1 c4 hc hcg
    go_enter Tryd.func26, Tryd.ntmps26
    go_wp2
    go_quiet (fail)
    go_wp2_with (first | (go_at_call 16; refine (HC.out _).mono ?_; rintro e w1 ⟨rfl, rfl⟩) | (go_at_call 31; refine (hA.out _).mono ?_; rintro e w2 ⟨rfl, rfl⟩))
    go_ret
    exact ⟨g, rfl, hg2, fin.out, pw_below_drewN (below_alloc (Below.refl _ _) _) _⟩
end Go.Proofs.YtocmmdheegkbaaaDoor
