/- The reference: tries. -/
import Derived.Test.YtocmmdheegkbaaaDoorRe
import Derived.Test.YtocmmdheegkbaaaDoorRg
namespace Go.Proofs.YtocmmdheegkbaaaDoor
open Go.RowKit Go.Proofs.YtocmmdheegkbaaaDoorW.PrintWords Go.Proofs.YtocmmdheegkbaaaDoorW.PrintMore
set_option linter.unusedVariables false
set_option linter.unusedSimpArgs false

theorem T16_zero (e f : Nat) (he : e = 0) (hf : f < 4503599627370496) : T16 (e * 4503599627370496 + f) = 0 := by
  subst he
  unfold T16
  by_cases c : 0 * 4503599627370496 + f = 0
  · rw [if_pos c]
  · rw [if_neg c, if_neg (by omega), if_pos (by omega)]
theorem T16_ones (e f : Nat) (he : e = 2047) (hf : f < 4503599627370496) : T16 (e * 4503599627370496 + f) = 31744 + f / 4398046511104 := by
  subst he
  unfold T16
  rw [if_neg (by omega), if_pos (by omega)]
  omega
theorem T16_large (e f : Nat) (he : e < 2047) (h : 1039 ≤ e) (hf : f < 4503599627370496) : T16 (e * 4503599627370496 + f) = 0 := by
  unfold T16
  rw [if_neg (by omega), if_neg (by omega), if_pos (by omega)]
theorem T16_mid (e f : Nat) (he : e < 1039) (h : 1009 ≤ e) (hf : f < 4503599627370496) : T16 (e * 4503599627370496 + f) = (e - 1008) * 1024 + f / 4398046511104 := by
  unfold T16
  rw [if_neg (by omega), if_neg (by omega), if_neg (by omega), if_pos (by omega)]
  omega
theorem T16_small (e f : Nat) (he : e < 1009) (h : e ≠ 0) (hf : f < 4503599627370496) : T16 (e * 4503599627370496 + f) = (4503599627370496 + f) / 4398046511104 / 2 ^ (1009 - e) := by
  have h1 : (e * 4503599627370496 + f) / 4503599627370496 = e := by omega
  have h2 : (e * 4503599627370496 + f) % 4503599627370496 = f := by omega
  unfold T16
  rw [if_neg (by omega), if_neg (by omega), if_neg (by omega), if_neg (by omega), h1, h2]

set_option maxHeartbeats 800000 in
set_option maxRecDepth 100000 in
theorem tries16 (b : Nat) (hb : b < 18446744073709551616) (w : World) :
    Calls Tryd.prog 27 #[.int .u64 (b : Int), .int .i64 5, .int .i64 10, .int .i64 15] w fun r' w' => r' = .returned (.int .u64 (I16 b : Nat)) ∧ Below w.heap.size w w' := by
  have hO : ∀ w, Calls Tryd.prog 24 #[.int .u64 (b : Int), .int .i64 11, .int .i64 52] w _ := fun w => Of_any b 11 52 2048 4503599627370496 hb (by decide) (by decide) (by decide) (by decide) w
  have hC : ∀ (s : Bool) (w : World), Calls Tryd.prog 32 #[.agg #[.bool s, .int .i64 ((b / 4503599627370496 % 2048 : Nat) : Int), .int .u64 ((b % 4503599627370496 : Nat) : Int), .int .i64 11, .int .i64 52]] w _ := fun s w => Class_ref s (b / 4503599627370496 % 2048) (b % 4503599627370496) 11 52 2048 (by decide) (by decide) (by omega) w
  have hPu : ∀ w, Calls Tryd.prog 38 #[.int .i64 42] w fun e w' => e = .returned (.int .u64 4398046511104) ∧ Drawn0 w w' := fun w => power_any 42 4398046511104 (by decide) (by decide) w
  have hPs : ∀ w, Calls Tryd.prog 38 #[.int .i64 15] w fun e w' => e = .returned (.int .u64 32768) ∧ Drawn0 w w' := fun w => power_any 15 32768 (by decide) (by decide) w
  have hPe : ∀ w, Calls Tryd.prog 38 #[.int .i64 5] w fun e w' => e = .returned (.int .u64 32) ∧ Drawn0 w w' := fun w => power_any 5 32 (by decide) (by decide) w
  have hPf : ∀ w, Calls Tryd.prog 38 #[.int .i64 10] w fun e w' => e = .returned (.int .u64 1024) ∧ Drawn0 w w' := fun w => power_any 10 1024 (by decide) (by decide) w
  have hP52 : ∀ w, Calls Tryd.prog 38 #[.int .i64 52] w fun e w' => e = .returned (.int .u64 4503599627370496) ∧ Drawn0 w w' := fun w => power_any 52 4503599627370496 (by decide) (by decide) w
  have hcc := clsF_cases 2048 (b / 4503599627370496 % 2048) (b % 4503599627370496)
  have he : b / 4503599627370496 % 2048 < 2048 := by omega
  have hf : b % 4503599627370496 < 4503599627370496 := by omega
  have hI : I16 b = (if (b / 4503599627370496 / 2048 % 2 == 1) = true then 32768 else 0) + T16 ((b / 4503599627370496 % 2048) * 4503599627370496 + b % 4503599627370496) := by
    unfold I16
    rw [show b / 4503599627370496 % 2048 * 4503599627370496 + b % 4503599627370496 = b % 9223372036854775808 by omega, show b / 4503599627370496 / 2048 = b / 9223372036854775808 by omega]
    congr 1
    by_cases c : b / 9223372036854775808 % 2 = 1
    · rw [c]; rfl
    · rw [show b / 9223372036854775808 % 2 = 0 by omega]; rfl
  generalize I16 b = A at hI ⊢
  generalize clsF 2048 (b / 4503599627370496 % 2048) (b % 4503599627370496) = C at hC hcc
  generalize b / 4503599627370496 % 2048 = e at *
  generalize b % 4503599627370496 = f at *
  generalize (b / 4503599627370496 / 2048 % 2 == 1) = s at *
  obtain ⟨E, hE⟩ : ∃ E : Int, (e : Int) - 1008 = E := ⟨_, rfl⟩
  have hE0 : (e : Int) - 1023 + 15 = E := by omega
  have hE1 : -2000 ≤ E := by omega
  have hE2 : E ≤ 2000 := by omega
  replace hI := Lib.hid hI
  go_enter Tryd.func27, Tryd.ntmps27
  go_wp2_with fail
  refine (hO _).mono ?_
  rintro r' w1 ⟨rfl, hB1⟩
  obtain ⟨G, hG⟩ : ∃ G, w1.heap.size = G := ⟨_, rfl⟩
  go_wp2_with fail
  generalize hw2' : World.alloc w1 _ = w2
  have BK3 : w2.heap[G]? = some (.cells #[.bool s, .int .i64 (e : Int), .int .u64 (f : Int), .int .i64 11, .int .i64 52] 46 (0, 0)) := by
    subst hw2' hG
    exact heap_alloc_new _ _
  have HB3 : Below w.heap.size w w2 := by
    subst hw2'
    exact hB1.alloc hB1.size _
  clear hw2' hG hB1
  refine (hPu _).mono ?_
  rintro r' w3 ⟨rfl, ⟨m, rfl⟩⟩
  replace BK3 := blk_drewN BK3 m
  replace HB3 := pw_below_drewN HB3 m
  generalize World.drewN w2 m = w3 at BK3 HB3 ⊢
  have c0 : w3.cell? ⟨G, 0, none⟩ = some (.bool s) := (blk_cell BK3 0).trans rfl
  have c1 : w3.cell? ⟨G, 1, none⟩ = some (.int .i64 (e : Int)) := (blk_cell BK3 1).trans rfl
  have c2 : w3.cell? ⟨G, 2, none⟩ = some (.int .u64 (f : Int)) := (blk_cell BK3 2).trans rfl
  have c3 : w3.cell? ⟨G, 3, none⟩ = some (.int .i64 11) := (blk_cell BK3 3).trans rfl
  have c4 : w3.cell? ⟨G, 4, none⟩ = some (.int .i64 52) := (blk_cell BK3 4).trans rfl
  replace BK3 := Lib.hid BK3
  replace HB3 := Lib.hid HB3
  obtain ⟨q, hq⟩ : ∃ q, f / 4398046511104 = q := ⟨_, rfl⟩
  have hqI : (f : Int) / 4398046511104 = (q : Int) := by omega
  have hql : q < 1024 := by omega
  replace hq := Lib.hid hq
  cases s with
  | false =>
    have hS : A = 0 + T16 (e * 4503599627370496 + f) := hI.out
    replace hS := Lib.hid hS
    clear hI
    go_wp2_with fail
    refine (hC _ _).mono ?_
    rintro r' w4 ⟨rfl, hB4⟩
    have BK4 := blk_below BK3.out hB4
    have HB4 := below_then HB3.out HB3.out.size hB4
    clear hB4 c0 c1 c2 c3 c4 BK3 HB3
    have c0 : w4.cell? ⟨G, 0, none⟩ = some (.bool false) := (blk_cell BK4 0).trans rfl
    have c1 : w4.cell? ⟨G, 1, none⟩ = some (.int .i64 (e : Int)) := (blk_cell BK4 1).trans rfl
    have c2 : w4.cell? ⟨G, 2, none⟩ = some (.int .u64 (f : Int)) := (blk_cell BK4 2).trans rfl
    have c3 : w4.cell? ⟨G, 3, none⟩ = some (.int .i64 11) := (blk_cell BK4 3).trans rfl
    have c4 : w4.cell? ⟨G, 4, none⟩ = some (.int .i64 52) := (blk_cell BK4 4).trans rfl
    replace BK4 := Lib.hid BK4
    replace HB4 := Lib.hid HB4
    rcases hcc with ⟨h1, hc⟩ | ⟨h1, h2, h3, rfl⟩ | ⟨h1, h2, h3, rfl⟩ | ⟨h1, h2, rfl⟩
    · have hA : (A : Int) = 31744 + q := by
        have h := hS.out
        rw [T16_ones e f (by omega) hf, hq.out] at h
        omega
      replace h1 := Lib.hid h1
      rcases hc with rfl | rfl
      all_goals (
        go_wp2_with fail
        refine (hC _ _).mono ?_
        rintro r' w5 ⟨rfl, hB5⟩
        have BK5 := blk_below BK4.out hB5
        have HB5 := below_then HB4.out HB4.out.size hB5
        clear hB5 c0 c1 c2 c3 c4 BK4 HB4
        have c0 : w5.cell? ⟨G, 0, none⟩ = some (.bool false) := (blk_cell BK5 0).trans rfl
        have c1 : w5.cell? ⟨G, 1, none⟩ = some (.int .i64 (e : Int)) := (blk_cell BK5 1).trans rfl
        have c2 : w5.cell? ⟨G, 2, none⟩ = some (.int .u64 (f : Int)) := (blk_cell BK5 2).trans rfl
        have c3 : w5.cell? ⟨G, 3, none⟩ = some (.int .i64 11) := (blk_cell BK5 3).trans rfl
        have c4 : w5.cell? ⟨G, 4, none⟩ = some (.int .i64 52) := (blk_cell BK5 4).trans rfl
        replace BK5 := Lib.hid BK5
        replace HB5 := Lib.hid HB5
        go_wp2_with fail
        go_quiet (first | (go_at_call 38; (with_reducible refine (hPe _).mono ?_); rintro r w' ⟨rfl, ⟨nd, rfl⟩⟩; (try first | exact ⟨rfl, _, World.drewN_drewN _ _ _⟩ | exact ⟨rfl, _, Eq.trans (World.drewN_drewN _ _ _) (congrArg (World.drewN _) (Nat.add_assoc _ _ _))⟩)) | (go_at_call 38; (with_reducible refine (hPf _).mono ?_); rintro r w' ⟨rfl, ⟨nd, rfl⟩⟩; (try first | exact ⟨rfl, _, World.drewN_drewN _ _ _⟩ | exact ⟨rfl, _, Eq.trans (World.drewN_drewN _ _ _) (congrArg (World.drewN _) (Nat.add_assoc _ _ _))⟩)))
        go_wp2_with fail
        go_ret
        exact ⟨by rw [hA]; rfl, pw_below_drewN HB5.out _⟩)
    · have hA : (A : Int) = 0 := by
        have h := hS.out
        rw [T16_zero e f (by omega) hf] at h
        omega
      replace h1 := Lib.hid h1
      replace h2 := Lib.hid h2
      replace h3 := Lib.hid h3
      go_wp2_with fail
      go_ret
      exact ⟨by rw [hA]; rfl, HB4.out⟩
    · have hA : (A : Int) = 0 := by
        have h := hS.out
        rw [T16_zero e f (by omega) hf] at h
        omega
      replace h1 := Lib.hid h1
      replace h2 := Lib.hid h2
      replace h3 := Lib.hid h3
      go_wp2_with fail
      refine (hC _ _).mono ?_
      rintro r' w5 ⟨rfl, hB5⟩
      have BK5 := blk_below BK4.out hB5
      have HB5 := below_then HB4.out HB4.out.size hB5
      clear hB5 c0 c1 c2 c3 c4 BK4 HB4
      have c0 : w5.cell? ⟨G, 0, none⟩ = some (.bool false) := (blk_cell BK5 0).trans rfl
      have c1 : w5.cell? ⟨G, 1, none⟩ = some (.int .i64 (e : Int)) := (blk_cell BK5 1).trans rfl
      have c2 : w5.cell? ⟨G, 2, none⟩ = some (.int .u64 (f : Int)) := (blk_cell BK5 2).trans rfl
      have c3 : w5.cell? ⟨G, 3, none⟩ = some (.int .i64 11) := (blk_cell BK5 3).trans rfl
      have c4 : w5.cell? ⟨G, 4, none⟩ = some (.int .i64 52) := (blk_cell BK5 4).trans rfl
      replace BK5 := Lib.hid BK5
      replace HB5 := Lib.hid HB5
      go_wp2_with fail
      refine (hC _ _).mono ?_
      rintro r' w6 ⟨rfl, hB6⟩
      have BK6 := blk_below BK5.out hB6
      have HB6 := below_then HB5.out HB5.out.size hB6
      clear hB6 c0 c1 c2 c3 c4 BK5 HB5
      have c0 : w6.cell? ⟨G, 0, none⟩ = some (.bool false) := (blk_cell BK6 0).trans rfl
      have c1 : w6.cell? ⟨G, 1, none⟩ = some (.int .i64 (e : Int)) := (blk_cell BK6 1).trans rfl
      have c2 : w6.cell? ⟨G, 2, none⟩ = some (.int .u64 (f : Int)) := (blk_cell BK6 2).trans rfl
      have c3 : w6.cell? ⟨G, 3, none⟩ = some (.int .i64 11) := (blk_cell BK6 3).trans rfl
      have c4 : w6.cell? ⟨G, 4, none⟩ = some (.int .i64 52) := (blk_cell BK6 4).trans rfl
      replace BK6 := Lib.hid BK6
      replace HB6 := Lib.hid HB6
      go_wp2_with fail
      go_ret
      exact ⟨by rw [hA]; rfl, HB6.out⟩
    · have h1 : e < 2047 := by omega
      replace h2 := Lib.hid h2
      go_wp2_with fail
      refine (hC _ _).mono ?_
      rintro r' w5 ⟨rfl, hB5⟩
      have BK5 := blk_below BK4.out hB5
      have HB5 := below_then HB4.out HB4.out.size hB5
      clear hB5 c0 c1 c2 c3 c4 BK4 HB4
      have c0 : w5.cell? ⟨G, 0, none⟩ = some (.bool false) := (blk_cell BK5 0).trans rfl
      have c1 : w5.cell? ⟨G, 1, none⟩ = some (.int .i64 (e : Int)) := (blk_cell BK5 1).trans rfl
      have c2 : w5.cell? ⟨G, 2, none⟩ = some (.int .u64 (f : Int)) := (blk_cell BK5 2).trans rfl
      have c3 : w5.cell? ⟨G, 3, none⟩ = some (.int .i64 11) := (blk_cell BK5 3).trans rfl
      have c4 : w5.cell? ⟨G, 4, none⟩ = some (.int .i64 52) := (blk_cell BK5 4).trans rfl
      replace BK5 := Lib.hid BK5
      replace HB5 := Lib.hid HB5
      go_wp2_with fail
      refine (hC _ _).mono ?_
      rintro r' w6 ⟨rfl, hB6⟩
      have BK6 := blk_below BK5.out hB6
      have HB6 := below_then HB5.out HB5.out.size hB6
      clear hB6 c0 c1 c2 c3 c4 BK5 HB5
      have c0 : w6.cell? ⟨G, 0, none⟩ = some (.bool false) := (blk_cell BK6 0).trans rfl
      have c1 : w6.cell? ⟨G, 1, none⟩ = some (.int .i64 (e : Int)) := (blk_cell BK6 1).trans rfl
      have c2 : w6.cell? ⟨G, 2, none⟩ = some (.int .u64 (f : Int)) := (blk_cell BK6 2).trans rfl
      have c3 : w6.cell? ⟨G, 3, none⟩ = some (.int .i64 11) := (blk_cell BK6 3).trans rfl
      have c4 : w6.cell? ⟨G, 4, none⟩ = some (.int .i64 52) := (blk_cell BK6 4).trans rfl
      replace BK6 := Lib.hid BK6
      replace HB6 := Lib.hid HB6
      go_wp2_with fail
      refine (hPe _).mono ?_
      rintro r' w7 ⟨rfl, ⟨m7, rfl⟩⟩
      have BK7 := blk_drewN BK6.out m7
      have HB7 := pw_below_drewN HB6.out m7
      generalize World.drewN w6 m7 = w7 at BK7 HB7 ⊢
      clear c0 c1 c2 c3 c4 BK6 HB6
      have c0 : w7.cell? ⟨G, 0, none⟩ = some (.bool false) := (blk_cell BK7 0).trans rfl
      have c1 : w7.cell? ⟨G, 1, none⟩ = some (.int .i64 (e : Int)) := (blk_cell BK7 1).trans rfl
      have c2 : w7.cell? ⟨G, 2, none⟩ = some (.int .u64 (f : Int)) := (blk_cell BK7 2).trans rfl
      have c3 : w7.cell? ⟨G, 3, none⟩ = some (.int .i64 11) := (blk_cell BK7 3).trans rfl
      have c4 : w7.cell? ⟨G, 4, none⟩ = some (.int .i64 52) := (blk_cell BK7 4).trans rfl
      replace BK7 := Lib.hid BK7
      replace HB7 := Lib.hid HB7
      by_cases hT : E < 31
      · by_cases hM : E < 1
        · obtain ⟨X0, hX0⟩ : ∃ X0, (4503599627370496 + f) / 4398046511104 = X0 := ⟨_, rfl⟩
          have hX0l : X0 < 2 * 1024 := by omega
          have hY : IntKind.u64.wrap (4503599627370496 + (f : Int)) = ((4503599627370496 + f : Nat) : Int) := by rw [IntKind.wrap_u64]; omega
          have hX : ((4503599627370496 + f : Nat) : Int) / 4398046511104 = (X0 : Int) := by omega
          have hA : A = 0 + X0 / 2 ^ (1009 - e) := by
            have h := hS.out
            rw [T16_small e f (by omega) h2.out hf, hX0] at h
            exact h
          obtain ⟨D, hD⟩ : ∃ D, 1009 - e = D := ⟨_, rfl⟩
          rw [hD] at hA
          have hED : E = 1 - (D : Int) := by omega
          have hDl : D ≤ 1009 := by omega
          have hD1 : 1 ≤ D := by omega
          clear hE hE0 hE1 hE2 hT hM hD h1 hqI hql he
          replace hA := Lib.hid hA
          replace hX0 := Lib.hid hX0
          obtain ⟨Y, hYY⟩ : ∃ Y, 4503599627370496 + f = Y := ⟨_, rfl⟩
          rw [hYY] at hX hY
          replace hYY := Lib.hid hYY
          subst hED
          go_wp2_with fail
          go_quiet (first | (go_at_call 38; (with_reducible refine (hP52 _).mono ?_); rintro r w' ⟨rfl, ⟨nd, rfl⟩⟩; (try first | exact ⟨rfl, _, World.drewN_drewN _ _ _⟩ | exact ⟨rfl, _, Eq.trans (World.drewN_drewN _ _ _) (congrArg (World.drewN _) (Nat.add_assoc _ _ _))⟩)))
          generalize hwq : World.drewN w7 _ = wq
          have HBq : Below w.heap.size w wq := by rw [← hwq]; exact pw_below_drewN HB7.out _
          replace HBq := Lib.hid HBq
          clear hwq
          clear c0 c1 c2 c3 c4
          go_wp2_with fail
          go_loopw [13, 14] (fun v13 v14 w' => ∃ (k x : Nat), v13 = .int .u64 (x : Int) ∧ v14 = .int .i64 (1 - ((D - k : Nat) : Int)) ∧ k ≤ D ∧ x < 2 * 1024 ∧ Aside0 (X0 / 2 ^ k = x) ∧ w' = wq) (fun _ v14 _ => (1 - intOf v14).toNat)
          case atStart => exact ⟨0, X0, rfl, rfl, by omega, by omega, ⟨by rw [Nat.pow_zero, Nat.div_one]⟩, rfl⟩
          case round =>
            obtain ⟨k, x, rfl, rfl, hk, hxl, hx, rfl⟩ := hrel
            obtain ⟨r, hr⟩ : ∃ r, D - k = r := ⟨_, rfl⟩
            rw [hr]
            have hrl : r ≤ D := by omega
            by_cases c : r = 0
            · have hA2 : (A : Int) = x := by
                have h := hA.out
                rw [show D = k by omega, hx.out] at h
                omega
              subst c
              clear hr
              go_wp2_with fail
              go_ret
              exact ⟨by rw [hA2]; rfl, HBq.out⟩
            · by_cases d : x = 0
              · have hA2 : (A : Int) = 0 := by
                  have h := hA.out
                  have h3 : X0 / 2 ^ D = 0 := by
                    have h4 := hx.out
                    rw [show D = k + r by omega, Nat.pow_add, ← Nat.div_div_eq_div_mul, h4, d, Nat.zero_div]
                  rw [h3] at h
                  omega
                subst d
                have c' : (1 : Int) - (r : Int) < 1 := by omega
                replace hr := Lib.hid hr
                go_wp2_with fail
                go_ret
                exact ⟨by rw [hA2]; rfl, HBq.out⟩
              · have d' : (0 : Int) < (x : Int) := by omega
                have c' : (1 : Int) - (r : Int) < 1 := by omega
                obtain ⟨x2, hx2⟩ : ∃ x2, x / 2 = x2 := ⟨_, rfl⟩
                have hx2I : (x : Int) / 2 = (x2 : Int) := by omega
                have hx2l : x2 < 2 * 1024 := by omega
                have hx2A : Aside0 (X0 / 2 ^ (k + 1) = x2) := ⟨by rw [Nat.pow_succ, ← Nat.div_div_eq_div_mul, hx.out, hx2]⟩
                have hrI : (1 : Int) - (r : Int) + 1 = 1 - ((D - (k + 1) : Nat) : Int) := by omega
                have hmeas : (1 - (1 - ((D - (k + 1) : Nat) : Int))).toNat < (1 - (1 - (r : Int))).toNat := by omega
                have hkl : k + 1 ≤ D := by omega
                replace hr := Lib.hid hr
                replace hmeas := Lib.hid hmeas
                replace hx2 := Lib.hid hx2
                go_wp2_with fail
                go_roundw
                case rel => exact ⟨k + 1, x2, rfl, rfl, hkl, hx2l, hx2A, by first | rfl | trivial⟩
                case measure => simp only [intOf]; exact hmeas.out
        · obtain ⟨n, hn⟩ : ∃ n, e - 1008 = n := ⟨_, rfl⟩
          have hEn : E = (n : Int) := by omega
          have hn1 : 1 ≤ n := by omega
          have hn2 : n < 31 := by omega
          obtain ⟨nm, hnm⟩ : ∃ nm, n * 1024 = nm := ⟨_, rfl⟩
          have hnml : nm < 32768 := by omega
          have hw1 : IntKind.u64.wrap (n : Int) = (n : Int) := u64_small _ (by omega)
          have hw2 : IntKind.u64.wrap ((n : Int) * 1024) = (nm : Int) := by rw [IntKind.wrap_u64]; omega
          have hA : (A : Int) = nm + q := by
            have h := hS.out
            rw [T16_mid e f (by omega) (by omega) hf, hn, hq.out, hnm] at h
            omega
          clear hE hE0 hE1 hE2 hT hM h1 he
          subst hEn
          replace hn := Lib.hid hn
          replace hnm := Lib.hid hnm
          replace hA := Lib.hid hA
          go_wp2_with fail
          go_quiet (first | (go_at_call 38; (with_reducible refine (hPf _).mono ?_); rintro r w' ⟨rfl, ⟨nd, rfl⟩⟩; (try first | exact ⟨rfl, _, World.drewN_drewN _ _ _⟩ | exact ⟨rfl, _, Eq.trans (World.drewN_drewN _ _ _) (congrArg (World.drewN _) (Nat.add_assoc _ _ _))⟩)))
          go_wp2_with fail
          go_ret
          exact ⟨by rw [hA.out]; rfl, pw_below_drewN HB7.out _⟩
      · have hA : (A : Int) = 0 := by
          have h := hS.out
          rw [T16_large e f (by omega) (by omega) hf] at h
          omega
        go_wp2_with fail
        go_ret
        exact ⟨by rw [hA]; rfl, HB7.out⟩
  | true =>
    have hS : A = 32768 + T16 (e * 4503599627370496 + f) := hI.out
    replace hS := Lib.hid hS
    clear hI
    go_wp2_with fail
    refine (hPs _).mono ?_
    rintro r' w4 ⟨rfl, ⟨m4, rfl⟩⟩
    have BK4 := blk_drewN BK3.out m4
    have HB4 := pw_below_drewN HB3.out m4
    generalize World.drewN w3 m4 = w4 at BK4 HB4 ⊢
    clear c0 c1 c2 c3 c4 BK3 HB3
    have c0 : w4.cell? ⟨G, 0, none⟩ = some (.bool true) := (blk_cell BK4 0).trans rfl
    have c1 : w4.cell? ⟨G, 1, none⟩ = some (.int .i64 (e : Int)) := (blk_cell BK4 1).trans rfl
    have c2 : w4.cell? ⟨G, 2, none⟩ = some (.int .u64 (f : Int)) := (blk_cell BK4 2).trans rfl
    have c3 : w4.cell? ⟨G, 3, none⟩ = some (.int .i64 11) := (blk_cell BK4 3).trans rfl
    have c4 : w4.cell? ⟨G, 4, none⟩ = some (.int .i64 52) := (blk_cell BK4 4).trans rfl
    replace BK4 := Lib.hid BK4
    replace HB4 := Lib.hid HB4
    go_wp2_with fail
    refine (hC _ _).mono ?_
    rintro r' w5 ⟨rfl, hB5⟩
    have BK5 := blk_below BK4.out hB5
    have HB5 := below_then HB4.out HB4.out.size hB5
    clear hB5 c0 c1 c2 c3 c4 BK4 HB4
    have c0 : w5.cell? ⟨G, 0, none⟩ = some (.bool true) := (blk_cell BK5 0).trans rfl
    have c1 : w5.cell? ⟨G, 1, none⟩ = some (.int .i64 (e : Int)) := (blk_cell BK5 1).trans rfl
    have c2 : w5.cell? ⟨G, 2, none⟩ = some (.int .u64 (f : Int)) := (blk_cell BK5 2).trans rfl
    have c3 : w5.cell? ⟨G, 3, none⟩ = some (.int .i64 11) := (blk_cell BK5 3).trans rfl
    have c4 : w5.cell? ⟨G, 4, none⟩ = some (.int .i64 52) := (blk_cell BK5 4).trans rfl
    replace BK5 := Lib.hid BK5
    replace HB5 := Lib.hid HB5
    rcases hcc with ⟨h1, hc⟩ | ⟨h1, h2, h3, rfl⟩ | ⟨h1, h2, h3, rfl⟩ | ⟨h1, h2, rfl⟩
    · have hA : (A : Int) = 64512 + q := by
        have h := hS.out
        rw [T16_ones e f (by omega) hf, hq.out] at h
        omega
      replace h1 := Lib.hid h1
      rcases hc with rfl | rfl
      all_goals (
        go_wp2_with fail
        refine (hC _ _).mono ?_
        rintro r' w6 ⟨rfl, hB6⟩
        have BK6 := blk_below BK5.out hB6
        have HB6 := below_then HB5.out HB5.out.size hB6
        clear hB6 c0 c1 c2 c3 c4 BK5 HB5
        have c0 : w6.cell? ⟨G, 0, none⟩ = some (.bool true) := (blk_cell BK6 0).trans rfl
        have c1 : w6.cell? ⟨G, 1, none⟩ = some (.int .i64 (e : Int)) := (blk_cell BK6 1).trans rfl
        have c2 : w6.cell? ⟨G, 2, none⟩ = some (.int .u64 (f : Int)) := (blk_cell BK6 2).trans rfl
        have c3 : w6.cell? ⟨G, 3, none⟩ = some (.int .i64 11) := (blk_cell BK6 3).trans rfl
        have c4 : w6.cell? ⟨G, 4, none⟩ = some (.int .i64 52) := (blk_cell BK6 4).trans rfl
        replace BK6 := Lib.hid BK6
        replace HB6 := Lib.hid HB6
        go_wp2_with fail
        go_quiet (first | (go_at_call 38; (with_reducible refine (hPe _).mono ?_); rintro r w' ⟨rfl, ⟨nd, rfl⟩⟩; (try first | exact ⟨rfl, _, World.drewN_drewN _ _ _⟩ | exact ⟨rfl, _, Eq.trans (World.drewN_drewN _ _ _) (congrArg (World.drewN _) (Nat.add_assoc _ _ _))⟩)) | (go_at_call 38; (with_reducible refine (hPf _).mono ?_); rintro r w' ⟨rfl, ⟨nd, rfl⟩⟩; (try first | exact ⟨rfl, _, World.drewN_drewN _ _ _⟩ | exact ⟨rfl, _, Eq.trans (World.drewN_drewN _ _ _) (congrArg (World.drewN _) (Nat.add_assoc _ _ _))⟩)))
        go_wp2_with fail
        go_ret
        exact ⟨by rw [hA]; rfl, pw_below_drewN HB6.out _⟩)
    · have hA : (A : Int) = 32768 := by
        have h := hS.out
        rw [T16_zero e f (by omega) hf] at h
        omega
      replace h1 := Lib.hid h1
      replace h2 := Lib.hid h2
      replace h3 := Lib.hid h3
      go_wp2_with fail
      go_ret
      exact ⟨by rw [hA]; rfl, HB5.out⟩
    · have hA : (A : Int) = 32768 := by
        have h := hS.out
        rw [T16_zero e f (by omega) hf] at h
        omega
      replace h1 := Lib.hid h1
      replace h2 := Lib.hid h2
      replace h3 := Lib.hid h3
      go_wp2_with fail
      refine (hC _ _).mono ?_
      rintro r' w6 ⟨rfl, hB6⟩
      have BK6 := blk_below BK5.out hB6
      have HB6 := below_then HB5.out HB5.out.size hB6
      clear hB6 c0 c1 c2 c3 c4 BK5 HB5
      have c0 : w6.cell? ⟨G, 0, none⟩ = some (.bool true) := (blk_cell BK6 0).trans rfl
      have c1 : w6.cell? ⟨G, 1, none⟩ = some (.int .i64 (e : Int)) := (blk_cell BK6 1).trans rfl
      have c2 : w6.cell? ⟨G, 2, none⟩ = some (.int .u64 (f : Int)) := (blk_cell BK6 2).trans rfl
      have c3 : w6.cell? ⟨G, 3, none⟩ = some (.int .i64 11) := (blk_cell BK6 3).trans rfl
      have c4 : w6.cell? ⟨G, 4, none⟩ = some (.int .i64 52) := (blk_cell BK6 4).trans rfl
      replace BK6 := Lib.hid BK6
      replace HB6 := Lib.hid HB6
      go_wp2_with fail
      refine (hC _ _).mono ?_
      rintro r' w7 ⟨rfl, hB7⟩
      have BK7 := blk_below BK6.out hB7
      have HB7 := below_then HB6.out HB6.out.size hB7
      clear hB7 c0 c1 c2 c3 c4 BK6 HB6
      have c0 : w7.cell? ⟨G, 0, none⟩ = some (.bool true) := (blk_cell BK7 0).trans rfl
      have c1 : w7.cell? ⟨G, 1, none⟩ = some (.int .i64 (e : Int)) := (blk_cell BK7 1).trans rfl
      have c2 : w7.cell? ⟨G, 2, none⟩ = some (.int .u64 (f : Int)) := (blk_cell BK7 2).trans rfl
      have c3 : w7.cell? ⟨G, 3, none⟩ = some (.int .i64 11) := (blk_cell BK7 3).trans rfl
      have c4 : w7.cell? ⟨G, 4, none⟩ = some (.int .i64 52) := (blk_cell BK7 4).trans rfl
      replace BK7 := Lib.hid BK7
      replace HB7 := Lib.hid HB7
      go_wp2_with fail
      go_ret
      exact ⟨by rw [hA]; rfl, HB7.out⟩
    · have h1 : e < 2047 := by omega
      replace h2 := Lib.hid h2
      go_wp2_with fail
      refine (hC _ _).mono ?_
      rintro r' w6 ⟨rfl, hB6⟩
      have BK6 := blk_below BK5.out hB6
      have HB6 := below_then HB5.out HB5.out.size hB6
      clear hB6 c0 c1 c2 c3 c4 BK5 HB5
      have c0 : w6.cell? ⟨G, 0, none⟩ = some (.bool true) := (blk_cell BK6 0).trans rfl
      have c1 : w6.cell? ⟨G, 1, none⟩ = some (.int .i64 (e : Int)) := (blk_cell BK6 1).trans rfl
      have c2 : w6.cell? ⟨G, 2, none⟩ = some (.int .u64 (f : Int)) := (blk_cell BK6 2).trans rfl
      have c3 : w6.cell? ⟨G, 3, none⟩ = some (.int .i64 11) := (blk_cell BK6 3).trans rfl
      have c4 : w6.cell? ⟨G, 4, none⟩ = some (.int .i64 52) := (blk_cell BK6 4).trans rfl
      replace BK6 := Lib.hid BK6
      replace HB6 := Lib.hid HB6
      go_wp2_with fail
      refine (hC _ _).mono ?_
      rintro r' w7 ⟨rfl, hB7⟩
      have BK7 := blk_below BK6.out hB7
      have HB7 := below_then HB6.out HB6.out.size hB7
      clear hB7 c0 c1 c2 c3 c4 BK6 HB6
      have c0 : w7.cell? ⟨G, 0, none⟩ = some (.bool true) := (blk_cell BK7 0).trans rfl
      have c1 : w7.cell? ⟨G, 1, none⟩ = some (.int .i64 (e : Int)) := (blk_cell BK7 1).trans rfl
      have c2 : w7.cell? ⟨G, 2, none⟩ = some (.int .u64 (f : Int)) := (blk_cell BK7 2).trans rfl
      have c3 : w7.cell? ⟨G, 3, none⟩ = some (.int .i64 11) := (blk_cell BK7 3).trans rfl
      have c4 : w7.cell? ⟨G, 4, none⟩ = some (.int .i64 52) := (blk_cell BK7 4).trans rfl
      replace BK7 := Lib.hid BK7
      replace HB7 := Lib.hid HB7
      go_wp2_with fail
      refine (hPe _).mono ?_
      rintro r' w8 ⟨rfl, ⟨m8, rfl⟩⟩
      have BK8 := blk_drewN BK7.out m8
      have HB8 := pw_below_drewN HB7.out m8
      generalize World.drewN w7 m8 = w8 at BK8 HB8 ⊢
      clear c0 c1 c2 c3 c4 BK7 HB7
      have c0 : w8.cell? ⟨G, 0, none⟩ = some (.bool true) := (blk_cell BK8 0).trans rfl
      have c1 : w8.cell? ⟨G, 1, none⟩ = some (.int .i64 (e : Int)) := (blk_cell BK8 1).trans rfl
      have c2 : w8.cell? ⟨G, 2, none⟩ = some (.int .u64 (f : Int)) := (blk_cell BK8 2).trans rfl
      have c3 : w8.cell? ⟨G, 3, none⟩ = some (.int .i64 11) := (blk_cell BK8 3).trans rfl
      have c4 : w8.cell? ⟨G, 4, none⟩ = some (.int .i64 52) := (blk_cell BK8 4).trans rfl
      replace BK8 := Lib.hid BK8
      replace HB8 := Lib.hid HB8
      by_cases hT : E < 31
      · by_cases hM : E < 1
        · obtain ⟨X0, hX0⟩ : ∃ X0, (4503599627370496 + f) / 4398046511104 = X0 := ⟨_, rfl⟩
          have hX0l : X0 < 2 * 1024 := by omega
          have hY : IntKind.u64.wrap (4503599627370496 + (f : Int)) = ((4503599627370496 + f : Nat) : Int) := by rw [IntKind.wrap_u64]; omega
          have hX : ((4503599627370496 + f : Nat) : Int) / 4398046511104 = (X0 : Int) := by omega
          have hA : A = 32768 + X0 / 2 ^ (1009 - e) := by
            have h := hS.out
            rw [T16_small e f (by omega) h2.out hf, hX0] at h
            exact h
          obtain ⟨D, hD⟩ : ∃ D, 1009 - e = D := ⟨_, rfl⟩
          rw [hD] at hA
          have hED : E = 1 - (D : Int) := by omega
          have hDl : D ≤ 1009 := by omega
          have hD1 : 1 ≤ D := by omega
          clear hE hE0 hE1 hE2 hT hM hD h1 hqI hql he
          replace hA := Lib.hid hA
          replace hX0 := Lib.hid hX0
          obtain ⟨Y, hYY⟩ : ∃ Y, 4503599627370496 + f = Y := ⟨_, rfl⟩
          rw [hYY] at hX hY
          replace hYY := Lib.hid hYY
          subst hED
          go_wp2_with fail
          go_quiet (first | (go_at_call 38; (with_reducible refine (hP52 _).mono ?_); rintro r w' ⟨rfl, ⟨nd, rfl⟩⟩; (try first | exact ⟨rfl, _, World.drewN_drewN _ _ _⟩ | exact ⟨rfl, _, Eq.trans (World.drewN_drewN _ _ _) (congrArg (World.drewN _) (Nat.add_assoc _ _ _))⟩)))
          generalize hwq : World.drewN w8 _ = wq
          have HBq : Below w.heap.size w wq := by rw [← hwq]; exact pw_below_drewN HB8.out _
          replace HBq := Lib.hid HBq
          clear hwq
          clear c0 c1 c2 c3 c4
          go_wp2_with fail
          go_loopw [13, 14] (fun v13 v14 w' => ∃ (k x : Nat), v13 = .int .u64 (x : Int) ∧ v14 = .int .i64 (1 - ((D - k : Nat) : Int)) ∧ k ≤ D ∧ x < 2 * 1024 ∧ Aside0 (X0 / 2 ^ k = x) ∧ w' = wq) (fun _ v14 _ => (1 - intOf v14).toNat)
          case atStart => exact ⟨0, X0, rfl, rfl, by omega, by omega, ⟨by rw [Nat.pow_zero, Nat.div_one]⟩, rfl⟩
          case round =>
            obtain ⟨k, x, rfl, rfl, hk, hxl, hx, rfl⟩ := hrel
            obtain ⟨r, hr⟩ : ∃ r, D - k = r := ⟨_, rfl⟩
            rw [hr]
            have hrl : r ≤ D := by omega
            by_cases c : r = 0
            · have hA2 : (A : Int) = 32768 + x := by
                have h := hA.out
                rw [show D = k by omega, hx.out] at h
                omega
              subst c
              clear hr
              go_wp2_with fail
              go_ret
              exact ⟨by rw [hA2]; rfl, HBq.out⟩
            · by_cases d : x = 0
              · have hA2 : (A : Int) = 32768 := by
                  have h := hA.out
                  have h3 : X0 / 2 ^ D = 0 := by
                    have h4 := hx.out
                    rw [show D = k + r by omega, Nat.pow_add, ← Nat.div_div_eq_div_mul, h4, d, Nat.zero_div]
                  rw [h3] at h
                  omega
                subst d
                have c' : (1 : Int) - (r : Int) < 1 := by omega
                replace hr := Lib.hid hr
                go_wp2_with fail
                go_ret
                exact ⟨by rw [hA2]; rfl, HBq.out⟩
              · have d' : (0 : Int) < (x : Int) := by omega
                have c' : (1 : Int) - (r : Int) < 1 := by omega
                obtain ⟨x2, hx2⟩ : ∃ x2, x / 2 = x2 := ⟨_, rfl⟩
                have hx2I : (x : Int) / 2 = (x2 : Int) := by omega
                have hx2l : x2 < 2 * 1024 := by omega
                have hx2A : Aside0 (X0 / 2 ^ (k + 1) = x2) := ⟨by rw [Nat.pow_succ, ← Nat.div_div_eq_div_mul, hx.out, hx2]⟩
                have hrI : (1 : Int) - (r : Int) + 1 = 1 - ((D - (k + 1) : Nat) : Int) := by omega
                have hmeas : (1 - (1 - ((D - (k + 1) : Nat) : Int))).toNat < (1 - (1 - (r : Int))).toNat := by omega
                have hkl : k + 1 ≤ D := by omega
                replace hr := Lib.hid hr
                replace hmeas := Lib.hid hmeas
                replace hx2 := Lib.hid hx2
                go_wp2_with fail
                go_roundw
                case rel => exact ⟨k + 1, x2, rfl, rfl, hkl, hx2l, hx2A, by first | rfl | trivial⟩
                case measure => simp only [intOf]; exact hmeas.out
        · obtain ⟨n, hn⟩ : ∃ n, e - 1008 = n := ⟨_, rfl⟩
          have hEn : E = (n : Int) := by omega
          have hn1 : 1 ≤ n := by omega
          have hn2 : n < 31 := by omega
          obtain ⟨nm, hnm⟩ : ∃ nm, n * 1024 = nm := ⟨_, rfl⟩
          have hnml : nm < 32768 := by omega
          have hw1 : IntKind.u64.wrap (n : Int) = (n : Int) := u64_small _ (by omega)
          have hw2 : IntKind.u64.wrap ((n : Int) * 1024) = (nm : Int) := by rw [IntKind.wrap_u64]; omega
          have hA : (A : Int) = 32768 + nm + q := by
            have h := hS.out
            rw [T16_mid e f (by omega) (by omega) hf, hn, hq.out, hnm] at h
            omega
          clear hE hE0 hE1 hE2 hT hM h1 he
          subst hEn
          replace hn := Lib.hid hn
          replace hnm := Lib.hid hnm
          replace hA := Lib.hid hA
          go_wp2_with fail
          go_quiet (first | (go_at_call 38; (with_reducible refine (hPf _).mono ?_); rintro r w' ⟨rfl, ⟨nd, rfl⟩⟩; (try first | exact ⟨rfl, _, World.drewN_drewN _ _ _⟩ | exact ⟨rfl, _, Eq.trans (World.drewN_drewN _ _ _) (congrArg (World.drewN _) (Nat.add_assoc _ _ _))⟩)))
          go_wp2_with fail
          go_ret
          exact ⟨by rw [hA.out]; rfl, pw_below_drewN HB8.out _⟩
      · have hA : (A : Int) = 32768 := by
          have h := hS.out
          rw [T16_large e f (by omega) (by omega) hf] at h
          omega
        go_wp2_with fail
        go_ret
        exact ⟨by rw [hA]; rfl, HB8.out⟩

theorem T32_zero (e f : Nat) (he : e = 0) (hf : f < 4503599627370496) : T32 (e * 4503599627370496 + f) = 0 := by
  subst he
  unfold T32
  by_cases c : 0 * 4503599627370496 + f = 0
  · rw [if_pos c]
  · rw [if_neg c, if_neg (by omega), if_pos (by omega)]
theorem T32_ones (e f : Nat) (he : e = 2047) (hf : f < 4503599627370496) : T32 (e * 4503599627370496 + f) = 2139095040 + f / 536870912 := by
  subst he
  unfold T32
  rw [if_neg (by omega), if_pos (by omega)]
  omega
theorem T32_large (e f : Nat) (he : e < 2047) (h : 1151 ≤ e) (hf : f < 4503599627370496) : T32 (e * 4503599627370496 + f) = 0 := by
  unfold T32
  rw [if_neg (by omega), if_neg (by omega), if_pos (by omega)]
theorem T32_mid (e f : Nat) (he : e < 1151) (h : 897 ≤ e) (hf : f < 4503599627370496) : T32 (e * 4503599627370496 + f) = (e - 896) * 8388608 + f / 536870912 := by
  unfold T32
  rw [if_neg (by omega), if_neg (by omega), if_neg (by omega), if_pos (by omega)]
  omega
theorem T32_small (e f : Nat) (he : e < 897) (h : e ≠ 0) (hf : f < 4503599627370496) : T32 (e * 4503599627370496 + f) = (4503599627370496 + f) / 536870912 / 2 ^ (897 - e) := by
  have h1 : (e * 4503599627370496 + f) / 4503599627370496 = e := by omega
  have h2 : (e * 4503599627370496 + f) % 4503599627370496 = f := by omega
  unfold T32
  rw [if_neg (by omega), if_neg (by omega), if_neg (by omega), if_neg (by omega), h1, h2]

set_option maxHeartbeats 800000 in
set_option maxRecDepth 100000 in
theorem tries32 (b : Nat) (hb : b < 18446744073709551616) (w : World) :
    Calls Tryd.prog 27 #[.int .u64 (b : Int), .int .i64 8, .int .i64 23, .int .i64 127] w fun r' w' => r' = .returned (.int .u64 (I32 b : Nat)) ∧ Below w.heap.size w w' := by
  have hO : ∀ w, Calls Tryd.prog 24 #[.int .u64 (b : Int), .int .i64 11, .int .i64 52] w _ := fun w => Of_any b 11 52 2048 4503599627370496 hb (by decide) (by decide) (by decide) (by decide) w
  have hC : ∀ (s : Bool) (w : World), Calls Tryd.prog 32 #[.agg #[.bool s, .int .i64 ((b / 4503599627370496 % 2048 : Nat) : Int), .int .u64 ((b % 4503599627370496 : Nat) : Int), .int .i64 11, .int .i64 52]] w _ := fun s w => Class_ref s (b / 4503599627370496 % 2048) (b % 4503599627370496) 11 52 2048 (by decide) (by decide) (by omega) w
  have hPu : ∀ w, Calls Tryd.prog 38 #[.int .i64 29] w fun e w' => e = .returned (.int .u64 536870912) ∧ Drawn0 w w' := fun w => power_any 29 536870912 (by decide) (by decide) w
  have hPs : ∀ w, Calls Tryd.prog 38 #[.int .i64 31] w fun e w' => e = .returned (.int .u64 2147483648) ∧ Drawn0 w w' := fun w => power_any 31 2147483648 (by decide) (by decide) w
  have hPe : ∀ w, Calls Tryd.prog 38 #[.int .i64 8] w fun e w' => e = .returned (.int .u64 256) ∧ Drawn0 w w' := fun w => power_any 8 256 (by decide) (by decide) w
  have hPf : ∀ w, Calls Tryd.prog 38 #[.int .i64 23] w fun e w' => e = .returned (.int .u64 8388608) ∧ Drawn0 w w' := fun w => power_any 23 8388608 (by decide) (by decide) w
  have hP52 : ∀ w, Calls Tryd.prog 38 #[.int .i64 52] w fun e w' => e = .returned (.int .u64 4503599627370496) ∧ Drawn0 w w' := fun w => power_any 52 4503599627370496 (by decide) (by decide) w
  have hcc := clsF_cases 2048 (b / 4503599627370496 % 2048) (b % 4503599627370496)
  have he : b / 4503599627370496 % 2048 < 2048 := by omega
  have hf : b % 4503599627370496 < 4503599627370496 := by omega
  have hI : I32 b = (if (b / 4503599627370496 / 2048 % 2 == 1) = true then 2147483648 else 0) + T32 ((b / 4503599627370496 % 2048) * 4503599627370496 + b % 4503599627370496) := by
    unfold I32
    rw [show b / 4503599627370496 % 2048 * 4503599627370496 + b % 4503599627370496 = b % 9223372036854775808 by omega, show b / 4503599627370496 / 2048 = b / 9223372036854775808 by omega]
    congr 1
    by_cases c : b / 9223372036854775808 % 2 = 1
    · rw [c]; rfl
    · rw [show b / 9223372036854775808 % 2 = 0 by omega]; rfl
  generalize I32 b = A at hI ⊢
  generalize clsF 2048 (b / 4503599627370496 % 2048) (b % 4503599627370496) = C at hC hcc
  generalize b / 4503599627370496 % 2048 = e at *
  generalize b % 4503599627370496 = f at *
  generalize (b / 4503599627370496 / 2048 % 2 == 1) = s at *
  obtain ⟨E, hE⟩ : ∃ E : Int, (e : Int) - 896 = E := ⟨_, rfl⟩
  have hE0 : (e : Int) - 1023 + 127 = E := by omega
  have hE1 : -2000 ≤ E := by omega
  have hE2 : E ≤ 2000 := by omega
  replace hI := Lib.hid hI
  go_enter Tryd.func27, Tryd.ntmps27
  go_wp2_with fail
  refine (hO _).mono ?_
  rintro r' w1 ⟨rfl, hB1⟩
  obtain ⟨G, hG⟩ : ∃ G, w1.heap.size = G := ⟨_, rfl⟩
  go_wp2_with fail
  generalize hw2' : World.alloc w1 _ = w2
  have BK3 : w2.heap[G]? = some (.cells #[.bool s, .int .i64 (e : Int), .int .u64 (f : Int), .int .i64 11, .int .i64 52] 46 (0, 0)) := by
    subst hw2' hG
    exact heap_alloc_new _ _
  have HB3 : Below w.heap.size w w2 := by
    subst hw2'
    exact hB1.alloc hB1.size _
  clear hw2' hG hB1
  refine (hPu _).mono ?_
  rintro r' w3 ⟨rfl, ⟨m, rfl⟩⟩
  replace BK3 := blk_drewN BK3 m
  replace HB3 := pw_below_drewN HB3 m
  generalize World.drewN w2 m = w3 at BK3 HB3 ⊢
  have c0 : w3.cell? ⟨G, 0, none⟩ = some (.bool s) := (blk_cell BK3 0).trans rfl
  have c1 : w3.cell? ⟨G, 1, none⟩ = some (.int .i64 (e : Int)) := (blk_cell BK3 1).trans rfl
  have c2 : w3.cell? ⟨G, 2, none⟩ = some (.int .u64 (f : Int)) := (blk_cell BK3 2).trans rfl
  have c3 : w3.cell? ⟨G, 3, none⟩ = some (.int .i64 11) := (blk_cell BK3 3).trans rfl
  have c4 : w3.cell? ⟨G, 4, none⟩ = some (.int .i64 52) := (blk_cell BK3 4).trans rfl
  replace BK3 := Lib.hid BK3
  replace HB3 := Lib.hid HB3
  obtain ⟨q, hq⟩ : ∃ q, f / 536870912 = q := ⟨_, rfl⟩
  have hqI : (f : Int) / 536870912 = (q : Int) := by omega
  have hql : q < 8388608 := by omega
  replace hq := Lib.hid hq
  cases s with
  | false =>
    have hS : A = 0 + T32 (e * 4503599627370496 + f) := hI.out
    replace hS := Lib.hid hS
    clear hI
    go_wp2_with fail
    refine (hC _ _).mono ?_
    rintro r' w4 ⟨rfl, hB4⟩
    have BK4 := blk_below BK3.out hB4
    have HB4 := below_then HB3.out HB3.out.size hB4
    clear hB4 c0 c1 c2 c3 c4 BK3 HB3
    have c0 : w4.cell? ⟨G, 0, none⟩ = some (.bool false) := (blk_cell BK4 0).trans rfl
    have c1 : w4.cell? ⟨G, 1, none⟩ = some (.int .i64 (e : Int)) := (blk_cell BK4 1).trans rfl
    have c2 : w4.cell? ⟨G, 2, none⟩ = some (.int .u64 (f : Int)) := (blk_cell BK4 2).trans rfl
    have c3 : w4.cell? ⟨G, 3, none⟩ = some (.int .i64 11) := (blk_cell BK4 3).trans rfl
    have c4 : w4.cell? ⟨G, 4, none⟩ = some (.int .i64 52) := (blk_cell BK4 4).trans rfl
    replace BK4 := Lib.hid BK4
    replace HB4 := Lib.hid HB4
    rcases hcc with ⟨h1, hc⟩ | ⟨h1, h2, h3, rfl⟩ | ⟨h1, h2, h3, rfl⟩ | ⟨h1, h2, rfl⟩
    · have hA : (A : Int) = 2139095040 + q := by
        have h := hS.out
        rw [T32_ones e f (by omega) hf, hq.out] at h
        omega
      replace h1 := Lib.hid h1
      rcases hc with rfl | rfl
      all_goals (
        go_wp2_with fail
        refine (hC _ _).mono ?_
        rintro r' w5 ⟨rfl, hB5⟩
        have BK5 := blk_below BK4.out hB5
        have HB5 := below_then HB4.out HB4.out.size hB5
        clear hB5 c0 c1 c2 c3 c4 BK4 HB4
        have c0 : w5.cell? ⟨G, 0, none⟩ = some (.bool false) := (blk_cell BK5 0).trans rfl
        have c1 : w5.cell? ⟨G, 1, none⟩ = some (.int .i64 (e : Int)) := (blk_cell BK5 1).trans rfl
        have c2 : w5.cell? ⟨G, 2, none⟩ = some (.int .u64 (f : Int)) := (blk_cell BK5 2).trans rfl
        have c3 : w5.cell? ⟨G, 3, none⟩ = some (.int .i64 11) := (blk_cell BK5 3).trans rfl
        have c4 : w5.cell? ⟨G, 4, none⟩ = some (.int .i64 52) := (blk_cell BK5 4).trans rfl
        replace BK5 := Lib.hid BK5
        replace HB5 := Lib.hid HB5
        go_wp2_with fail
        go_quiet (first | (go_at_call 38; (with_reducible refine (hPe _).mono ?_); rintro r w' ⟨rfl, ⟨nd, rfl⟩⟩; (try first | exact ⟨rfl, _, World.drewN_drewN _ _ _⟩ | exact ⟨rfl, _, Eq.trans (World.drewN_drewN _ _ _) (congrArg (World.drewN _) (Nat.add_assoc _ _ _))⟩)) | (go_at_call 38; (with_reducible refine (hPf _).mono ?_); rintro r w' ⟨rfl, ⟨nd, rfl⟩⟩; (try first | exact ⟨rfl, _, World.drewN_drewN _ _ _⟩ | exact ⟨rfl, _, Eq.trans (World.drewN_drewN _ _ _) (congrArg (World.drewN _) (Nat.add_assoc _ _ _))⟩)))
        go_wp2_with fail
        go_ret
        exact ⟨by rw [hA]; rfl, pw_below_drewN HB5.out _⟩)
    · have hA : (A : Int) = 0 := by
        have h := hS.out
        rw [T32_zero e f (by omega) hf] at h
        omega
      replace h1 := Lib.hid h1
      replace h2 := Lib.hid h2
      replace h3 := Lib.hid h3
      go_wp2_with fail
      go_ret
      exact ⟨by rw [hA]; rfl, HB4.out⟩
    · have hA : (A : Int) = 0 := by
        have h := hS.out
        rw [T32_zero e f (by omega) hf] at h
        omega
      replace h1 := Lib.hid h1
      replace h2 := Lib.hid h2
      replace h3 := Lib.hid h3
      go_wp2_with fail
      refine (hC _ _).mono ?_
      rintro r' w5 ⟨rfl, hB5⟩
      have BK5 := blk_below BK4.out hB5
      have HB5 := below_then HB4.out HB4.out.size hB5
      clear hB5 c0 c1 c2 c3 c4 BK4 HB4
      have c0 : w5.cell? ⟨G, 0, none⟩ = some (.bool false) := (blk_cell BK5 0).trans rfl
      have c1 : w5.cell? ⟨G, 1, none⟩ = some (.int .i64 (e : Int)) := (blk_cell BK5 1).trans rfl
      have c2 : w5.cell? ⟨G, 2, none⟩ = some (.int .u64 (f : Int)) := (blk_cell BK5 2).trans rfl
      have c3 : w5.cell? ⟨G, 3, none⟩ = some (.int .i64 11) := (blk_cell BK5 3).trans rfl
      have c4 : w5.cell? ⟨G, 4, none⟩ = some (.int .i64 52) := (blk_cell BK5 4).trans rfl
      replace BK5 := Lib.hid BK5
      replace HB5 := Lib.hid HB5
      go_wp2_with fail
      refine (hC _ _).mono ?_
      rintro r' w6 ⟨rfl, hB6⟩
      have BK6 := blk_below BK5.out hB6
      have HB6 := below_then HB5.out HB5.out.size hB6
      clear hB6 c0 c1 c2 c3 c4 BK5 HB5
      have c0 : w6.cell? ⟨G, 0, none⟩ = some (.bool false) := (blk_cell BK6 0).trans rfl
      have c1 : w6.cell? ⟨G, 1, none⟩ = some (.int .i64 (e : Int)) := (blk_cell BK6 1).trans rfl
      have c2 : w6.cell? ⟨G, 2, none⟩ = some (.int .u64 (f : Int)) := (blk_cell BK6 2).trans rfl
      have c3 : w6.cell? ⟨G, 3, none⟩ = some (.int .i64 11) := (blk_cell BK6 3).trans rfl
      have c4 : w6.cell? ⟨G, 4, none⟩ = some (.int .i64 52) := (blk_cell BK6 4).trans rfl
      replace BK6 := Lib.hid BK6
      replace HB6 := Lib.hid HB6
      go_wp2_with fail
      go_ret
      exact ⟨by rw [hA]; rfl, HB6.out⟩
    · have h1 : e < 2047 := by omega
      replace h2 := Lib.hid h2
      go_wp2_with fail
      refine (hC _ _).mono ?_
      rintro r' w5 ⟨rfl, hB5⟩
      have BK5 := blk_below BK4.out hB5
      have HB5 := below_then HB4.out HB4.out.size hB5
      clear hB5 c0 c1 c2 c3 c4 BK4 HB4
      have c0 : w5.cell? ⟨G, 0, none⟩ = some (.bool false) := (blk_cell BK5 0).trans rfl
      have c1 : w5.cell? ⟨G, 1, none⟩ = some (.int .i64 (e : Int)) := (blk_cell BK5 1).trans rfl
      have c2 : w5.cell? ⟨G, 2, none⟩ = some (.int .u64 (f : Int)) := (blk_cell BK5 2).trans rfl
      have c3 : w5.cell? ⟨G, 3, none⟩ = some (.int .i64 11) := (blk_cell BK5 3).trans rfl
      have c4 : w5.cell? ⟨G, 4, none⟩ = some (.int .i64 52) := (blk_cell BK5 4).trans rfl
      replace BK5 := Lib.hid BK5
      replace HB5 := Lib.hid HB5
      go_wp2_with fail
      refine (hC _ _).mono ?_
      rintro r' w6 ⟨rfl, hB6⟩
      have BK6 := blk_below BK5.out hB6
      have HB6 := below_then HB5.out HB5.out.size hB6
      clear hB6 c0 c1 c2 c3 c4 BK5 HB5
      have c0 : w6.cell? ⟨G, 0, none⟩ = some (.bool false) := (blk_cell BK6 0).trans rfl
      have c1 : w6.cell? ⟨G, 1, none⟩ = some (.int .i64 (e : Int)) := (blk_cell BK6 1).trans rfl
      have c2 : w6.cell? ⟨G, 2, none⟩ = some (.int .u64 (f : Int)) := (blk_cell BK6 2).trans rfl
      have c3 : w6.cell? ⟨G, 3, none⟩ = some (.int .i64 11) := (blk_cell BK6 3).trans rfl
      have c4 : w6.cell? ⟨G, 4, none⟩ = some (.int .i64 52) := (blk_cell BK6 4).trans rfl
      replace BK6 := Lib.hid BK6
      replace HB6 := Lib.hid HB6
      go_wp2_with fail
      refine (hPe _).mono ?_
      rintro r' w7 ⟨rfl, ⟨m7, rfl⟩⟩
      have BK7 := blk_drewN BK6.out m7
      have HB7 := pw_below_drewN HB6.out m7
      generalize World.drewN w6 m7 = w7 at BK7 HB7 ⊢
      clear c0 c1 c2 c3 c4 BK6 HB6
      have c0 : w7.cell? ⟨G, 0, none⟩ = some (.bool false) := (blk_cell BK7 0).trans rfl
      have c1 : w7.cell? ⟨G, 1, none⟩ = some (.int .i64 (e : Int)) := (blk_cell BK7 1).trans rfl
      have c2 : w7.cell? ⟨G, 2, none⟩ = some (.int .u64 (f : Int)) := (blk_cell BK7 2).trans rfl
      have c3 : w7.cell? ⟨G, 3, none⟩ = some (.int .i64 11) := (blk_cell BK7 3).trans rfl
      have c4 : w7.cell? ⟨G, 4, none⟩ = some (.int .i64 52) := (blk_cell BK7 4).trans rfl
      replace BK7 := Lib.hid BK7
      replace HB7 := Lib.hid HB7
      by_cases hT : E < 255
      · by_cases hM : E < 1
        · obtain ⟨X0, hX0⟩ : ∃ X0, (4503599627370496 + f) / 536870912 = X0 := ⟨_, rfl⟩
          have hX0l : X0 < 2 * 8388608 := by omega
          have hY : IntKind.u64.wrap (4503599627370496 + (f : Int)) = ((4503599627370496 + f : Nat) : Int) := by rw [IntKind.wrap_u64]; omega
          have hX : ((4503599627370496 + f : Nat) : Int) / 536870912 = (X0 : Int) := by omega
          have hA : A = 0 + X0 / 2 ^ (897 - e) := by
            have h := hS.out
            rw [T32_small e f (by omega) h2.out hf, hX0] at h
            exact h
          obtain ⟨D, hD⟩ : ∃ D, 897 - e = D := ⟨_, rfl⟩
          rw [hD] at hA
          have hED : E = 1 - (D : Int) := by omega
          have hDl : D ≤ 897 := by omega
          have hD1 : 1 ≤ D := by omega
          clear hE hE0 hE1 hE2 hT hM hD h1 hqI hql he
          replace hA := Lib.hid hA
          replace hX0 := Lib.hid hX0
          obtain ⟨Y, hYY⟩ : ∃ Y, 4503599627370496 + f = Y := ⟨_, rfl⟩
          rw [hYY] at hX hY
          replace hYY := Lib.hid hYY
          subst hED
          go_wp2_with fail
          go_quiet (first | (go_at_call 38; (with_reducible refine (hP52 _).mono ?_); rintro r w' ⟨rfl, ⟨nd, rfl⟩⟩; (try first | exact ⟨rfl, _, World.drewN_drewN _ _ _⟩ | exact ⟨rfl, _, Eq.trans (World.drewN_drewN _ _ _) (congrArg (World.drewN _) (Nat.add_assoc _ _ _))⟩)))
          generalize hwq : World.drewN w7 _ = wq
          have HBq : Below w.heap.size w wq := by rw [← hwq]; exact pw_below_drewN HB7.out _
          replace HBq := Lib.hid HBq
          clear hwq
          clear c0 c1 c2 c3 c4
          go_wp2_with fail
          go_loopw [13, 14] (fun v13 v14 w' => ∃ (k x : Nat), v13 = .int .u64 (x : Int) ∧ v14 = .int .i64 (1 - ((D - k : Nat) : Int)) ∧ k ≤ D ∧ x < 2 * 8388608 ∧ Aside0 (X0 / 2 ^ k = x) ∧ w' = wq) (fun _ v14 _ => (1 - intOf v14).toNat)
          case atStart => exact ⟨0, X0, rfl, rfl, by omega, by omega, ⟨by rw [Nat.pow_zero, Nat.div_one]⟩, rfl⟩
          case round =>
            obtain ⟨k, x, rfl, rfl, hk, hxl, hx, rfl⟩ := hrel
            obtain ⟨r, hr⟩ : ∃ r, D - k = r := ⟨_, rfl⟩
            rw [hr]
            have hrl : r ≤ D := by omega
            by_cases c : r = 0
            · have hA2 : (A : Int) = x := by
                have h := hA.out
                rw [show D = k by omega, hx.out] at h
                omega
              subst c
              clear hr
              go_wp2_with fail
              go_ret
              exact ⟨by rw [hA2]; rfl, HBq.out⟩
            · by_cases d : x = 0
              · have hA2 : (A : Int) = 0 := by
                  have h := hA.out
                  have h3 : X0 / 2 ^ D = 0 := by
                    have h4 := hx.out
                    rw [show D = k + r by omega, Nat.pow_add, ← Nat.div_div_eq_div_mul, h4, d, Nat.zero_div]
                  rw [h3] at h
                  omega
                subst d
                have c' : (1 : Int) - (r : Int) < 1 := by omega
                replace hr := Lib.hid hr
                go_wp2_with fail
                go_ret
                exact ⟨by rw [hA2]; rfl, HBq.out⟩
              · have d' : (0 : Int) < (x : Int) := by omega
                have c' : (1 : Int) - (r : Int) < 1 := by omega
                obtain ⟨x2, hx2⟩ : ∃ x2, x / 2 = x2 := ⟨_, rfl⟩
                have hx2I : (x : Int) / 2 = (x2 : Int) := by omega
                have hx2l : x2 < 2 * 8388608 := by omega
                have hx2A : Aside0 (X0 / 2 ^ (k + 1) = x2) := ⟨by rw [Nat.pow_succ, ← Nat.div_div_eq_div_mul, hx.out, hx2]⟩
                have hrI : (1 : Int) - (r : Int) + 1 = 1 - ((D - (k + 1) : Nat) : Int) := by omega
                have hmeas : (1 - (1 - ((D - (k + 1) : Nat) : Int))).toNat < (1 - (1 - (r : Int))).toNat := by omega
                have hkl : k + 1 ≤ D := by omega
                replace hr := Lib.hid hr
                replace hmeas := Lib.hid hmeas
                replace hx2 := Lib.hid hx2
                go_wp2_with fail
                go_roundw
                case rel => exact ⟨k + 1, x2, rfl, rfl, hkl, hx2l, hx2A, by first | rfl | trivial⟩
                case measure => simp only [intOf]; exact hmeas.out
        · obtain ⟨n, hn⟩ : ∃ n, e - 896 = n := ⟨_, rfl⟩
          have hEn : E = (n : Int) := by omega
          have hn1 : 1 ≤ n := by omega
          have hn2 : n < 255 := by omega
          obtain ⟨nm, hnm⟩ : ∃ nm, n * 8388608 = nm := ⟨_, rfl⟩
          have hnml : nm < 2147483648 := by omega
          have hw1 : IntKind.u64.wrap (n : Int) = (n : Int) := u64_small _ (by omega)
          have hw2 : IntKind.u64.wrap ((n : Int) * 8388608) = (nm : Int) := by rw [IntKind.wrap_u64]; omega
          have hA : (A : Int) = nm + q := by
            have h := hS.out
            rw [T32_mid e f (by omega) (by omega) hf, hn, hq.out, hnm] at h
            omega
          clear hE hE0 hE1 hE2 hT hM h1 he
          subst hEn
          replace hn := Lib.hid hn
          replace hnm := Lib.hid hnm
          replace hA := Lib.hid hA
          go_wp2_with fail
          go_quiet (first | (go_at_call 38; (with_reducible refine (hPf _).mono ?_); rintro r w' ⟨rfl, ⟨nd, rfl⟩⟩; (try first | exact ⟨rfl, _, World.drewN_drewN _ _ _⟩ | exact ⟨rfl, _, Eq.trans (World.drewN_drewN _ _ _) (congrArg (World.drewN _) (Nat.add_assoc _ _ _))⟩)))
          go_wp2_with fail
          go_ret
          exact ⟨by rw [hA.out]; rfl, pw_below_drewN HB7.out _⟩
      · have hA : (A : Int) = 0 := by
          have h := hS.out
          rw [T32_large e f (by omega) (by omega) hf] at h
          omega
        go_wp2_with fail
        go_ret
        exact ⟨by rw [hA]; rfl, HB7.out⟩
  | true =>
    have hS : A = 2147483648 + T32 (e * 4503599627370496 + f) := hI.out
    replace hS := Lib.hid hS
    clear hI
    go_wp2_with fail
    refine (hPs _).mono ?_
    rintro r' w4 ⟨rfl, ⟨m4, rfl⟩⟩
    have BK4 := blk_drewN BK3.out m4
    have HB4 := pw_below_drewN HB3.out m4
    generalize World.drewN w3 m4 = w4 at BK4 HB4 ⊢
    clear c0 c1 c2 c3 c4 BK3 HB3
    have c0 : w4.cell? ⟨G, 0, none⟩ = some (.bool true) := (blk_cell BK4 0).trans rfl
    have c1 : w4.cell? ⟨G, 1, none⟩ = some (.int .i64 (e : Int)) := (blk_cell BK4 1).trans rfl
    have c2 : w4.cell? ⟨G, 2, none⟩ = some (.int .u64 (f : Int)) := (blk_cell BK4 2).trans rfl
    have c3 : w4.cell? ⟨G, 3, none⟩ = some (.int .i64 11) := (blk_cell BK4 3).trans rfl
    have c4 : w4.cell? ⟨G, 4, none⟩ = some (.int .i64 52) := (blk_cell BK4 4).trans rfl
    replace BK4 := Lib.hid BK4
    replace HB4 := Lib.hid HB4
    go_wp2_with fail
    refine (hC _ _).mono ?_
    rintro r' w5 ⟨rfl, hB5⟩
    have BK5 := blk_below BK4.out hB5
    have HB5 := below_then HB4.out HB4.out.size hB5
    clear hB5 c0 c1 c2 c3 c4 BK4 HB4
    have c0 : w5.cell? ⟨G, 0, none⟩ = some (.bool true) := (blk_cell BK5 0).trans rfl
    have c1 : w5.cell? ⟨G, 1, none⟩ = some (.int .i64 (e : Int)) := (blk_cell BK5 1).trans rfl
    have c2 : w5.cell? ⟨G, 2, none⟩ = some (.int .u64 (f : Int)) := (blk_cell BK5 2).trans rfl
    have c3 : w5.cell? ⟨G, 3, none⟩ = some (.int .i64 11) := (blk_cell BK5 3).trans rfl
    have c4 : w5.cell? ⟨G, 4, none⟩ = some (.int .i64 52) := (blk_cell BK5 4).trans rfl
    replace BK5 := Lib.hid BK5
    replace HB5 := Lib.hid HB5
    rcases hcc with ⟨h1, hc⟩ | ⟨h1, h2, h3, rfl⟩ | ⟨h1, h2, h3, rfl⟩ | ⟨h1, h2, rfl⟩
    · have hA : (A : Int) = 4286578688 + q := by
        have h := hS.out
        rw [T32_ones e f (by omega) hf, hq.out] at h
        omega
      replace h1 := Lib.hid h1
      rcases hc with rfl | rfl
      all_goals (
        go_wp2_with fail
        refine (hC _ _).mono ?_
        rintro r' w6 ⟨rfl, hB6⟩
        have BK6 := blk_below BK5.out hB6
        have HB6 := below_then HB5.out HB5.out.size hB6
        clear hB6 c0 c1 c2 c3 c4 BK5 HB5
        have c0 : w6.cell? ⟨G, 0, none⟩ = some (.bool true) := (blk_cell BK6 0).trans rfl
        have c1 : w6.cell? ⟨G, 1, none⟩ = some (.int .i64 (e : Int)) := (blk_cell BK6 1).trans rfl
        have c2 : w6.cell? ⟨G, 2, none⟩ = some (.int .u64 (f : Int)) := (blk_cell BK6 2).trans rfl
        have c3 : w6.cell? ⟨G, 3, none⟩ = some (.int .i64 11) := (blk_cell BK6 3).trans rfl
        have c4 : w6.cell? ⟨G, 4, none⟩ = some (.int .i64 52) := (blk_cell BK6 4).trans rfl
        replace BK6 := Lib.hid BK6
        replace HB6 := Lib.hid HB6
        go_wp2_with fail
        go_quiet (first | (go_at_call 38; (with_reducible refine (hPe _).mono ?_); rintro r w' ⟨rfl, ⟨nd, rfl⟩⟩; (try first | exact ⟨rfl, _, World.drewN_drewN _ _ _⟩ | exact ⟨rfl, _, Eq.trans (World.drewN_drewN _ _ _) (congrArg (World.drewN _) (Nat.add_assoc _ _ _))⟩)) | (go_at_call 38; (with_reducible refine (hPf _).mono ?_); rintro r w' ⟨rfl, ⟨nd, rfl⟩⟩; (try first | exact ⟨rfl, _, World.drewN_drewN _ _ _⟩ | exact ⟨rfl, _, Eq.trans (World.drewN_drewN _ _ _) (congrArg (World.drewN _) (Nat.add_assoc _ _ _))⟩)))
        go_wp2_with fail
        go_ret
        exact ⟨by rw [hA]; rfl, pw_below_drewN HB6.out _⟩)
    · have hA : (A : Int) = 2147483648 := by
        have h := hS.out
        rw [T32_zero e f (by omega) hf] at h
        omega
      replace h1 := Lib.hid h1
      replace h2 := Lib.hid h2
      replace h3 := Lib.hid h3
      go_wp2_with fail
      go_ret
      exact ⟨by rw [hA]; rfl, HB5.out⟩
    · have hA : (A : Int) = 2147483648 := by
        have h := hS.out
        rw [T32_zero e f (by omega) hf] at h
        omega
      replace h1 := Lib.hid h1
      replace h2 := Lib.hid h2
      replace h3 := Lib.hid h3
      go_wp2_with fail
      refine (hC _ _).mono ?_
      rintro r' w6 ⟨rfl, hB6⟩
      have BK6 := blk_below BK5.out hB6
      have HB6 := below_then HB5.out HB5.out.size hB6
      clear hB6 c0 c1 c2 c3 c4 BK5 HB5
      have c0 : w6.cell? ⟨G, 0, none⟩ = some (.bool true) := (blk_cell BK6 0).trans rfl
      have c1 : w6.cell? ⟨G, 1, none⟩ = some (.int .i64 (e : Int)) := (blk_cell BK6 1).trans rfl
      have c2 : w6.cell? ⟨G, 2, none⟩ = some (.int .u64 (f : Int)) := (blk_cell BK6 2).trans rfl
      have c3 : w6.cell? ⟨G, 3, none⟩ = some (.int .i64 11) := (blk_cell BK6 3).trans rfl
      have c4 : w6.cell? ⟨G, 4, none⟩ = some (.int .i64 52) := (blk_cell BK6 4).trans rfl
      replace BK6 := Lib.hid BK6
      replace HB6 := Lib.hid HB6
      go_wp2_with fail
      refine (hC _ _).mono ?_
      rintro r' w7 ⟨rfl, hB7⟩
      have BK7 := blk_below BK6.out hB7
      have HB7 := below_then HB6.out HB6.out.size hB7
      clear hB7 c0 c1 c2 c3 c4 BK6 HB6
      have c0 : w7.cell? ⟨G, 0, none⟩ = some (.bool true) := (blk_cell BK7 0).trans rfl
      have c1 : w7.cell? ⟨G, 1, none⟩ = some (.int .i64 (e : Int)) := (blk_cell BK7 1).trans rfl
      have c2 : w7.cell? ⟨G, 2, none⟩ = some (.int .u64 (f : Int)) := (blk_cell BK7 2).trans rfl
      have c3 : w7.cell? ⟨G, 3, none⟩ = some (.int .i64 11) := (blk_cell BK7 3).trans rfl
      have c4 : w7.cell? ⟨G, 4, none⟩ = some (.int .i64 52) := (blk_cell BK7 4).trans rfl
      replace BK7 := Lib.hid BK7
      replace HB7 := Lib.hid HB7
      go_wp2_with fail
      go_ret
      exact ⟨by rw [hA]; rfl, HB7.out⟩
    · have h1 : e < 2047 := by omega
      replace h2 := Lib.hid h2
      go_wp2_with fail
      refine (hC _ _).mono ?_
      rintro r' w6 ⟨rfl, hB6⟩
      have BK6 := blk_below BK5.out hB6
      have HB6 := below_then HB5.out HB5.out.size hB6
      clear hB6 c0 c1 c2 c3 c4 BK5 HB5
      have c0 : w6.cell? ⟨G, 0, none⟩ = some (.bool true) := (blk_cell BK6 0).trans rfl
      have c1 : w6.cell? ⟨G, 1, none⟩ = some (.int .i64 (e : Int)) := (blk_cell BK6 1).trans rfl
      have c2 : w6.cell? ⟨G, 2, none⟩ = some (.int .u64 (f : Int)) := (blk_cell BK6 2).trans rfl
      have c3 : w6.cell? ⟨G, 3, none⟩ = some (.int .i64 11) := (blk_cell BK6 3).trans rfl
      have c4 : w6.cell? ⟨G, 4, none⟩ = some (.int .i64 52) := (blk_cell BK6 4).trans rfl
      replace BK6 := Lib.hid BK6
      replace HB6 := Lib.hid HB6
      go_wp2_with fail
      refine (hC _ _).mono ?_
      rintro r' w7 ⟨rfl, hB7⟩
      have BK7 := blk_below BK6.out hB7
      have HB7 := below_then HB6.out HB6.out.size hB7
      clear hB7 c0 c1 c2 c3 c4 BK6 HB6
      have c0 : w7.cell? ⟨G, 0, none⟩ = some (.bool true) := (blk_cell BK7 0).trans rfl
      have c1 : w7.cell? ⟨G, 1, none⟩ = some (.int .i64 (e : Int)) := (blk_cell BK7 1).trans rfl
      have c2 : w7.cell? ⟨G, 2, none⟩ = some (.int .u64 (f : Int)) := (blk_cell BK7 2).trans rfl
      have c3 : w7.cell? ⟨G, 3, none⟩ = some (.int .i64 11) := (blk_cell BK7 3).trans rfl
      have c4 : w7.cell? ⟨G, 4, none⟩ = some (.int .i64 52) := (blk_cell BK7 4).trans rfl
      replace BK7 := Lib.hid BK7
      replace HB7 := Lib.hid HB7
      go_wp2_with fail
      refine (hPe _).mono ?_
      rintro r' w8 ⟨rfl, ⟨m8, rfl⟩⟩
      have BK8 := blk_drewN BK7.out m8
      have HB8 := pw_below_drewN HB7.out m8
      generalize World.drewN w7 m8 = w8 at BK8 HB8 ⊢
      clear c0 c1 c2 c3 c4 BK7 HB7
      have c0 : w8.cell? ⟨G, 0, none⟩ = some (.bool true) := (blk_cell BK8 0).trans rfl
      have c1 : w8.cell? ⟨G, 1, none⟩ = some (.int .i64 (e : Int)) := (blk_cell BK8 1).trans rfl
      have c2 : w8.cell? ⟨G, 2, none⟩ = some (.int .u64 (f : Int)) := (blk_cell BK8 2).trans rfl
      have c3 : w8.cell? ⟨G, 3, none⟩ = some (.int .i64 11) := (blk_cell BK8 3).trans rfl
      have c4 : w8.cell? ⟨G, 4, none⟩ = some (.int .i64 52) := (blk_cell BK8 4).trans rfl
      replace BK8 := Lib.hid BK8
      replace HB8 := Lib.hid HB8
      by_cases hT : E < 255
      · by_cases hM : E < 1
        · obtain ⟨X0, hX0⟩ : ∃ X0, (4503599627370496 + f) / 536870912 = X0 := ⟨_, rfl⟩
          have hX0l : X0 < 2 * 8388608 := by omega
          have hY : IntKind.u64.wrap (4503599627370496 + (f : Int)) = ((4503599627370496 + f : Nat) : Int) := by rw [IntKind.wrap_u64]; omega
          have hX : ((4503599627370496 + f : Nat) : Int) / 536870912 = (X0 : Int) := by omega
          have hA : A = 2147483648 + X0 / 2 ^ (897 - e) := by
            have h := hS.out
            rw [T32_small e f (by omega) h2.out hf, hX0] at h
            exact h
          obtain ⟨D, hD⟩ : ∃ D, 897 - e = D := ⟨_, rfl⟩
          rw [hD] at hA
          have hED : E = 1 - (D : Int) := by omega
          have hDl : D ≤ 897 := by omega
          have hD1 : 1 ≤ D := by omega
          clear hE hE0 hE1 hE2 hT hM hD h1 hqI hql he
          replace hA := Lib.hid hA
          replace hX0 := Lib.hid hX0
          obtain ⟨Y, hYY⟩ : ∃ Y, 4503599627370496 + f = Y := ⟨_, rfl⟩
          rw [hYY] at hX hY
          replace hYY := Lib.hid hYY
          subst hED
          go_wp2_with fail
          go_quiet (first | (go_at_call 38; (with_reducible refine (hP52 _).mono ?_); rintro r w' ⟨rfl, ⟨nd, rfl⟩⟩; (try first | exact ⟨rfl, _, World.drewN_drewN _ _ _⟩ | exact ⟨rfl, _, Eq.trans (World.drewN_drewN _ _ _) (congrArg (World.drewN _) (Nat.add_assoc _ _ _))⟩)))
          generalize hwq : World.drewN w8 _ = wq
          have HBq : Below w.heap.size w wq := by rw [← hwq]; exact pw_below_drewN HB8.out _
          replace HBq := Lib.hid HBq
          clear hwq
          clear c0 c1 c2 c3 c4
          go_wp2_with fail
          go_loopw [13, 14] (fun v13 v14 w' => ∃ (k x : Nat), v13 = .int .u64 (x : Int) ∧ v14 = .int .i64 (1 - ((D - k : Nat) : Int)) ∧ k ≤ D ∧ x < 2 * 8388608 ∧ Aside0 (X0 / 2 ^ k = x) ∧ w' = wq) (fun _ v14 _ => (1 - intOf v14).toNat)
          case atStart => exact ⟨0, X0, rfl, rfl, by omega, by omega, ⟨by rw [Nat.pow_zero, Nat.div_one]⟩, rfl⟩
          case round =>
            obtain ⟨k, x, rfl, rfl, hk, hxl, hx, rfl⟩ := hrel
            obtain ⟨r, hr⟩ : ∃ r, D - k = r := ⟨_, rfl⟩
            rw [hr]
            have hrl : r ≤ D := by omega
            by_cases c : r = 0
            · have hA2 : (A : Int) = 2147483648 + x := by
                have h := hA.out
                rw [show D = k by omega, hx.out] at h
                omega
              subst c
              clear hr
              go_wp2_with fail
              go_ret
              exact ⟨by rw [hA2]; rfl, HBq.out⟩
            · by_cases d : x = 0
              · have hA2 : (A : Int) = 2147483648 := by
                  have h := hA.out
                  have h3 : X0 / 2 ^ D = 0 := by
                    have h4 := hx.out
                    rw [show D = k + r by omega, Nat.pow_add, ← Nat.div_div_eq_div_mul, h4, d, Nat.zero_div]
                  rw [h3] at h
                  omega
                subst d
                have c' : (1 : Int) - (r : Int) < 1 := by omega
                replace hr := Lib.hid hr
                go_wp2_with fail
                go_ret
                exact ⟨by rw [hA2]; rfl, HBq.out⟩
              · have d' : (0 : Int) < (x : Int) := by omega
                have c' : (1 : Int) - (r : Int) < 1 := by omega
                obtain ⟨x2, hx2⟩ : ∃ x2, x / 2 = x2 := ⟨_, rfl⟩
                have hx2I : (x : Int) / 2 = (x2 : Int) := by omega
                have hx2l : x2 < 2 * 8388608 := by omega
                have hx2A : Aside0 (X0 / 2 ^ (k + 1) = x2) := ⟨by rw [Nat.pow_succ, ← Nat.div_div_eq_div_mul, hx.out, hx2]⟩
                have hrI : (1 : Int) - (r : Int) + 1 = 1 - ((D - (k + 1) : Nat) : Int) := by omega
                have hmeas : (1 - (1 - ((D - (k + 1) : Nat) : Int))).toNat < (1 - (1 - (r : Int))).toNat := by omega
                have hkl : k + 1 ≤ D := by omega
                replace hr := Lib.hid hr
                replace hmeas := Lib.hid hmeas
                replace hx2 := Lib.hid hx2
                go_wp2_with fail
                go_roundw
                case rel => exact ⟨k + 1, x2, rfl, rfl, hkl, hx2l, hx2A, by first | rfl | trivial⟩
                case measure => simp only [intOf]; exact hmeas.out
        · obtain ⟨n, hn⟩ : ∃ n, e - 896 = n := ⟨_, rfl⟩
          have hEn : E = (n : Int) := by omega
          have hn1 : 1 ≤ n := by omega
          have hn2 : n < 255 := by omega
          obtain ⟨nm, hnm⟩ : ∃ nm, n * 8388608 = nm := ⟨_, rfl⟩
          have hnml : nm < 2147483648 := by omega
          have hw1 : IntKind.u64.wrap (n : Int) = (n : Int) := u64_small _ (by omega)
          have hw2 : IntKind.u64.wrap ((n : Int) * 8388608) = (nm : Int) := by rw [IntKind.wrap_u64]; omega
          have hA : (A : Int) = 2147483648 + nm + q := by
            have h := hS.out
            rw [T32_mid e f (by omega) (by omega) hf, hn, hq.out, hnm] at h
            omega
          clear hE hE0 hE1 hE2 hT hM h1 he
          subst hEn
          replace hn := Lib.hid hn
          replace hnm := Lib.hid hnm
          replace hA := Lib.hid hA
          go_wp2_with fail
          go_quiet (first | (go_at_call 38; (with_reducible refine (hPf _).mono ?_); rintro r w' ⟨rfl, ⟨nd, rfl⟩⟩; (try first | exact ⟨rfl, _, World.drewN_drewN _ _ _⟩ | exact ⟨rfl, _, Eq.trans (World.drewN_drewN _ _ _) (congrArg (World.drewN _) (Nat.add_assoc _ _ _))⟩)))
          go_wp2_with fail
          go_ret
          exact ⟨by rw [hA.out]; rfl, pw_below_drewN HB8.out _⟩
      · have hA : (A : Int) = 2147483648 := by
          have h := hS.out
          rw [T32_large e f (by omega) (by omega) hf] at h
          omega
        go_wp2_with fail
        go_ret
        exact ⟨by rw [hA]; rfl, HB8.out⟩
end Go.Proofs.YtocmmdheegkbaaaDoor
