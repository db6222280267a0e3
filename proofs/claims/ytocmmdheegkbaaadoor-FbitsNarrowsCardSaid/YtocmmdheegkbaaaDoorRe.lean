/- The reference: Widen. -/
import Derived.Test.YtocmmdheegkbaaaDoorRd
namespace Go.Proofs.YtocmmdheegkbaaaDoor
open Go.RowKit Go.Proofs.YtocmmdheegkbaaaDoorW.PrintWords Go.Proofs.YtocmmdheegkbaaaDoorW.PrintMore
set_option linter.unusedVariables false
set_option linter.unusedSimpArgs false
theorem clsF_cases (pe e f : Nat) : (e = pe - 1 ∧ (clsF pe e f = 4 ∨ clsF pe e f = 5)) ∨ (e ≠ pe - 1 ∧ e = 0 ∧ f = 0 ∧ clsF pe e f = 1) ∨ (e ≠ pe - 1 ∧ e = 0 ∧ f ≠ 0 ∧ clsF pe e f = 2) ∨ (e ≠ pe - 1 ∧ e ≠ 0 ∧ clsF pe e f = 3) := by
  unfold clsF
  by_cases h : e = pe - 1
  · by_cases hf : f = 0 <;> simp [h, hf]
  · by_cases h0 : e = 0
    · by_cases hf : f = 0 <;> simp [h, h0, hf]
      all_goals omega
    · simp [h, h0]

set_option maxHeartbeats 800000 in
set_option maxRecDepth 100000 in
theorem WidenR16 (s : Bool) (e f r : Nat) (he : e < 32) (hf : f < 1024) (hr : R16 e f = r)
    (hsub : e = 0 → f ≠ 0 → ∀ i, 1024 ≤ f * 2 ^ i → f * 2 ^ i < 2 * 1024 → i ≤ 10 ∧ (1009 - i) * 4503599627370496 + (f * 2 ^ i - 1024) * 4398046511104 = r) (w : World) :
    Calls Tryd.prog 25 #[flt s e f 5 10, .int .i64 15] w fun r' w' => r' = .returned (.int .u64 (wd s r : Nat)) ∧ Below w.heap.size w w' := by
  have hC := fun w => Class_ref s e f 5 10 32 (by decide) (by decide) he w
  have hP := fun w => power_any 42 4398046511104 (by decide) (by decide) w
  have hPf : ∀ w, Calls Tryd.prog 38 #[.int .i64 10] w fun e w' => e = .returned (.int .u64 1024) ∧ Drawn0 w w' := fun w => power_any 10 1024 (by decide) (by decide) w
  have hcc := clsF_cases 32 e f
  generalize clsF 32 e f = C at hC hcc
  obtain ⟨fu, hfu⟩ : ∃ fu, f * 4398046511104 = fu := ⟨_, rfl⟩
  have hful : fu < 4503599627370496 := by omega
  have hwfu : IntKind.u64.wrap ((f : Int) * 4398046511104) = (fu : Int) := by rw [IntKind.wrap_u64]; omega
  have hrA : e = 32 - 1 → 2047 * 4503599627370496 + fu = r := fun h => by rw [← hr, ← hfu]; unfold R16; rw [if_pos (by omega)]
  have hrB : e = 0 → f = 0 → 0 * 4503599627370496 + 0 = r := fun h h' => by rw [← hr]; unfold R16; rw [if_neg (by omega), if_pos h, if_pos h']
  have hrC : e ≠ 32 - 1 → e ≠ 0 → (e + 1008) * 4503599627370496 + fu = r := fun h h' => by rw [← hr, ← hfu]; unfold R16; rw [if_neg (by omega), if_neg h']
  clear hr
  replace hfu := Lib.hid hfu
  replace hsub := Lib.hid hsub
  replace hrA := Lib.hid hrA
  replace hrB := Lib.hid hrB
  replace hrC := Lib.hid hrC
  unfold flt at hC ⊢
  go_enter Tryd.func25, Tryd.ntmps25
  go_wp2_with fail
  generalize hw1' : World.alloc w _ = w1
  have BK1 : w1.heap[w.heap.size]? = some (.cells #[.bool s, .int .i64 (e : Int), .int .u64 (f : Int), .int .i64 5, .int .i64 10] 46 (0, 0)) := by
    subst hw1'
    exact heap_alloc_new _ _
  have HB1 : Below w.heap.size w w1 := by
    subst hw1'
    exact below_alloc (Below.refl _ _) _
  clear hw1'
  refine (hP _).mono ?_
  rintro r' w2 ⟨rfl, ⟨m, rfl⟩⟩
  replace BK1 := blk_drewN BK1 m
  replace HB1 := pw_below_drewN HB1 m
  generalize World.drewN _ m = w2 at BK1 HB1 ⊢
  have c0 : w2.cell? ⟨w.heap.size, 0, none⟩ = some (.bool s) := (blk_cell BK1 0).trans rfl
  have c1 : w2.cell? ⟨w.heap.size, 1, none⟩ = some (.int .i64 (e : Int)) := (blk_cell BK1 1).trans rfl
  have c2 : w2.cell? ⟨w.heap.size, 2, none⟩ = some (.int .u64 (f : Int)) := (blk_cell BK1 2).trans rfl
  have c3 : w2.cell? ⟨w.heap.size, 3, none⟩ = some (.int .i64 5) := (blk_cell BK1 3).trans rfl
  have c4 : w2.cell? ⟨w.heap.size, 4, none⟩ = some (.int .i64 10) := (blk_cell BK1 4).trans rfl
  replace BK1 := Lib.hid BK1
  replace HB1 := Lib.hid HB1
  go_wp2_with fail
  refine (hC _).mono ?_
  rintro r' w3 ⟨rfl, hB3⟩
  have BK3 := blk_below BK1.out hB3
  have HB3 := below_then HB1.out HB1.out.size hB3
  clear hB3 c0 c1 c2 c3 c4 BK1 HB1
  have c0 : w3.cell? ⟨w.heap.size, 0, none⟩ = some (.bool s) := (blk_cell BK3 0).trans rfl
  have c1 : w3.cell? ⟨w.heap.size, 1, none⟩ = some (.int .i64 (e : Int)) := (blk_cell BK3 1).trans rfl
  have c2 : w3.cell? ⟨w.heap.size, 2, none⟩ = some (.int .u64 (f : Int)) := (blk_cell BK3 2).trans rfl
  have c3 : w3.cell? ⟨w.heap.size, 3, none⟩ = some (.int .i64 5) := (blk_cell BK3 3).trans rfl
  have c4 : w3.cell? ⟨w.heap.size, 4, none⟩ = some (.int .i64 10) := (blk_cell BK3 4).trans rfl
  replace BK3 := Lib.hid BK3
  replace HB3 := Lib.hid HB3
  rcases hcc with ⟨h1, hc⟩ | ⟨h1, h2, h3, rfl⟩ | ⟨h1, h2, h3, rfl⟩ | ⟨h1, h2, rfl⟩
  · have hb := fun w => bits_ref s 2047 fu (by decide) hful w
    rw [hrA.out h1] at hb
    rcases hc with rfl | rfl
    all_goals (
      go_wp2_with fail
      refine (hb _).mono ?_
      rintro r' w4 ⟨rfl, ⟨m4, rfl⟩⟩
      have HB4 := pw_below_drewN HB3.out m4
      go_wp2_with fail
      go_ret
      exact ⟨rfl, HB4⟩)
  · have hb := fun w => bits_ref s 0 0 (by decide) (by decide) w
    rw [hrB.out h2 h3] at hb
    go_wp2_with fail
    refine (hb _).mono ?_
    rintro r' w4 ⟨rfl, ⟨m4, rfl⟩⟩
    have HB4 := pw_below_drewN HB3.out m4
    go_wp2_with fail
    go_ret
    exact ⟨rfl, HB4⟩
  · go_wp2_with fail
    go_loopw [6, 7] (fun v6 v7 w' => ∃ (i x : Nat), v6 = .int .u64 x ∧ v7 = .int .i64 ((1009 - i : Nat) : Int) ∧ i ≤ 10 ∧ x < 2 * 1024 ∧ Aside0 (f * 2 ^ i = x) ∧ Drawn0 w3 w') (fun v6 _ _ => 2 * 1024 - (intOf v6).toNat)
    case atStart => exact ⟨0, f, rfl, rfl, by omega, by omega, ⟨by rw [Nat.pow_zero, Nat.mul_one]⟩, by repeat (first | exact Drawn0.refl _ | apply Drawn0.step)⟩
    case round =>
      obtain ⟨i, x, rfl, rfl, hi, hx2, hx, ⟨m1, rfl⟩⟩ := hrel
      have g0 : (w3.drewN m1).cell? ⟨w.heap.size, 0, none⟩ = some (.bool s) := c0
      have g4 : (w3.drewN m1).cell? ⟨w.heap.size, 4, none⟩ = some (.int .i64 10) := c4
      have HB4 : Below w.heap.size w (w3.drewN m1) := pw_below_drewN HB3.out m1
      replace HB4 := Lib.hid HB4
      generalize hw4 : w3.drewN m1 = w4 at g0 g4 HB4 ⊢
      obtain ⟨k, hk⟩ : ∃ k, 1009 - i = k := ⟨_, rfl⟩
      rw [hk]
      by_cases c : x < 1024
      · have hd : decide ((x : Int) < 1024) = true := decide_eq_true (by omega)
        have hil : i < 10 := by
          have h5 := hx.out
          have h6 : 2 ^ i ≤ f * 2 ^ i := Nat.le_mul_of_pos_left _ (by omega)
          have h7 : 2 ^ i < 2 ^ 10 := Nat.lt_of_le_of_lt (by rw [h5] at h6; exact h6) (Nat.lt_of_lt_of_le c (by decide))
          exact (Nat.pow_lt_pow_iff_right (by decide)).1 h7
        have hw2 : IntKind.u64.wrap (2 * (x : Int)) = ((2 * x : Nat) : Int) := by rw [IntKind.wrap_u64]; omega
        have hk2 : wrap64 ((k : Int) - 1) = ((k - 1 : Nat) : Int) := by unfold wrap64; omega
        have hk1 : 1 ≤ k := by omega
        have hx1 : 1 ≤ x := by rw [← hx.out]; exact Nat.mul_pos (by omega) (Nat.two_pow_pos _)
        replace hk := Lib.hid hk
        go_wp2_with fail
        refine (hPf _).mono ?_
        rintro r' w5 ⟨rfl, ⟨m2, rfl⟩⟩
        go_wp2_with fail
        go_roundw
        case rel => exact ⟨i + 1, 2 * x, rfl, (by rw [show ((1009 - (i + 1) : Nat) : Int) = ((k - 1 : Nat) : Int) by have := hk.out; omega, ← hk2]), by omega, by omega, ⟨by rw [Nat.pow_succ, ← hx.out]; simp only [Nat.mul_comm, Nat.mul_left_comm]⟩, by rw [← hw4]; repeat (first | exact Drawn0.refl _ | exact ⟨_, World.drewN_drewN _ _ _⟩ | apply Drawn0.step)⟩
        case measure => simp [intOf]; omega
      · have hd : decide ((x : Int) < 1024) = false := decide_eq_false (by omega)
        have hs := hsub.out h2 h3 i (by rw [hx.out]; omega) (by rw [hx.out]; exact hx2)
        rw [hx.out, hk] at hs
        obtain ⟨y, hy⟩ : ∃ y, x - 1024 = y := ⟨_, rfl⟩
        obtain ⟨z, hz⟩ : ∃ z, y * 4398046511104 = z := ⟨_, rfl⟩
        have hzl : z < 4503599627370496 := by omega
        have hw1 : IntKind.u64.wrap ((x : Int) - 1024) = (y : Int) := by rw [IntKind.wrap_u64]; omega
        have hw2 : IntKind.u64.wrap ((y : Int) * 4398046511104) = (z : Int) := by rw [IntKind.wrap_u64]; omega
        have hb := fun w => bits_ref s k z (by omega) hzl w
        rw [hy, hz] at hs
        rw [hs.2] at hb
        clear hs
        replace hk := Lib.hid hk
        replace hy := Lib.hid hy
        replace hz := Lib.hid hz
        go_wp2_with fail
        refine (hPf _).mono ?_
        rintro r' w5 ⟨rfl, ⟨m2, rfl⟩⟩
        replace g0 : (w4.drewN m2).cell? ⟨w.heap.size, 0, none⟩ = some (.bool s) := g0
        replace g4 : (w4.drewN m2).cell? ⟨w.heap.size, 4, none⟩ = some (.int .i64 10) := g4
        have HB5 := Lib.hid (pw_below_drewN HB4.out m2)
        generalize World.drewN w4 m2 = w5 at g0 g4 HB5 ⊢
        go_wp2_with fail
        go_quiet (first | (go_at_call 38; (with_reducible refine (hPf _).mono ?_); rintro r w' ⟨rfl, ⟨nd, rfl⟩⟩; (try first | exact ⟨rfl, _, World.drewN_drewN _ _ _⟩ | exact ⟨rfl, _, Eq.trans (World.drewN_drewN _ _ _) (congrArg (World.drewN _) (Nat.add_assoc _ _ _))⟩)) | (go_at_call 39; (with_reducible refine (hb _).mono ?_); rintro r w' ⟨rfl, ⟨nd, rfl⟩⟩; (try first | exact ⟨rfl, _, World.drewN_drewN _ _ _⟩ | exact ⟨rfl, _, Eq.trans (World.drewN_drewN _ _ _) (congrArg (World.drewN _) (Nat.add_assoc _ _ _))⟩)))
        go_wp2_with fail
        go_ret
        exact ⟨rfl, pw_below_drewN HB5.out _⟩
  · have hb := fun w => bits_ref s (e + 1008) fu (by omega) hful w
    rw [hrC.out h1 h2] at hb
    obtain ⟨e2, he2⟩ : ∃ e2, e + 1008 = e2 := ⟨_, rfl⟩
    have hE : (e : Int) + 1008 = (e2 : Int) := by omega
    have hE0 : (e : Int) - 15 + 1023 = (e2 : Int) := by omega
    rw [he2] at hb
    go_wp2_with fail
    refine (hb _).mono ?_
    rintro r' w4 ⟨rfl, ⟨m4, rfl⟩⟩
    have HB4 := pw_below_drewN HB3.out m4
    go_wp2_with fail
    go_ret
    exact ⟨rfl, HB4⟩

set_option maxHeartbeats 800000 in
set_option maxRecDepth 100000 in
theorem WidenR32 (s : Bool) (e f r : Nat) (he : e < 256) (hf : f < 8388608) (hr : R32 e f = r)
    (hsub : e = 0 → f ≠ 0 → ∀ i, 8388608 ≤ f * 2 ^ i → f * 2 ^ i < 2 * 8388608 → i ≤ 23 ∧ (897 - i) * 4503599627370496 + (f * 2 ^ i - 8388608) * 536870912 = r) (w : World) :
    Calls Tryd.prog 25 #[flt s e f 8 23, .int .i64 127] w fun r' w' => r' = .returned (.int .u64 (wd s r : Nat)) ∧ Below w.heap.size w w' := by
  have hC := fun w => Class_ref s e f 8 23 256 (by decide) (by decide) he w
  have hP := fun w => power_any 29 536870912 (by decide) (by decide) w
  have hPf : ∀ w, Calls Tryd.prog 38 #[.int .i64 23] w fun e w' => e = .returned (.int .u64 8388608) ∧ Drawn0 w w' := fun w => power_any 23 8388608 (by decide) (by decide) w
  have hcc := clsF_cases 256 e f
  generalize clsF 256 e f = C at hC hcc
  obtain ⟨fu, hfu⟩ : ∃ fu, f * 536870912 = fu := ⟨_, rfl⟩
  have hful : fu < 4503599627370496 := by omega
  have hwfu : IntKind.u64.wrap ((f : Int) * 536870912) = (fu : Int) := by rw [IntKind.wrap_u64]; omega
  have hrA : e = 256 - 1 → 2047 * 4503599627370496 + fu = r := fun h => by rw [← hr, ← hfu]; unfold R32; rw [if_pos (by omega)]
  have hrB : e = 0 → f = 0 → 0 * 4503599627370496 + 0 = r := fun h h' => by rw [← hr]; unfold R32; rw [if_neg (by omega), if_pos h, if_pos h']
  have hrC : e ≠ 256 - 1 → e ≠ 0 → (e + 896) * 4503599627370496 + fu = r := fun h h' => by rw [← hr, ← hfu]; unfold R32; rw [if_neg (by omega), if_neg h']
  clear hr
  replace hfu := Lib.hid hfu
  replace hsub := Lib.hid hsub
  replace hrA := Lib.hid hrA
  replace hrB := Lib.hid hrB
  replace hrC := Lib.hid hrC
  unfold flt at hC ⊢
  go_enter Tryd.func25, Tryd.ntmps25
  go_wp2_with fail
  generalize hw1' : World.alloc w _ = w1
  have BK1 : w1.heap[w.heap.size]? = some (.cells #[.bool s, .int .i64 (e : Int), .int .u64 (f : Int), .int .i64 8, .int .i64 23] 46 (0, 0)) := by
    subst hw1'
    exact heap_alloc_new _ _
  have HB1 : Below w.heap.size w w1 := by
    subst hw1'
    exact below_alloc (Below.refl _ _) _
  clear hw1'
  refine (hP _).mono ?_
  rintro r' w2 ⟨rfl, ⟨m, rfl⟩⟩
  replace BK1 := blk_drewN BK1 m
  replace HB1 := pw_below_drewN HB1 m
  generalize World.drewN _ m = w2 at BK1 HB1 ⊢
  have c0 : w2.cell? ⟨w.heap.size, 0, none⟩ = some (.bool s) := (blk_cell BK1 0).trans rfl
  have c1 : w2.cell? ⟨w.heap.size, 1, none⟩ = some (.int .i64 (e : Int)) := (blk_cell BK1 1).trans rfl
  have c2 : w2.cell? ⟨w.heap.size, 2, none⟩ = some (.int .u64 (f : Int)) := (blk_cell BK1 2).trans rfl
  have c3 : w2.cell? ⟨w.heap.size, 3, none⟩ = some (.int .i64 8) := (blk_cell BK1 3).trans rfl
  have c4 : w2.cell? ⟨w.heap.size, 4, none⟩ = some (.int .i64 23) := (blk_cell BK1 4).trans rfl
  replace BK1 := Lib.hid BK1
  replace HB1 := Lib.hid HB1
  go_wp2_with fail
  refine (hC _).mono ?_
  rintro r' w3 ⟨rfl, hB3⟩
  have BK3 := blk_below BK1.out hB3
  have HB3 := below_then HB1.out HB1.out.size hB3
  clear hB3 c0 c1 c2 c3 c4 BK1 HB1
  have c0 : w3.cell? ⟨w.heap.size, 0, none⟩ = some (.bool s) := (blk_cell BK3 0).trans rfl
  have c1 : w3.cell? ⟨w.heap.size, 1, none⟩ = some (.int .i64 (e : Int)) := (blk_cell BK3 1).trans rfl
  have c2 : w3.cell? ⟨w.heap.size, 2, none⟩ = some (.int .u64 (f : Int)) := (blk_cell BK3 2).trans rfl
  have c3 : w3.cell? ⟨w.heap.size, 3, none⟩ = some (.int .i64 8) := (blk_cell BK3 3).trans rfl
  have c4 : w3.cell? ⟨w.heap.size, 4, none⟩ = some (.int .i64 23) := (blk_cell BK3 4).trans rfl
  replace BK3 := Lib.hid BK3
  replace HB3 := Lib.hid HB3
  rcases hcc with ⟨h1, hc⟩ | ⟨h1, h2, h3, rfl⟩ | ⟨h1, h2, h3, rfl⟩ | ⟨h1, h2, rfl⟩
  · have hb := fun w => bits_ref s 2047 fu (by decide) hful w
    rw [hrA.out h1] at hb
    rcases hc with rfl | rfl
    all_goals (
      go_wp2_with fail
      refine (hb _).mono ?_
      rintro r' w4 ⟨rfl, ⟨m4, rfl⟩⟩
      have HB4 := pw_below_drewN HB3.out m4
      go_wp2_with fail
      go_ret
      exact ⟨rfl, HB4⟩)
  · have hb := fun w => bits_ref s 0 0 (by decide) (by decide) w
    rw [hrB.out h2 h3] at hb
    go_wp2_with fail
    refine (hb _).mono ?_
    rintro r' w4 ⟨rfl, ⟨m4, rfl⟩⟩
    have HB4 := pw_below_drewN HB3.out m4
    go_wp2_with fail
    go_ret
    exact ⟨rfl, HB4⟩
  · go_wp2_with fail
    go_loopw [6, 7] (fun v6 v7 w' => ∃ (i x : Nat), v6 = .int .u64 x ∧ v7 = .int .i64 ((897 - i : Nat) : Int) ∧ i ≤ 23 ∧ x < 2 * 8388608 ∧ Aside0 (f * 2 ^ i = x) ∧ Drawn0 w3 w') (fun v6 _ _ => 2 * 8388608 - (intOf v6).toNat)
    case atStart => exact ⟨0, f, rfl, rfl, by omega, by omega, ⟨by rw [Nat.pow_zero, Nat.mul_one]⟩, by repeat (first | exact Drawn0.refl _ | apply Drawn0.step)⟩
    case round =>
      obtain ⟨i, x, rfl, rfl, hi, hx2, hx, ⟨m1, rfl⟩⟩ := hrel
      have g0 : (w3.drewN m1).cell? ⟨w.heap.size, 0, none⟩ = some (.bool s) := c0
      have g4 : (w3.drewN m1).cell? ⟨w.heap.size, 4, none⟩ = some (.int .i64 23) := c4
      have HB4 : Below w.heap.size w (w3.drewN m1) := pw_below_drewN HB3.out m1
      replace HB4 := Lib.hid HB4
      generalize hw4 : w3.drewN m1 = w4 at g0 g4 HB4 ⊢
      obtain ⟨k, hk⟩ : ∃ k, 897 - i = k := ⟨_, rfl⟩
      rw [hk]
      by_cases c : x < 8388608
      · have hd : decide ((x : Int) < 8388608) = true := decide_eq_true (by omega)
        have hil : i < 23 := by
          have h5 := hx.out
          have h6 : 2 ^ i ≤ f * 2 ^ i := Nat.le_mul_of_pos_left _ (by omega)
          have h7 : 2 ^ i < 2 ^ 23 := Nat.lt_of_le_of_lt (by rw [h5] at h6; exact h6) (Nat.lt_of_lt_of_le c (by decide))
          exact (Nat.pow_lt_pow_iff_right (by decide)).1 h7
        have hw2 : IntKind.u64.wrap (2 * (x : Int)) = ((2 * x : Nat) : Int) := by rw [IntKind.wrap_u64]; omega
        have hk2 : wrap64 ((k : Int) - 1) = ((k - 1 : Nat) : Int) := by unfold wrap64; omega
        have hk1 : 1 ≤ k := by omega
        have hx1 : 1 ≤ x := by rw [← hx.out]; exact Nat.mul_pos (by omega) (Nat.two_pow_pos _)
        replace hk := Lib.hid hk
        go_wp2_with fail
        refine (hPf _).mono ?_
        rintro r' w5 ⟨rfl, ⟨m2, rfl⟩⟩
        go_wp2_with fail
        go_roundw
        case rel => exact ⟨i + 1, 2 * x, rfl, (by rw [show ((897 - (i + 1) : Nat) : Int) = ((k - 1 : Nat) : Int) by have := hk.out; omega, ← hk2]), by omega, by omega, ⟨by rw [Nat.pow_succ, ← hx.out]; simp only [Nat.mul_comm, Nat.mul_left_comm]⟩, by rw [← hw4]; repeat (first | exact Drawn0.refl _ | exact ⟨_, World.drewN_drewN _ _ _⟩ | apply Drawn0.step)⟩
        case measure => simp [intOf]; omega
      · have hd : decide ((x : Int) < 8388608) = false := decide_eq_false (by omega)
        have hs := hsub.out h2 h3 i (by rw [hx.out]; omega) (by rw [hx.out]; exact hx2)
        rw [hx.out, hk] at hs
        obtain ⟨y, hy⟩ : ∃ y, x - 8388608 = y := ⟨_, rfl⟩
        obtain ⟨z, hz⟩ : ∃ z, y * 536870912 = z := ⟨_, rfl⟩
        have hzl : z < 4503599627370496 := by omega
        have hw1 : IntKind.u64.wrap ((x : Int) - 8388608) = (y : Int) := by rw [IntKind.wrap_u64]; omega
        have hw2 : IntKind.u64.wrap ((y : Int) * 536870912) = (z : Int) := by rw [IntKind.wrap_u64]; omega
        have hb := fun w => bits_ref s k z (by omega) hzl w
        rw [hy, hz] at hs
        rw [hs.2] at hb
        clear hs
        replace hk := Lib.hid hk
        replace hy := Lib.hid hy
        replace hz := Lib.hid hz
        go_wp2_with fail
        refine (hPf _).mono ?_
        rintro r' w5 ⟨rfl, ⟨m2, rfl⟩⟩
        replace g0 : (w4.drewN m2).cell? ⟨w.heap.size, 0, none⟩ = some (.bool s) := g0
        replace g4 : (w4.drewN m2).cell? ⟨w.heap.size, 4, none⟩ = some (.int .i64 23) := g4
        have HB5 := Lib.hid (pw_below_drewN HB4.out m2)
        generalize World.drewN w4 m2 = w5 at g0 g4 HB5 ⊢
        go_wp2_with fail
        go_quiet (first | (go_at_call 38; (with_reducible refine (hPf _).mono ?_); rintro r w' ⟨rfl, ⟨nd, rfl⟩⟩; (try first | exact ⟨rfl, _, World.drewN_drewN _ _ _⟩ | exact ⟨rfl, _, Eq.trans (World.drewN_drewN _ _ _) (congrArg (World.drewN _) (Nat.add_assoc _ _ _))⟩)) | (go_at_call 39; (with_reducible refine (hb _).mono ?_); rintro r w' ⟨rfl, ⟨nd, rfl⟩⟩; (try first | exact ⟨rfl, _, World.drewN_drewN _ _ _⟩ | exact ⟨rfl, _, Eq.trans (World.drewN_drewN _ _ _) (congrArg (World.drewN _) (Nat.add_assoc _ _ _))⟩)))
        go_wp2_with fail
        go_ret
        exact ⟨rfl, pw_below_drewN HB5.out _⟩
  · have hb := fun w => bits_ref s (e + 896) fu (by omega) hful w
    rw [hrC.out h1 h2] at hb
    obtain ⟨e2, he2⟩ : ∃ e2, e + 896 = e2 := ⟨_, rfl⟩
    have hE : (e : Int) + 896 = (e2 : Int) := by omega
    have hE0 : (e : Int) - 127 + 1023 = (e2 : Int) := by omega
    rw [he2] at hb
    go_wp2_with fail
    refine (hb _).mono ?_
    rintro r' w4 ⟨rfl, ⟨m4, rfl⟩⟩
    have HB4 := pw_below_drewN HB3.out m4
    go_wp2_with fail
    go_ret
    exact ⟨rfl, HB4⟩
end Go.Proofs.YtocmmdheegkbaaaDoor
