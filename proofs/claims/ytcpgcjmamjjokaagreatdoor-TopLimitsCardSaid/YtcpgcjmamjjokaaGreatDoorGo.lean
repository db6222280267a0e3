/- The four formats keep the one value. -/
import Derived.Test.YtcpgcjmamjjokaaGreatDoorGn
import Derived.Test.YtcpgcjmamjjokaaGreatDoorPTopLimitsx1
namespace Go.Proofs.YtcpgcjmamjjokaaGreatDoor
open Go.RowKit Go.Maps Go.Proofs.YtcpgcjmamjjokaaGreatDoorW.PrintWords Go.Proofs.YtcpgcjmamjjokaaGreatDoorW.PrintLast Go.Proofs.YtcpgcjmamjjokaaGreatDoorW.PrintMore Go.Proofs.YtcpgcjmamjjokaaGreatDoor.PTopLimits
set_option linter.unusedVariables false
set_option linter.unusedSimpArgs false
attribute [local go_sem high] eqA32
set_option maxHeartbeats 3200000 in
set_option maxRecDepth 100000 in
theorem same_kid (w : World) : Calls Tryz.prog 19 #[kidV, kidV] w fun e w' => e = .returned (.bool true) ∧ Below w.heap.size w w' := by
  unfold kidV
  go_enter Tryz.func19, Tryz.ntmps19
  go_wp2_with fail
  generalize hw1 : World.alloc _ _ = w1
  obtain ⟨x1, y1, B1, hs1⟩ := alloc_two hw1
  clear hw1
  obtain ⟨xc0, xc1, xc2, xc3, xc4, xc5, xc6, xc7, xc8, _⟩ := blk9 x1
  obtain ⟨yc0, yc1, yc2, yc3, yc4, yc5, yc6, yc7, yc8, _⟩ := blk9 y1
  have lx := blk_lt x1
  have ly := blk_lt y1
  replace B1 := Lib.hid B1
  refine wp_loop_rounds 1 ?_
  rw [rounds_succ]
  go_wp2_with fail
  refine wp_loop_rounds 1 ?_
  rw [rounds_succ]
  go_wp2_with fail
  go_ret
  exact ⟨rfl, B1.out⟩
set_option maxHeartbeats 6400000 in
set_option maxRecDepth 100000 in
theorem same_top {w : World} {g g2 b2 c2 : Nat} (h : Kid g w) (h2 : w.ownsRow b2 36 9 (.slice (some ⟨g2, 0, none⟩) 1 c2) 1 kidRow) :
    Calls Tryz.prog 19 #[topV g, readV g2 c2] w fun e w' => e = .returned (.bool true) ∧ Below w.heap.size w w' := by
  have hS := Lib.hid (fun w => same_kid w)
  have hc2 := row_cap h2
  have hk : w.cell? ⟨g, 0, none⟩ = some (.int .i64 6) ∧ w.cell? ⟨g, 1, none⟩ = some (.bool false) ∧ w.cell? ⟨g, 2, none⟩ = some (.bool false) ∧ w.cell? ⟨g, 3, none⟩ = some (.string ⟨#[]⟩) ∧ w.cell? ⟨g, 4, none⟩ = some (.int .i64 0) ∧ w.cell? ⟨g, 5, none⟩ = some (.int .u64 0) ∧ w.cell? ⟨g, 6, none⟩ = some (.string ⟨#[0]⟩) ∧ w.cell? ⟨g, 7, none⟩ = some (.slice none 0 0) ∧ w.cell? ⟨g, 8, none⟩ = some (.slice none 0 0) := by
    obtain ⟨xc0, xc1, xc2, xc3, xc4, xc5, xc6, xc7, xc8, _⟩ := blk9 h
    exact ⟨xc0, xc1, xc2, xc3, xc4, xc5, xc6, xc7, xc8⟩
  have hj : w.cell? ⟨g2, 0, none⟩ = some (.int .i64 6) ∧ w.cell? ⟨g2, 1, none⟩ = some (.bool false) ∧ w.cell? ⟨g2, 2, none⟩ = some (.bool false) ∧ w.cell? ⟨g2, 3, none⟩ = some (.string ⟨#[]⟩) ∧ w.cell? ⟨g2, 4, none⟩ = some (.int .i64 0) ∧ w.cell? ⟨g2, 5, none⟩ = some (.int .u64 0) ∧ w.cell? ⟨g2, 6, none⟩ = some (.string ⟨#[0]⟩) ∧ w.cell? ⟨g2, 7, none⟩ = some (.slice none 0 0) ∧ w.cell? ⟨g2, 8, none⟩ = some (.slice none 0 0) := row9 h2
  have hgl := blk_lt h
  have hgl2 : g2 < w.heap.size := World.block_lt_of_cell? _ _ hj.1
  unfold topV readV objL
  unfold kidV at hS
  clear h h2
  go_enter Tryz.func19, Tryz.ntmps19
  go_wp2_with fail
  generalize hw1 : World.alloc _ _ = w1
  obtain ⟨x1, y1, B1, hs1⟩ := alloc_two hw1
  clear hw1
  obtain ⟨X, hX⟩ : ∃ X, w.heap.size = X := ⟨_, rfl⟩
  obtain ⟨Y, hY⟩ : ∃ Y, X + 1 = Y := ⟨_, rfl⟩
  rw [hX] at x1 y1 hgl hgl2
  rw [hY] at y1
  rw [hX, hY]
  have hk1 : w1.cell? ⟨g, 0, none⟩ = some (.int .i64 6) ∧ w1.cell? ⟨g, 1, none⟩ = some (.bool false) ∧ w1.cell? ⟨g, 2, none⟩ = some (.bool false) ∧ w1.cell? ⟨g, 3, none⟩ = some (.string ⟨#[]⟩) ∧ w1.cell? ⟨g, 4, none⟩ = some (.int .i64 0) ∧ w1.cell? ⟨g, 5, none⟩ = some (.int .u64 0) ∧ w1.cell? ⟨g, 6, none⟩ = some (.string ⟨#[0]⟩) ∧ w1.cell? ⟨g, 7, none⟩ = some (.slice none 0 0) ∧ w1.cell? ⟨g, 8, none⟩ = some (.slice none 0 0) := by
    obtain ⟨q0, q1, q2, q3, q4, q5, q6, q7, q8⟩ := hk
    exact ⟨(B1.cell (by show g < _; omega)).trans q0, (B1.cell (by show g < _; omega)).trans q1, (B1.cell (by show g < _; omega)).trans q2, (B1.cell (by show g < _; omega)).trans q3, (B1.cell (by show g < _; omega)).trans q4, (B1.cell (by show g < _; omega)).trans q5, (B1.cell (by show g < _; omega)).trans q6, (B1.cell (by show g < _; omega)).trans q7, (B1.cell (by show g < _; omega)).trans q8⟩
  have hj1 : w1.cell? ⟨g2, 0, none⟩ = some (.int .i64 6) ∧ w1.cell? ⟨g2, 1, none⟩ = some (.bool false) ∧ w1.cell? ⟨g2, 2, none⟩ = some (.bool false) ∧ w1.cell? ⟨g2, 3, none⟩ = some (.string ⟨#[]⟩) ∧ w1.cell? ⟨g2, 4, none⟩ = some (.int .i64 0) ∧ w1.cell? ⟨g2, 5, none⟩ = some (.int .u64 0) ∧ w1.cell? ⟨g2, 6, none⟩ = some (.string ⟨#[0]⟩) ∧ w1.cell? ⟨g2, 7, none⟩ = some (.slice none 0 0) ∧ w1.cell? ⟨g2, 8, none⟩ = some (.slice none 0 0) := by
    obtain ⟨q0, q1, q2, q3, q4, q5, q6, q7, q8⟩ := hj
    exact ⟨(B1.cell (by show g2 < _; omega)).trans q0, (B1.cell (by show g2 < _; omega)).trans q1, (B1.cell (by show g2 < _; omega)).trans q2, (B1.cell (by show g2 < _; omega)).trans q3, (B1.cell (by show g2 < _; omega)).trans q4, (B1.cell (by show g2 < _; omega)).trans q5, (B1.cell (by show g2 < _; omega)).trans q6, (B1.cell (by show g2 < _; omega)).trans q7, (B1.cell (by show g2 < _; omega)).trans q8⟩
  obtain ⟨xc0, xc1, xc2, xc3, xc4, xc5, xc6, xc7, xc8, _⟩ := blk9 x1
  obtain ⟨yc0, yc1, yc2, yc3, yc4, yc5, yc6, yc7, yc8, _⟩ := blk9 y1
  have lx := blk_lt x1
  have ly := blk_lt y1
  clear hk hj
  replace B1 := Lib.hid B1
  replace hX := Lib.hid hX
  refine wp_loop_rounds 1 ?_
  rw [rounds_succ]
  go_wp2_with fail
  refine wp_loop_rounds 2 ?_
  rw [rounds_succ]
  go_upto_region 11 with fail
  refine start_ (n := 12) (S := fun w' => w'.heap[X]? = some (.cells #[.int .i64 9, .bool false, .bool false, .string ⟨#[]⟩, .int .i64 0, .int .u64 0, .string ⟨#[116]⟩, .slice none 0 0, .slice (some ⟨g, 0, none⟩) 1 1] 36 (0, 0)) ∧ w'.heap[Y]? = some (.cells #[.int .i64 9, .bool false, .bool false, .string ⟨#[]⟩, .int .i64 0, .int .u64 0, .string ⟨#[116]⟩, .slice none 0 0, .slice (some ⟨g2, 0, none⟩) 1 c2] 36 (0, 0)) ∧ (w'.cell? ⟨g, 0, none⟩ = some (.int .i64 6) ∧ w'.cell? ⟨g, 1, none⟩ = some (.bool false) ∧ w'.cell? ⟨g, 2, none⟩ = some (.bool false) ∧ w'.cell? ⟨g, 3, none⟩ = some (.string ⟨#[]⟩) ∧ w'.cell? ⟨g, 4, none⟩ = some (.int .i64 0) ∧ w'.cell? ⟨g, 5, none⟩ = some (.int .u64 0) ∧ w'.cell? ⟨g, 6, none⟩ = some (.string ⟨#[0]⟩) ∧ w'.cell? ⟨g, 7, none⟩ = some (.slice none 0 0) ∧ w'.cell? ⟨g, 8, none⟩ = some (.slice none 0 0)) ∧ (w'.cell? ⟨g2, 0, none⟩ = some (.int .i64 6) ∧ w'.cell? ⟨g2, 1, none⟩ = some (.bool false) ∧ w'.cell? ⟨g2, 2, none⟩ = some (.bool false) ∧ w'.cell? ⟨g2, 3, none⟩ = some (.string ⟨#[]⟩) ∧ w'.cell? ⟨g2, 4, none⟩ = some (.int .i64 0) ∧ w'.cell? ⟨g2, 5, none⟩ = some (.int .u64 0) ∧ w'.cell? ⟨g2, 6, none⟩ = some (.string ⟨#[0]⟩) ∧ w'.cell? ⟨g2, 7, none⟩ = some (.slice none 0 0) ∧ w'.cell? ⟨g2, 8, none⟩ = some (.slice none 0 0))) (ds := []) #[false, false, false, false, false, false, false, false, false, false, false, false] (by kernel_rfl) rfl rfl ⟨x1, y1, hk1, hj1⟩ (fun hHeld => ?_)
  refine pure_ (i := 0) (N := some 83) (v := ?_) (a' := ?_) #[true, false, false, false, false, false, false, false, false, false, false, false] rfl rfl (by kernel_rfl) (fun _ _ _ h => h) (Or.inl ⟨by rfl, ?_⟩) ?_ ?_
  rotate_left
  · intro w'
    go_simp
    with_reducible rfl
  rotate_left
  · simp only [Act.put, List.setIfInBounds_toArray, List.set_cons_zero, List.set_cons_succ, i64_w, i32_w]
    rfl
  refine take_ (i := 1) (N := some 84) (v := ?_) (a' := ?_) #[true, true, false, false, false, false, false, false, false, false, false, false] rfl rfl (by kernel_rfl) (fun _ _ _ h => h) (Or.inl ⟨by rfl, ?_⟩) hHeld ?_ ?_
  rotate_left
  · rintro w' ⟨s0, s1, s2, s3⟩
    obtain ⟨xc0, xc1, xc2, xc3, xc4, xc5, xc6, xc7, xc8, _⟩ := blk9 s0
    obtain ⟨yc0, yc1, yc2, yc3, yc4, yc5, yc6, yc7, yc8, _⟩ := blk9 s1
    obtain ⟨kc0, kc1, kc2, kc3, kc4, kc5, kc6, kc7, kc8⟩ := s2
    obtain ⟨jc0, jc1, jc2, jc3, jc4, jc5, jc6, jc7, jc8⟩ := s3
    go_simp
    with_reducible rfl
  rotate_left
  · simp only [Act.put, List.setIfInBounds_toArray, List.set_cons_zero, List.set_cons_succ, i64_w, i32_w]
    rfl
  refine pure_ (i := 2) (N := some 85) (v := ?_) (a' := ?_) #[true, true, true, false, false, false, false, false, false, false, false, false] rfl rfl (by kernel_rfl) (fun _ _ _ h => h) (Or.inl ⟨by rfl, ?_⟩) ?_ ?_
  rotate_left
  · intro w'
    go_simp
    with_reducible rfl
  rotate_left
  · simp only [Act.put, List.setIfInBounds_toArray, List.set_cons_zero, List.set_cons_succ, i64_w, i32_w]
    rfl
  refine pure_ (i := 3) (N := some 86) (v := ?_) (a' := ?_) #[true, true, true, true, false, false, false, false, false, false, false, false] rfl rfl (by kernel_rfl) (fun _ _ _ h => h) (Or.inl ⟨by rfl, ?_⟩) ?_ ?_
  rotate_left
  · intro w'
    go_simp
    with_reducible rfl
  rotate_left
  · simp only [Act.put, List.setIfInBounds_toArray, List.set_cons_zero, List.set_cons_succ, i64_w, i32_w]
    rfl
  refine take_ (i := 4) (N := some 87) (v := ?_) (a' := ?_) #[true, true, true, true, true, false, false, false, false, false, false, false] rfl rfl (by kernel_rfl) (fun _ _ _ h => h) (Or.inl ⟨by rfl, ?_⟩) hHeld ?_ ?_
  rotate_left
  · rintro w' ⟨s0, s1, s2, s3⟩
    obtain ⟨xc0, xc1, xc2, xc3, xc4, xc5, xc6, xc7, xc8, _⟩ := blk9 s0
    obtain ⟨yc0, yc1, yc2, yc3, yc4, yc5, yc6, yc7, yc8, _⟩ := blk9 s1
    obtain ⟨kc0, kc1, kc2, kc3, kc4, kc5, kc6, kc7, kc8⟩ := s2
    obtain ⟨jc0, jc1, jc2, jc3, jc4, jc5, jc6, jc7, jc8⟩ := s3
    go_simp
    with_reducible rfl
  rotate_left
  · simp only [Act.put, List.setIfInBounds_toArray, List.set_cons_zero, List.set_cons_succ, i64_w, i32_w]
    rfl
  refine pure_ (i := 5) (N := some 88) (v := ?_) (a' := ?_) #[true, true, true, true, true, true, false, false, false, false, false, false] rfl rfl (by kernel_rfl) (fun _ _ _ h => h) (Or.inl ⟨by rfl, ?_⟩) ?_ ?_
  rotate_left
  · intro w'
    go_simp
    with_reducible rfl
  rotate_left
  · simp only [Act.put, List.setIfInBounds_toArray, List.set_cons_zero, List.set_cons_succ, i64_w, i32_w]
    rfl
  refine take_ (i := 6) (N := some 89) (v := ?_) (a' := ?_) #[true, true, true, true, true, true, true, false, false, false, false, false] rfl rfl (by kernel_rfl) (fun _ _ _ h => h) (Or.inl ⟨by rfl, ?_⟩) hHeld ?_ ?_
  rotate_left
  · rintro w' ⟨s0, s1, s2, s3⟩
    obtain ⟨xc0, xc1, xc2, xc3, xc4, xc5, xc6, xc7, xc8, _⟩ := blk9 s0
    obtain ⟨yc0, yc1, yc2, yc3, yc4, yc5, yc6, yc7, yc8, _⟩ := blk9 s1
    obtain ⟨kc0, kc1, kc2, kc3, kc4, kc5, kc6, kc7, kc8⟩ := s2
    obtain ⟨jc0, jc1, jc2, jc3, jc4, jc5, jc6, jc7, jc8⟩ := s3
    go_simp
    with_reducible rfl
  rotate_left
  · simp only [Act.put, List.setIfInBounds_toArray, List.set_cons_zero, List.set_cons_succ, i64_w, i32_w]
    rfl
  refine pure_ (i := 7) (N := some 90) (v := ?_) (a' := ?_) #[true, true, true, true, true, true, true, true, false, false, false, false] rfl rfl (by kernel_rfl) (fun _ _ _ h => h) (Or.inl ⟨by rfl, ?_⟩) ?_ ?_
  rotate_left
  · intro w'
    go_simp
    with_reducible rfl
  rotate_left
  · simp only [Act.put, List.setIfInBounds_toArray, List.set_cons_zero, List.set_cons_succ, i64_w, i32_w]
    rfl
  refine pure_ (i := 8) (N := some 91) (v := ?_) (a' := ?_) #[true, true, true, true, true, true, true, true, true, false, false, false] rfl rfl (by kernel_rfl) (fun _ _ _ h => h) (Or.inl ⟨by rfl, ?_⟩) ?_ ?_
  rotate_left
  · intro w'
    go_simp
    with_reducible rfl
  rotate_left
  · simp only [Act.put, List.setIfInBounds_toArray, List.set_cons_zero, List.set_cons_succ, i64_w, i32_w]
    rfl
  refine take_ (i := 9) (N := some 92) (v := ?_) (a' := ?_) #[true, true, true, true, true, true, true, true, true, true, false, false] rfl rfl (by kernel_rfl) (fun _ _ _ h => h) (Or.inl ⟨by rfl, ?_⟩) hHeld ?_ ?_
  rotate_left
  · rintro w' ⟨s0, s1, s2, s3⟩
    obtain ⟨xc0, xc1, xc2, xc3, xc4, xc5, xc6, xc7, xc8, _⟩ := blk9 s0
    obtain ⟨yc0, yc1, yc2, yc3, yc4, yc5, yc6, yc7, yc8, _⟩ := blk9 s1
    obtain ⟨kc0, kc1, kc2, kc3, kc4, kc5, kc6, kc7, kc8⟩ := s2
    obtain ⟨jc0, jc1, jc2, jc3, jc4, jc5, jc6, jc7, jc8⟩ := s3
    go_simp
    with_reducible rfl
  rotate_left
  · simp only [Act.put, List.setIfInBounds_toArray, List.set_cons_zero, List.set_cons_succ, i64_w, i32_w]
    rfl
  refine one_ (i := 10) (N := some 93) #[true, true, true, true, true, true, true, true, true, true, true, false] rfl rfl (by kernel_rfl) (by decide) (fun K hK => ?_)
  refine goes_ Tryz.func19 (by kernel_rfl) rfl #[.agg #[.int .i64 6, .bool false, .bool false, .string ⟨#[]⟩, .int .i64 0, .int .u64 0, .string ⟨#[0]⟩, .slice none 0 0, .slice none 0 0], .agg #[.int .i64 6, .bool false, .bool false, .string ⟨#[]⟩, .int .i64 0, .int .u64 0, .string ⟨#[0]⟩, .slice none 0 0, .slice none 0 0]] (by rfl) rfl rfl (by simp [Act.eval]) ?_
  refine (hS.out w1.drew).mono ?_
  rintro e w2 ⟨rfl, B2⟩
  have B2' : Below w1.heap.size w1 w2 := ⟨B2.os, B2.tape, B2.output, B2.size, B2.block⟩
  have x2 := blk_below x1 B2'
  have y2 := blk_below y1 B2'
  have hk2 : w2.cell? ⟨g, 0, none⟩ = some (.int .i64 6) ∧ w2.cell? ⟨g, 1, none⟩ = some (.bool false) ∧ w2.cell? ⟨g, 2, none⟩ = some (.bool false) ∧ w2.cell? ⟨g, 3, none⟩ = some (.string ⟨#[]⟩) ∧ w2.cell? ⟨g, 4, none⟩ = some (.int .i64 0) ∧ w2.cell? ⟨g, 5, none⟩ = some (.int .u64 0) ∧ w2.cell? ⟨g, 6, none⟩ = some (.string ⟨#[0]⟩) ∧ w2.cell? ⟨g, 7, none⟩ = some (.slice none 0 0) ∧ w2.cell? ⟨g, 8, none⟩ = some (.slice none 0 0) := by
    obtain ⟨q0, q1, q2, q3, q4, q5, q6, q7, q8⟩ := hk1
    exact ⟨(B2'.cell (by show g < _; omega)).trans q0, (B2'.cell (by show g < _; omega)).trans q1, (B2'.cell (by show g < _; omega)).trans q2, (B2'.cell (by show g < _; omega)).trans q3, (B2'.cell (by show g < _; omega)).trans q4, (B2'.cell (by show g < _; omega)).trans q5, (B2'.cell (by show g < _; omega)).trans q6, (B2'.cell (by show g < _; omega)).trans q7, (B2'.cell (by show g < _; omega)).trans q8⟩
  have hj2 : w2.cell? ⟨g2, 0, none⟩ = some (.int .i64 6) ∧ w2.cell? ⟨g2, 1, none⟩ = some (.bool false) ∧ w2.cell? ⟨g2, 2, none⟩ = some (.bool false) ∧ w2.cell? ⟨g2, 3, none⟩ = some (.string ⟨#[]⟩) ∧ w2.cell? ⟨g2, 4, none⟩ = some (.int .i64 0) ∧ w2.cell? ⟨g2, 5, none⟩ = some (.int .u64 0) ∧ w2.cell? ⟨g2, 6, none⟩ = some (.string ⟨#[0]⟩) ∧ w2.cell? ⟨g2, 7, none⟩ = some (.slice none 0 0) ∧ w2.cell? ⟨g2, 8, none⟩ = some (.slice none 0 0) := by
    obtain ⟨q0, q1, q2, q3, q4, q5, q6, q7, q8⟩ := hj1
    exact ⟨(B2'.cell (by show g2 < _; omega)).trans q0, (B2'.cell (by show g2 < _; omega)).trans q1, (B2'.cell (by show g2 < _; omega)).trans q2, (B2'.cell (by show g2 < _; omega)).trans q3, (B2'.cell (by show g2 < _; omega)).trans q4, (B2'.cell (by show g2 < _; omega)).trans q5, (B2'.cell (by show g2 < _; omega)).trans q6, (B2'.cell (by show g2 < _; omega)).trans q7, (B2'.cell (by show g2 < _; omega)).trans q8⟩
  have B3 := below_then B1.out B1.out.size B2'
  refine ⟨_, rfl, hK.out _ _ ⟨x2, y2, hk2, hj2⟩ (fun hHeld2 => ?_)⟩
  clear hK K
  clear xc0 xc1 xc2 xc3 xc4 xc5 xc6 xc7 xc8 yc0 yc1 yc2 yc3 yc4 yc5 yc6 yc7 yc8 lx ly
  refine norm_ (a' := ?_) ?_ ?_
  rotate_left
  · show Act.put _ (some 93) _ = _
    simp only [Act.put, List.setIfInBounds_toArray, List.set_cons_zero, List.set_cons_succ, i64_w, i32_w]
    rfl
  refine pure_ (i := 11) (N := some 94) (v := ?_) (a' := ?_) #[true, true, true, true, true, true, true, true, true, true, true, true] rfl rfl (by kernel_rfl) (fun _ _ _ h => h) (Or.inl ⟨by rfl, ?_⟩) ?_ ?_
  rotate_left
  · intro w'
    go_simp
    with_reducible rfl
  rotate_left
  · simp only [Act.put, List.setIfInBounds_toArray, List.set_cons_zero, List.set_cons_succ, i64_w, i32_w]
    rfl
  refine done_ (by kernel_rfl) ?_
  obtain ⟨xc0, xc1, xc2, xc3, xc4, xc5, xc6, xc7, xc8, _⟩ := blk9 x2
  have lx := blk_lt x2
  go_wp2_with fail
  rw [rounds_succ]
  go_wp2_with fail
  go_ret
  exact ⟨rfl, B3⟩
theorem results_ct {fn : Func} (h : fn.results = #[.cell 4 36, .tmp 5]) (tmps : Array Value) (w : World) (g : Nat) (cs : Array Value) (fr : Nat × Nat) (v : Value)
    (hp : tmps.getD 4 undef = .pointer (some ⟨g, 0, none⟩)) (hv : tmps.getD 5 undef = v) (hg : w.heap[g]? = some (.cells cs 36 fr)) (hi : (Tryz.prog.info? 36).map (·.size) = some cs.size) : (results fn tmps).run Tryz.prog w = .ok (.tuple #[.agg cs, v]) w := by
  have h2 : tmps[4]?.getD undef = .pointer (some ⟨g, 0, none⟩) := by simpa using hp
  have h3 : tmps[5]?.getD undef = v := by simpa using hv
  simp [results, h, h2, h3, asAddr, run_loadVar_row w g 36 36 cs fr _ hg Tryz.underlying36 rfl hi]
theorem Laid.sz {w : World} (h : Laid w) : 5 < w.heap.size := World.block_lt_of_cell? _ _ h.w0
set_option maxHeartbeats 3200000 in
set_option maxRecDepth 100000 in
theorem wr_json (w : World) (g : Nat) (hg : Kid g w) (hL : Laid w) :
    Calls Tryz.prog 22 #[.int .i64 0, topV g] w fun e w' => ∃ (A : Option Addr) (c : Nat), e = .returned (.tuple #[.slice A 30 c, .int .i64 0]) ∧ BytesAt w' A jsonL ∧ 30 ≤ c ∧ Below w.heap.size w w' := by
  have hW := Lib.hid (fun X (hb : Below w.heap.size w X) => jwrite X g (hg.below hb) (hL.below hb))
  clear hg hL
  unfold topV at *
  go_enter Tryz.func22, Tryz.ntmps22
  go_wp2_with fail
  generalize hw1 : World.alloc w _ = w1
  obtain ⟨x1, B1⟩ := alloc_at hw1
  clear hw1
  replace x1 := Lib.hid x1
  refine (hW.out w1 B1).mono ?_
  rintro e w2 ⟨A, c, rfl, hA, hc, B2⟩
  have B3 := Lib.hid (below_then B1 B1.size B2)
  clear B1 B2 x1
  replace hA := Lib.hid hA
  go_wp2_with fail
  go_ret2
  exact ⟨A, c, rfl, hA.out, hc, B3.out⟩
set_option maxHeartbeats 3200000 in
set_option maxRecDepth 100000 in
theorem rd_json (A : Option Addr) (c : Nat) (w : World) (hA : BytesAt w A jsonL) (hc : 30 ≤ c) (hL : Laid w) : Calls Tryz.prog 104 #[.int .i64 0, .slice A 30 c] w (RdPost w) := by
  have hR := Lib.hid (fun X (hb : Below w.heap.size w X) => jread A c X (hA.below hb) ((hL.below hb).tabs) (by have := (hL.below hb).sz; omega))
  clear hA hL
  go_enter Tryz.func104, Tryz.ntmps104
  go_wp2_with fail
  generalize hw1 : World.alloc w _ = w1
  obtain ⟨x1, B1⟩ := alloc_at hw1
  clear hw1
  obtain ⟨X, hX⟩ : ∃ X, w.heap.size = X := ⟨_, rfl⟩
  rw [hX] at x1
  rw [hX]
  refine (hR.out w1 B1).mono ?_
  rintro e w2 ⟨b, g, cap, rfl, hown, B2⟩
  have x2 := blk_below x1 B2
  have B3 := Lib.hid (below_then B1 B1.size B2)
  have hgX : g ≠ X := by
    intro e
    have h1 := (World.ownsRow.cellAt hown 0 (by decide)).symm.trans ((congrArg (fun i => w2.cell? ⟨i, 0, none⟩) e).trans (blk_cell x2 0))
    simp [kidRow] at h1
  clear B1 B2 x1
  obtain ⟨xc0, xc1, xc2, xc3, xc4, xc5, xc6, xc7, xc8, xf0, xf1, xf2, xf3, xf4, xf5, xf6, xf7, xf8⟩ := blk9 x2
  have lx := blk_lt x2
  replace x2 := Lib.hid x2
  replace hown := Lib.hid hown
  unfold readV objL
  go_wp2_with fail
  refine bodyPost_ret (results_ct rfl _ _ X #[.int .i64 9, .bool false, .bool false, .string ⟨#[]⟩, .int .i64 0, .int .u64 0, .string ⟨#[116]⟩, .slice none 0 0, .slice (some ⟨g, 0, none⟩) 1 cap] (0, 0) (.int .i64 0) rfl rfl (set9_heap x2.out) (by kernel_rfl)) rfl ?_
  have q := set9_kp w2 X (.int .i64 9) (.bool false) (.bool false) (.string ⟨#[]⟩) (.int .i64 0) (.int .u64 0) (.string ⟨#[116]⟩) (.slice none 0 0) (.slice (some ⟨g, 0, none⟩) 1 cap)
  exact ⟨b, g, cap, rfl, q.own hown.out (fun k hk e => by simp [Value.ownBlock] at hk; omega), q.toBelow B3.out B3.out.size (fun k hk => by omega)⟩
set_option maxHeartbeats 3200000 in
set_option maxRecDepth 100000 in
theorem wr_cbor (w : World) (g : Nat) (hg : Kid g w) (hL : Laid w) :
    Calls Tryz.prog 22 #[.int .i64 1, topV g] w fun e w' => ∃ (A : Nat) (c : Nat), e = .returned (.tuple #[.slice (some ⟨A, 0, none⟩) 7 c, .int .i64 0]) ∧ BytesAt w' (some ⟨A, 0, none⟩) cborL ∧ 7 ≤ c ∧ Below w.heap.size w w' := by
  have hW := Lib.hid (fun X (hb : Below w.heap.size w X) => cwrite X g (hg.below hb) ((hL.below hb).tabs))
  clear hg hL
  unfold topV at *
  go_enter Tryz.func22, Tryz.ntmps22
  go_wp2_with fail
  generalize hw1 : World.alloc w _ = w1
  obtain ⟨x1, B1⟩ := alloc_at hw1
  clear hw1
  replace x1 := Lib.hid x1
  refine (hW.out w1 B1).mono ?_
  rintro e w2 ⟨A, c, rfl, hA, hc, B2⟩
  have B3 := Lib.hid (below_then B1 B1.size B2)
  clear B1 B2 x1
  replace hA := Lib.hid hA
  go_wp2_with fail
  go_ret2
  exact ⟨A, c, rfl, hA.out, hc, B3.out⟩
set_option maxHeartbeats 3200000 in
set_option maxRecDepth 100000 in
theorem rd_cbor (A : Nat) (c : Nat) (w : World) (hA : BytesAt w (some ⟨A, 0, none⟩) cborL) (hc : 7 ≤ c) (hL : Laid w) : Calls Tryz.prog 104 #[.int .i64 1, .slice (some ⟨A, 0, none⟩) 7 c] w (RdPost w) := by
  have hR := Lib.hid (fun X (hb : Below w.heap.size w X) => cread A c X (hA.below hb) hc (hL.below hb).tabs (hL.below hb).sz (hL.below hb).w0)
  clear hA hL
  go_enter Tryz.func104, Tryz.ntmps104
  go_wp2_with fail
  generalize hw1 : World.alloc w _ = w1
  obtain ⟨x1, B1⟩ := alloc_at hw1
  clear hw1
  obtain ⟨X, hX⟩ : ∃ X, w.heap.size = X := ⟨_, rfl⟩
  rw [hX] at x1
  rw [hX]
  refine (hR.out w1 B1).mono ?_
  rintro e w2 ⟨b, g, cap, rfl, hown, B2⟩
  have x2 := blk_below x1 B2
  have B3 := Lib.hid (below_then B1 B1.size B2)
  have hgX : g ≠ X := by
    intro e
    have h1 := (World.ownsRow.cellAt hown 0 (by decide)).symm.trans ((congrArg (fun i => w2.cell? ⟨i, 0, none⟩) e).trans (blk_cell x2 0))
    simp [kidRow] at h1
  clear B1 B2 x1
  obtain ⟨xc0, xc1, xc2, xc3, xc4, xc5, xc6, xc7, xc8, xf0, xf1, xf2, xf3, xf4, xf5, xf6, xf7, xf8⟩ := blk9 x2
  have lx := blk_lt x2
  replace x2 := Lib.hid x2
  replace hown := Lib.hid hown
  unfold readV objL
  go_wp2_with fail
  refine bodyPost_ret (results_ct rfl _ _ X #[.int .i64 9, .bool false, .bool false, .string ⟨#[]⟩, .int .i64 0, .int .u64 0, .string ⟨#[116]⟩, .slice none 0 0, .slice (some ⟨g, 0, none⟩) 1 cap] (0, 0) (.int .i64 0) rfl rfl (set9_heap x2.out) (by kernel_rfl)) rfl ?_
  have q := set9_kp w2 X (.int .i64 9) (.bool false) (.bool false) (.string ⟨#[]⟩) (.int .i64 0) (.int .u64 0) (.string ⟨#[116]⟩) (.slice none 0 0) (.slice (some ⟨g, 0, none⟩) 1 cap)
  exact ⟨b, g, cap, rfl, q.own hown.out (fun k hk e => by simp [Value.ownBlock] at hk; omega), q.toBelow B3.out B3.out.size (fun k hk => by omega)⟩
set_option maxHeartbeats 3200000 in
set_option maxRecDepth 100000 in
theorem wr_pack (w : World) (g : Nat) (hg : Kid g w) (hL : Laid w) :
    Calls Tryz.prog 22 #[.int .i64 2, topV g] w fun e w' => ∃ (A : Nat) (c : Nat), e = .returned (.tuple #[.slice (some ⟨A, 0, none⟩) 12 c, .int .i64 0]) ∧ BytesAt w' (some ⟨A, 0, none⟩) packL ∧ 12 ≤ c ∧ Below w.heap.size w w' := by
  have hW := Lib.hid (fun X (hb : Below w.heap.size w X) => pwrite X g (hg.below hb) ((hL.below hb).tabs))
  clear hg hL
  unfold topV at *
  go_enter Tryz.func22, Tryz.ntmps22
  go_wp2_with fail
  generalize hw1 : World.alloc w _ = w1
  obtain ⟨x1, B1⟩ := alloc_at hw1
  clear hw1
  replace x1 := Lib.hid x1
  refine (hW.out w1 B1).mono ?_
  rintro e w2 ⟨A, c, rfl, hA, hc, B2⟩
  have B3 := Lib.hid (below_then B1 B1.size B2)
  clear B1 B2 x1
  replace hA := Lib.hid hA
  go_wp2_with fail
  go_ret2
  exact ⟨A, c, rfl, hA.out, hc, B3.out⟩
set_option maxHeartbeats 3200000 in
set_option maxRecDepth 100000 in
theorem rd_pack (A : Nat) (c : Nat) (w : World) (hA : BytesAt w (some ⟨A, 0, none⟩) packL) (hc : 12 ≤ c) (hL : Laid w) : Calls Tryz.prog 104 #[.int .i64 2, .slice (some ⟨A, 0, none⟩) 12 c] w (RdPost w) := by
  have hR := Lib.hid (fun X (hb : Below w.heap.size w X) => pread A c X (hA.below hb) hc (hL.below hb).tabs (hL.below hb).sz)
  clear hA hL
  go_enter Tryz.func104, Tryz.ntmps104
  go_wp2_with fail
  generalize hw1 : World.alloc w _ = w1
  obtain ⟨x1, B1⟩ := alloc_at hw1
  clear hw1
  obtain ⟨X, hX⟩ : ∃ X, w.heap.size = X := ⟨_, rfl⟩
  rw [hX] at x1
  rw [hX]
  refine (hR.out w1 B1).mono ?_
  rintro e w2 ⟨b, g, cap, rfl, hown, B2⟩
  have x2 := blk_below x1 B2
  have B3 := Lib.hid (below_then B1 B1.size B2)
  have hgX : g ≠ X := by
    intro e
    have h1 := (World.ownsRow.cellAt hown 0 (by decide)).symm.trans ((congrArg (fun i => w2.cell? ⟨i, 0, none⟩) e).trans (blk_cell x2 0))
    simp [kidRow] at h1
  clear B1 B2 x1
  obtain ⟨xc0, xc1, xc2, xc3, xc4, xc5, xc6, xc7, xc8, xf0, xf1, xf2, xf3, xf4, xf5, xf6, xf7, xf8⟩ := blk9 x2
  have lx := blk_lt x2
  replace x2 := Lib.hid x2
  replace hown := Lib.hid hown
  unfold readV objL
  go_wp2_with fail
  refine bodyPost_ret (results_ct rfl _ _ X #[.int .i64 9, .bool false, .bool false, .string ⟨#[]⟩, .int .i64 0, .int .u64 0, .string ⟨#[116]⟩, .slice none 0 0, .slice (some ⟨g, 0, none⟩) 1 cap] (0, 0) (.int .i64 0) rfl rfl (set9_heap x2.out) (by kernel_rfl)) rfl ?_
  have q := set9_kp w2 X (.int .i64 9) (.bool false) (.bool false) (.string ⟨#[]⟩) (.int .i64 0) (.int .u64 0) (.string ⟨#[116]⟩) (.slice none 0 0) (.slice (some ⟨g, 0, none⟩) 1 cap)
  exact ⟨b, g, cap, rfl, q.own hown.out (fun k hk e => by simp [Value.ownBlock] at hk; omega), q.toBelow B3.out B3.out.size (fun k hk => by omega)⟩
set_option maxHeartbeats 3200000 in
set_option maxRecDepth 100000 in
theorem wr_xml (w : World) (g : Nat) (hg : Kid g w) (hL : Laid w) :
    Calls Tryz.prog 22 #[.int .i64 3, topV g] w fun e w' => ∃ (A : Option Addr) (c : Nat), e = .returned (.tuple #[.slice A 37 c, .int .i64 0]) ∧ BytesAt w' A xmlL ∧ 37 ≤ c ∧ Below w.heap.size w w' := by
  have hW := Lib.hid (fun X (hb : Below w.heap.size w X) => xwrite X g (hg.below hb) ((hL.below hb).tabs))
  clear hg hL
  unfold topV at *
  go_enter Tryz.func22, Tryz.ntmps22
  go_wp2_with fail
  generalize hw1 : World.alloc w _ = w1
  obtain ⟨x1, B1⟩ := alloc_at hw1
  clear hw1
  replace x1 := Lib.hid x1
  refine (hW.out w1 B1).mono ?_
  rintro e w2 ⟨A, c, rfl, hA, hc, B2⟩
  have B3 := Lib.hid (below_then B1 B1.size B2)
  clear B1 B2 x1
  replace hA := Lib.hid hA
  go_wp2_with fail
  go_ret2
  exact ⟨A, c, rfl, hA.out, hc, B3.out⟩
set_option maxHeartbeats 3200000 in
set_option maxRecDepth 100000 in
theorem rd_xml (A : Option Addr) (c : Nat) (w : World) (hA : BytesAt w A xmlL) (hc : 37 ≤ c) (hL : Laid w) : Calls Tryz.prog 104 #[.int .i64 3, .slice A 37 c] w (RdPost w) := by
  have hR := Lib.hid (fun X (hb : Below w.heap.size w X) => xread A c X (hA.below hb) ((hL.below hb).tabs) (by have := (hL.below hb).sz; omega))
  clear hA hL
  go_enter Tryz.func104, Tryz.ntmps104
  go_wp2_with fail
  generalize hw1 : World.alloc w _ = w1
  obtain ⟨x1, B1⟩ := alloc_at hw1
  clear hw1
  obtain ⟨X, hX⟩ : ∃ X, w.heap.size = X := ⟨_, rfl⟩
  rw [hX] at x1
  rw [hX]
  refine (hR.out w1 B1).mono ?_
  rintro e w2 ⟨b, g, cap, rfl, hown, B2⟩
  have x2 := blk_below x1 B2
  have B3 := Lib.hid (below_then B1 B1.size B2)
  have hgX : g ≠ X := by
    intro e
    have h1 := (World.ownsRow.cellAt hown 0 (by decide)).symm.trans ((congrArg (fun i => w2.cell? ⟨i, 0, none⟩) e).trans (blk_cell x2 0))
    simp [kidRow] at h1
  clear B1 B2 x1
  obtain ⟨xc0, xc1, xc2, xc3, xc4, xc5, xc6, xc7, xc8, xf0, xf1, xf2, xf3, xf4, xf5, xf6, xf7, xf8⟩ := blk9 x2
  have lx := blk_lt x2
  replace x2 := Lib.hid x2
  replace hown := Lib.hid hown
  unfold readV objL
  go_wp2_with fail
  refine bodyPost_ret (results_ct rfl _ _ X #[.int .i64 9, .bool false, .bool false, .string ⟨#[]⟩, .int .i64 0, .int .u64 0, .string ⟨#[116]⟩, .slice none 0 0, .slice (some ⟨g, 0, none⟩) 1 cap] (0, 0) (.int .i64 0) rfl rfl (set9_heap x2.out) (by kernel_rfl)) rfl ?_
  have q := set9_kp w2 X (.int .i64 9) (.bool false) (.bool false) (.string ⟨#[]⟩) (.int .i64 0) (.int .u64 0) (.string ⟨#[116]⟩) (.slice none 0 0) (.slice (some ⟨g, 0, none⟩) 1 cap)
  exact ⟨b, g, cap, rfl, q.own hown.out (fun k hk e => by simp [Value.ownBlock] at hk; omega), q.toBelow B3.out B3.out.size (fun k hk => by omega)⟩
set_option maxHeartbeats 6400000 in
set_option maxRecDepth 100000 in
theorem keeps_top (w : World) (g : Nat) (hg : Kid g w) (hL : Laid w) :
    Calls Tryz.prog 54 #[topV g] w fun e w' => e = .returned (.bool true) ∧ Below w.heap.size w w' := by
  unfold topV
  go_enter Tryz.func54, Tryz.ntmps54
  go_wp2_with fail
  generalize hw1 : World.alloc w _ = wa
  obtain ⟨xa, Ba⟩ := alloc_at hw1
  clear hw1
  have ka := hg.below Ba
  have hLa := hL.below Ba
  obtain ⟨X, hX⟩ : ∃ X, w.heap.size = X := ⟨_, rfl⟩
  rw [hX] at xa
  rw [hX]
  clear hg hL
  replace hX := Lib.hid hX
  obtain ⟨xc0, xc1, xc2, xc3, xc4, xc5, xc6, xc7, xc8, xf0, xf1, xf2, xf3, xf4, xf5, xf6, xf7, xf8⟩ := blk9 xa
  have lx := blk_lt xa
  refine wp_loop_rounds 5 ?_
  rw [rounds_succ]
  go_wp2_with fail
  refine (wr_json _ g ka hLa).mono ?_
  rintro e wb ⟨A, c, rfl, hA, hc, Bb⟩
  have Bb' := Lib.hid (below_then Ba Ba.size Bb)
  have kb := Lib.hid (ka.below Bb)
  have xb := Lib.hid (blk_below xa Bb)
  have hLb := Lib.hid (hLa.below Bb)
  clear Ba ka xa hLa Bb xc0 xc1 xc2 xc3 xc4 xc5 xc6 xc7 xc8 xf0 xf1 xf2 xf3 xf4 xf5 xf6 xf7 xf8 lx
  replace hA := Lib.hid hA
  go_wp2_with fail
  refine (rd_json A c wb hA.out hc hLb.out).mono ?_
  rintro e wc ⟨b2, g2, c2, rfl, hown, Bc⟩
  have Bc' := Lib.hid (below_then Bb'.out Bb'.out.size Bc)
  have kc := Lib.hid (kb.out.below Bc)
  have xc := Lib.hid (blk_below xb.out Bc)
  have hLc := Lib.hid (hLb.out.below Bc)
  clear hA hc kb xb hLb Bb' Bc
  replace hown := Lib.hid hown
  unfold readV objL
  go_upto_region 6 with fail
  generalize hwd : World.alloc wc _ = wd
  obtain ⟨yd, Bd⟩ := alloc_at hwd
  clear hwd
  have Bd' := Lib.hid (below_then Bc'.out Bc'.out.size Bd)
  have kd := Lib.hid (kc.out.below Bd)
  have xd := blk_below xc.out Bd
  have hLd := Lib.hid (hLc.out.below Bd)
  have ownd := (Kp.of_below Bd (fun _ => False)).own hown.out (fun _ _ h => h)
  clear Bc' kc xc hLc hown Bd
  have hS := same_top kd.out ownd
  unfold topV readV objL at hS
  obtain ⟨xc0, xc1, xc2, xc3, xc4, xc5, xc6, xc7, xc8, xf0, xf1, xf2, xf3, xf4, xf5, xf6, xf7, xf8⟩ := blk9 xd
  obtain ⟨yc0, yc1, yc2, yc3, yc4, yc5, yc6, yc7, yc8, yf0, yf1, yf2, yf3, yf4, yf5, yf6, yf7, yf8⟩ := blk9 yd
  have lx := blk_lt xd
  have ly := blk_lt yd
  replace xd := Lib.hid xd
  replace yd := Lib.hid yd
  replace ownd := Lib.hid ownd
  replace hS := Lib.hid hS
  go_wp2_with fail
  refine hS.out.mono ?_
  rintro e we0 ⟨rfl, Be⟩
  have Ba := below_then Bd'.out Bd'.out.size Be
  have ka := kd.out.below Be
  have xa := blk_below xd.out Be
  have hLa := hLd.out.below Be
  clear hS ownd xd yd kd hLd Bd' Be xc0 xc1 xc2 xc3 xc4 xc5 xc6 xc7 xc8 xf0 xf1 xf2 xf3 xf4 xf5 xf6 xf7 xf8 yc0 yc1 yc2 yc3 yc4 yc5 yc6 yc7 yc8 yf0 yf1 yf2 yf3 yf4 yf5 yf6 yf7 yf8 lx ly
  obtain ⟨xc0, xc1, xc2, xc3, xc4, xc5, xc6, xc7, xc8, xf0, xf1, xf2, xf3, xf4, xf5, xf6, xf7, xf8⟩ := blk9 xa
  have lx := blk_lt xa
  go_wp2_with fail
  rw [rounds_succ]
  go_wp2_with fail
  refine (wr_cbor _ g ka hLa).mono ?_
  rintro e wb ⟨A, c, rfl, hA, hc, Bb⟩
  have Bb' := Lib.hid (below_then Ba Ba.size Bb)
  have kb := Lib.hid (ka.below Bb)
  have xb := Lib.hid (blk_below xa Bb)
  have hLb := Lib.hid (hLa.below Bb)
  clear Ba ka xa hLa Bb xc0 xc1 xc2 xc3 xc4 xc5 xc6 xc7 xc8 xf0 xf1 xf2 xf3 xf4 xf5 xf6 xf7 xf8 lx
  replace hA := Lib.hid hA
  go_wp2_with fail
  refine (rd_cbor A c wb hA.out hc hLb.out).mono ?_
  rintro e wc ⟨b2, g2, c2, rfl, hown, Bc⟩
  have Bc' := Lib.hid (below_then Bb'.out Bb'.out.size Bc)
  have kc := Lib.hid (kb.out.below Bc)
  have xc := Lib.hid (blk_below xb.out Bc)
  have hLc := Lib.hid (hLb.out.below Bc)
  clear hA hc kb xb hLb Bb' Bc
  replace hown := Lib.hid hown
  unfold readV objL
  go_upto_region 6 with fail
  generalize hwd : World.alloc wc _ = wd
  obtain ⟨yd, Bd⟩ := alloc_at hwd
  clear hwd
  have Bd' := Lib.hid (below_then Bc'.out Bc'.out.size Bd)
  have kd := Lib.hid (kc.out.below Bd)
  have xd := blk_below xc.out Bd
  have hLd := Lib.hid (hLc.out.below Bd)
  have ownd := (Kp.of_below Bd (fun _ => False)).own hown.out (fun _ _ h => h)
  clear Bc' kc xc hLc hown Bd
  have hS := same_top kd.out ownd
  unfold topV readV objL at hS
  obtain ⟨xc0, xc1, xc2, xc3, xc4, xc5, xc6, xc7, xc8, xf0, xf1, xf2, xf3, xf4, xf5, xf6, xf7, xf8⟩ := blk9 xd
  obtain ⟨yc0, yc1, yc2, yc3, yc4, yc5, yc6, yc7, yc8, yf0, yf1, yf2, yf3, yf4, yf5, yf6, yf7, yf8⟩ := blk9 yd
  have lx := blk_lt xd
  have ly := blk_lt yd
  replace xd := Lib.hid xd
  replace yd := Lib.hid yd
  replace ownd := Lib.hid ownd
  replace hS := Lib.hid hS
  go_wp2_with fail
  refine hS.out.mono ?_
  rintro e we1 ⟨rfl, Be⟩
  have Ba := below_then Bd'.out Bd'.out.size Be
  have ka := kd.out.below Be
  have xa := blk_below xd.out Be
  have hLa := hLd.out.below Be
  clear hS ownd xd yd kd hLd Bd' Be xc0 xc1 xc2 xc3 xc4 xc5 xc6 xc7 xc8 xf0 xf1 xf2 xf3 xf4 xf5 xf6 xf7 xf8 yc0 yc1 yc2 yc3 yc4 yc5 yc6 yc7 yc8 yf0 yf1 yf2 yf3 yf4 yf5 yf6 yf7 yf8 lx ly
  obtain ⟨xc0, xc1, xc2, xc3, xc4, xc5, xc6, xc7, xc8, xf0, xf1, xf2, xf3, xf4, xf5, xf6, xf7, xf8⟩ := blk9 xa
  have lx := blk_lt xa
  go_wp2_with fail
  rw [rounds_succ]
  go_wp2_with fail
  refine (wr_pack _ g ka hLa).mono ?_
  rintro e wb ⟨A, c, rfl, hA, hc, Bb⟩
  have Bb' := Lib.hid (below_then Ba Ba.size Bb)
  have kb := Lib.hid (ka.below Bb)
  have xb := Lib.hid (blk_below xa Bb)
  have hLb := Lib.hid (hLa.below Bb)
  clear Ba ka xa hLa Bb xc0 xc1 xc2 xc3 xc4 xc5 xc6 xc7 xc8 xf0 xf1 xf2 xf3 xf4 xf5 xf6 xf7 xf8 lx
  replace hA := Lib.hid hA
  go_wp2_with fail
  refine (rd_pack A c wb hA.out hc hLb.out).mono ?_
  rintro e wc ⟨b2, g2, c2, rfl, hown, Bc⟩
  have Bc' := Lib.hid (below_then Bb'.out Bb'.out.size Bc)
  have kc := Lib.hid (kb.out.below Bc)
  have xc := Lib.hid (blk_below xb.out Bc)
  have hLc := Lib.hid (hLb.out.below Bc)
  clear hA hc kb xb hLb Bb' Bc
  replace hown := Lib.hid hown
  unfold readV objL
  go_upto_region 6 with fail
  generalize hwd : World.alloc wc _ = wd
  obtain ⟨yd, Bd⟩ := alloc_at hwd
  clear hwd
  have Bd' := Lib.hid (below_then Bc'.out Bc'.out.size Bd)
  have kd := Lib.hid (kc.out.below Bd)
  have xd := blk_below xc.out Bd
  have hLd := Lib.hid (hLc.out.below Bd)
  have ownd := (Kp.of_below Bd (fun _ => False)).own hown.out (fun _ _ h => h)
  clear Bc' kc xc hLc hown Bd
  have hS := same_top kd.out ownd
  unfold topV readV objL at hS
  obtain ⟨xc0, xc1, xc2, xc3, xc4, xc5, xc6, xc7, xc8, xf0, xf1, xf2, xf3, xf4, xf5, xf6, xf7, xf8⟩ := blk9 xd
  obtain ⟨yc0, yc1, yc2, yc3, yc4, yc5, yc6, yc7, yc8, yf0, yf1, yf2, yf3, yf4, yf5, yf6, yf7, yf8⟩ := blk9 yd
  have lx := blk_lt xd
  have ly := blk_lt yd
  replace xd := Lib.hid xd
  replace yd := Lib.hid yd
  replace ownd := Lib.hid ownd
  replace hS := Lib.hid hS
  go_wp2_with fail
  refine hS.out.mono ?_
  rintro e we2 ⟨rfl, Be⟩
  have Ba := below_then Bd'.out Bd'.out.size Be
  have ka := kd.out.below Be
  have xa := blk_below xd.out Be
  have hLa := hLd.out.below Be
  clear hS ownd xd yd kd hLd Bd' Be xc0 xc1 xc2 xc3 xc4 xc5 xc6 xc7 xc8 xf0 xf1 xf2 xf3 xf4 xf5 xf6 xf7 xf8 yc0 yc1 yc2 yc3 yc4 yc5 yc6 yc7 yc8 yf0 yf1 yf2 yf3 yf4 yf5 yf6 yf7 yf8 lx ly
  obtain ⟨xc0, xc1, xc2, xc3, xc4, xc5, xc6, xc7, xc8, xf0, xf1, xf2, xf3, xf4, xf5, xf6, xf7, xf8⟩ := blk9 xa
  have lx := blk_lt xa
  go_wp2_with fail
  rw [rounds_succ]
  go_wp2_with fail
  refine (wr_xml _ g ka hLa).mono ?_
  rintro e wb ⟨A, c, rfl, hA, hc, Bb⟩
  have Bb' := Lib.hid (below_then Ba Ba.size Bb)
  have kb := Lib.hid (ka.below Bb)
  have xb := Lib.hid (blk_below xa Bb)
  have hLb := Lib.hid (hLa.below Bb)
  clear Ba ka xa hLa Bb xc0 xc1 xc2 xc3 xc4 xc5 xc6 xc7 xc8 xf0 xf1 xf2 xf3 xf4 xf5 xf6 xf7 xf8 lx
  replace hA := Lib.hid hA
  go_wp2_with fail
  refine (rd_xml A c wb hA.out hc hLb.out).mono ?_
  rintro e wc ⟨b2, g2, c2, rfl, hown, Bc⟩
  have Bc' := Lib.hid (below_then Bb'.out Bb'.out.size Bc)
  have kc := Lib.hid (kb.out.below Bc)
  have xc := Lib.hid (blk_below xb.out Bc)
  have hLc := Lib.hid (hLb.out.below Bc)
  clear hA hc kb xb hLb Bb' Bc
  replace hown := Lib.hid hown
  unfold readV objL
  go_upto_region 6 with fail
  generalize hwd : World.alloc wc _ = wd
  obtain ⟨yd, Bd⟩ := alloc_at hwd
  clear hwd
  have Bd' := Lib.hid (below_then Bc'.out Bc'.out.size Bd)
  have kd := Lib.hid (kc.out.below Bd)
  have xd := blk_below xc.out Bd
  have hLd := Lib.hid (hLc.out.below Bd)
  have ownd := (Kp.of_below Bd (fun _ => False)).own hown.out (fun _ _ h => h)
  clear Bc' kc xc hLc hown Bd
  have hS := same_top kd.out ownd
  unfold topV readV objL at hS
  obtain ⟨xc0, xc1, xc2, xc3, xc4, xc5, xc6, xc7, xc8, xf0, xf1, xf2, xf3, xf4, xf5, xf6, xf7, xf8⟩ := blk9 xd
  obtain ⟨yc0, yc1, yc2, yc3, yc4, yc5, yc6, yc7, yc8, yf0, yf1, yf2, yf3, yf4, yf5, yf6, yf7, yf8⟩ := blk9 yd
  have lx := blk_lt xd
  have ly := blk_lt yd
  replace xd := Lib.hid xd
  replace yd := Lib.hid yd
  replace ownd := Lib.hid ownd
  replace hS := Lib.hid hS
  go_wp2_with fail
  refine hS.out.mono ?_
  rintro e we3 ⟨rfl, Be⟩
  have Ba := below_then Bd'.out Bd'.out.size Be
  have ka := kd.out.below Be
  have xa := blk_below xd.out Be
  have hLa := hLd.out.below Be
  clear hS ownd xd yd kd hLd Bd' Be xc0 xc1 xc2 xc3 xc4 xc5 xc6 xc7 xc8 xf0 xf1 xf2 xf3 xf4 xf5 xf6 xf7 xf8 yc0 yc1 yc2 yc3 yc4 yc5 yc6 yc7 yc8 yf0 yf1 yf2 yf3 yf4 yf5 yf6 yf7 yf8 lx ly
  obtain ⟨xc0, xc1, xc2, xc3, xc4, xc5, xc6, xc7, xc8, xf0, xf1, xf2, xf3, xf4, xf5, xf6, xf7, xf8⟩ := blk9 xa
  have lx := blk_lt xa
  go_wp2_with fail
  rw [rounds_succ]
  go_wp2_with fail
  go_ret
  exact ⟨rfl, by rw [hX.out]; first | exact Ba | (rw [← hX.out]; exact Ba)⟩
set_option maxHeartbeats 6400000 in
set_option maxRecDepth 100000 in
theorem speaks_any (w : World) (hL : Laid w) : Calls Tryz.prog 21 #[] w fun e w' => e = .returned (.bool true) ∧ Below w.heap.size w w' := by
  go_enter Tryz.func21, Tryz.ntmps21
  go_wp2_with fail
  generalize hw1 : World.alloc _ _ = wa
  obtain ⟨ka, xa, Ba, hsa⟩ := alloc_two hw1
  clear hw1
  replace ka : Kid w.heap.size wa := ka
  obtain ⟨g, hg⟩ : ∃ g, w.heap.size = g := ⟨_, rfl⟩
  rw [hg] at ka xa hsa
  rw [hg]
  have hLa := hL.below Ba
  clear hL
  replace hg := Lib.hid hg
  have hK := fun W => keeps_top W g
  have hW0 := fun W => jwrite W g
  unfold topV at hK
  obtain ⟨xc0, xc1, xc2, xc3, xc4, xc5, xc6, xc7, xc8, xf0, xf1, xf2, xf3, xf4, xf5, xf6, xf7, xf8⟩ := blk9 xa
  have lx := blk_lt xa
  refine (jwrite _ g ka hLa).mono ?_
  rintro e v0 ⟨A0, c0, rfl, hA0, hc0, Bb⟩
  replace Ba := below_then Ba Ba.size Bb
  replace ka := ka.below Bb
  replace xa := blk_below xa Bb
  replace hLa := hLa.below Bb
  clear Bb hA0 xc0 xc1 xc2 xc3 xc4 xc5 xc6 xc7 xc8 xf0 xf1 xf2 xf3 xf4 xf5 xf6 xf7 xf8 lx
  obtain ⟨xc0, xc1, xc2, xc3, xc4, xc5, xc6, xc7, xc8, xf0, xf1, xf2, xf3, xf4, xf5, xf6, xf7, xf8⟩ := blk9 xa
  have lx := blk_lt xa
  go_wp2_with fail
  refine (cwrite _ g ka hLa.tabs).mono ?_
  rintro e v1 ⟨A1, c1, rfl, hA1, hc1, Bb⟩
  replace Ba := below_then Ba Ba.size Bb
  replace ka := ka.below Bb
  replace xa := blk_below xa Bb
  replace hLa := hLa.below Bb
  clear Bb hA1 xc0 xc1 xc2 xc3 xc4 xc5 xc6 xc7 xc8 xf0 xf1 xf2 xf3 xf4 xf5 xf6 xf7 xf8 lx
  obtain ⟨xc0, xc1, xc2, xc3, xc4, xc5, xc6, xc7, xc8, xf0, xf1, xf2, xf3, xf4, xf5, xf6, xf7, xf8⟩ := blk9 xa
  have lx := blk_lt xa
  go_wp2_with fail
  refine (pwrite _ g ka hLa.tabs).mono ?_
  rintro e v2 ⟨A2, c2, rfl, hA2, hc2, Bb⟩
  replace Ba := below_then Ba Ba.size Bb
  replace ka := ka.below Bb
  replace xa := blk_below xa Bb
  replace hLa := hLa.below Bb
  clear Bb hA2 xc0 xc1 xc2 xc3 xc4 xc5 xc6 xc7 xc8 xf0 xf1 xf2 xf3 xf4 xf5 xf6 xf7 xf8 lx
  obtain ⟨xc0, xc1, xc2, xc3, xc4, xc5, xc6, xc7, xc8, xf0, xf1, xf2, xf3, xf4, xf5, xf6, xf7, xf8⟩ := blk9 xa
  have lx := blk_lt xa
  go_wp2_with fail
  refine (xwrite _ g ka hLa.tabs).mono ?_
  rintro e v3 ⟨A3, c3, rfl, hA3, hc3, Bb⟩
  replace Ba := below_then Ba Ba.size Bb
  replace ka := ka.below Bb
  replace xa := blk_below xa Bb
  replace hLa := hLa.below Bb
  clear Bb hA3 xc0 xc1 xc2 xc3 xc4 xc5 xc6 xc7 xc8 xf0 xf1 xf2 xf3 xf4 xf5 xf6 xf7 xf8 lx
  obtain ⟨xc0, xc1, xc2, xc3, xc4, xc5, xc6, xc7, xc8, xf0, xf1, xf2, xf3, xf4, xf5, xf6, xf7, xf8⟩ := blk9 xa
  have lx := blk_lt xa
  go_wp2_with fail
  refine (hK _ ka hLa).mono ?_
  rintro e v4 ⟨rfl, Bb⟩
  replace Ba := below_then Ba Ba.size Bb
  go_wp2_with fail
  go_ret
  exact ⟨rfl, Ba⟩
end Go.Proofs.YtcpgcjmamjjokaaGreatDoor
