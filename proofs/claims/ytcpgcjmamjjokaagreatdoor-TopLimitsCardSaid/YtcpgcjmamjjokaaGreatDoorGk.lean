/- xml's writer over the tag. xml's reader: its small steps, at the one document. xml's reader: marks. xml's reader: characters, the first mark, ends. -/
import Derived.Test.YtcpgcjmamjjokaaGreatDoorGj
namespace Go.Proofs.YtcpgcjmamjjokaaGreatDoor
open Go.RowKit Go.Maps Go.Proofs.YtcpgcjmamjjokaaGreatDoorW.PrintWords Go.Proofs.YtcpgcjmamjjokaaGreatDoorW.PrintLast Go.Proofs.YtcpgcjmamjjokaaGreatDoorW.PrintMore Go.Proofs.YtcpgcjmamjjokaaGreatDoor.PTopLimits
set_option linter.unusedVariables false
set_option linter.unusedSimpArgs false
def xmlL : List UInt8 := [60, 116, 97, 103, 32, 110, 97, 109, 101, 61, 34, 116, 34, 62, 60, 98, 121, 116, 101, 115, 62, 48, 48, 60, 47, 98, 121, 116, 101, 115, 62, 60, 47, 116, 97, 103, 62]
set_option maxHeartbeats 3200000 in
set_option maxRecDepth 100000 in
theorem xplain (B : Nat) (l : List UInt8) (w : World) (h : Bld B l w) (hl : l.length ≤ 1000) :
    Calls Tryz.prog 143 #[.pointer (some ⟨B, 0, none⟩), .string ⟨#[98, 121, 116, 101, 115]⟩, .string ⟨#[48, 48]⟩] w fun e w' => e = .returned (.tuple #[]) ∧ Bld B (l ++ [60, 98, 121, 116, 101, 115, 62, 48, 48, 60, 47, 98, 121, 116, 101, 115, 62]) w' ∧ Oth B w w' := by
  have hW := Lib.hid (fun l s w h hl hs => ws_any B l s w h hl hs)
  replace h := Lib.hid h
  go_enter Tryz.func143, Tryz.ntmps143
  go_wp2_with fail
  refine (hW.out l _ _ h.out (by omega) (by decide +kernel)).mono ?_
  rintro e w1 ⟨rfl, h1, B1⟩
  go_wp2_with fail
  go_end0
  exact ⟨rfl, h1, B1⟩
set_option maxHeartbeats 3200000 in
set_option maxRecDepth 100000 in
theorem xchars_t (B : Nat) (l : List UInt8) (w : World) (h : Bld B l w) (hl : l.length ≤ 1000) :
    Calls Tryz.prog 144 #[.pointer (some ⟨B, 0, none⟩), .string ⟨#[116]⟩] w fun e w' => e = .returned (.tuple #[]) ∧ Bld B (l ++ [116]) w' ∧ Oth B w w' := by
  have hcv := cv_bytes
  have hW := Lib.hid (fun l c w h hl => wb_any B l c w h hl)
  replace h := Lib.hid h
  go_enter Tryz.func144, Tryz.ntmps144
  go_wp2_with fail
  generalize hw2 : Lib.bytesWorld w 5 _ = w2
  obtain ⟨h2, B2, c0⟩ : Bld B l w2 ∧ Oth B w w2 ∧ w2.cell? ⟨w.heap.size, 0, none⟩ = some (.int .u8 116) := by
    subst hw2
    exact ⟨h.out.below (bytes_below _ _), Oth.of_below (bytes_below _ _) (Nat.le_of_lt h.out.lt), (Lib.bytesWorld_cell w 5 ⟨#[116]⟩ 0 (by decide)).trans rfl⟩
  clear hw2
  replace h2 := Lib.hid h2
  replace B2 := Lib.hid B2
  refine wp_loop_rounds 2 ?_
  rw [rounds_succ]
  go_wp2_with fail
  refine (hW.out _ 116 _ h2.out (by omega)).mono ?_
  rintro e w3 ⟨rfl, h3, B3⟩
  have B4 := Lib.hid (B2.out.trans B3)
  replace h3 := Lib.hid h3
  clear B2 B3 c0 h2
  go_wp2_with fail
  rw [rounds_succ]
  go_wp2_with fail
  go_end0
  exact ⟨rfl, h3.out, B4.out⟩
theorem Bld.drewB {B : Nat} {l : List UInt8} {w : World} (h : Bld B l w) : Bld B l w.drew := h.below (Below.refl w.heap.size w).drew
set_option maxHeartbeats 3200000 in
set_option maxRecDepth 100000 in
theorem xlay_kid (B : Nat) (l : List UInt8) (w : World) (h : Bld B l w) (hl : l.length ≤ 1000) :
    Calls Tryz.prog 103 #[.pointer (some ⟨B, 0, none⟩), kidV] w fun e w' => e = .returned (.tuple #[]) ∧ Bld B (l ++ [60, 98, 121, 116, 101, 115, 62, 48, 48, 60, 47, 98, 121, 116, 101, 115, 62]) w' ∧ Oth B w w' := by
  have hcv := cv_bytes
  have hS := Lib.hid (fun w h => xplain B l w h hl)
  unfold kidV
  replace h := Lib.hid h
  go_enter Tryz.func103, Tryz.ntmps103
  go_wp2_with fail
  generalize hw2 : Lib.bytesWorld _ 5 _ = w2
  obtain ⟨h2, B2, c0⟩ : Bld B l w2 ∧ Below w.heap.size w w2 ∧ w2.cell? ⟨w.heap.size + 1, 0, none⟩ = some (.int .u8 0) := by
    subst hw2
    have b1 := below_alloc (Below.refl w.heap.size w) (.cells #[.int .i64 6, .bool false, .bool false, .string ⟨#[]⟩, .int .i64 0, .int .u64 0, .string ⟨#[0]⟩, .slice none 0 0, .slice none 0 0] 36 (0, 0))
    have b2 := below_then b1 b1.size (bytes_below _ ⟨#[0]⟩)
    refine ⟨h.out.below b2, b2, ?_⟩
    have hc := Lib.bytesWorld_cell (w.alloc (.cells #[.int .i64 6, .bool false, .bool false, .string ⟨#[]⟩, .int .i64 0, .int .u64 0, .string ⟨#[0]⟩, .slice none 0 0, .slice none 0 0] 36 (0, 0))) 5 ⟨#[0]⟩ 0 (by decide)
    rw [alloc_size] at hc
    exact hc
  clear hw2
  replace h2 := Lib.hid h2
  replace B2 := Lib.hid B2
  obtain ⟨i0, hi, hz0, hz1, hz2⟩ := info_parts info5
  have hb1 : bits .and .u8 0 15 = 0 := by decide +kernel
  refine wp_loop_rounds 2 ?_
  rw [rounds_succ]
  go_wp2_with fail
  go_region_law (refine step_append_lies _ (by rfl) _ _ _ (by rfl) w2.heap.size 5 i0 _ 1 1 Tryz.underlying65 hi hz0 hz1 hz2 rfl (by omega) (.slice none 0 0) 0 [] (by rfl) (World.ownsRow_nil _ _ _ _) ⟨w2.heap.size, 0, none⟩ 2 2 [.int .u8 48, .int .u8 48] (by rfl) (by rfl) (World.news_of_block (cs := #[.int .u8 48, .int .u8 48]) (t := 5) (fr := (0, 0)) (nw_drew w2 _)) (by simp [Value.oneCell']) (by omega) (by unfold maxLen; omega) (by omega) (by simp) (w2.heap.size + 1) (by simp) ?_; intro g cap w3 hown hgrow hat hlt2; have BW := Lib.hid (new_grow hgrow))
  all_goals (
    have hg := hat.resolve_left (by simp [Value.ownBlock])
    have hrow := BytesAt.own (l := [48, 48]) hown (by decide)
    have hstr : (convert 65 9 (.slice (some ⟨w2.heap.size + 1, 0, none⟩) 2 cap)).run Tryz.prog w3 = .ok (.string ⟨#[48, 48]⟩) w3 := by
      have h := hrow.str cap
      first | exact h | (rw [hg] at h; exact h)
    have h3 := Lib.hid (h2.out.below BW.out)
    have B3 := Lib.hid (below_then B2.out B2.out.size BW.out)
    clear hown hgrow hat BW h2 B2 hrow c0
    go_wp2_with fail
    rw [rounds_succ]
    go_wp2_with fail
    refine (hS.out _ h3.out).mono ?_
    rintro e w4 ⟨rfl, h4, B4⟩
    go_wp2_with fail
    go_end0
    exact ⟨rfl, h4, (Oth.of_below B3.out (Nat.le_of_lt h.out.lt)).trans B4⟩)
set_option maxHeartbeats 3200000 in
set_option maxRecDepth 100000 in
theorem xnamed (B : Nat) (w : World) (h : Bld B [] w) :
    Calls Tryz.prog 145 #[.pointer (some ⟨B, 0, none⟩), .string ⟨#[116, 97, 103]⟩, .string ⟨#[116]⟩, kidV] w fun e w' => e = .returned (.tuple #[]) ∧ Bld B xmlL w' ∧ Oth B w w' := by
  have hW := Lib.hid (fun l s w h hl hs => ws_any B l s w h hl hs)
  have hQ := Lib.hid (fun l w h hl => xchars_t B l w h hl)
  have hK := Lib.hid (fun l w h hl => xlay_kid B l w h hl)
  unfold kidV at *
  replace h := Lib.hid h
  go_enter Tryz.func145, Tryz.ntmps145
  go_wp2_with fail
  generalize hw1 : World.alloc w _ = w1
  obtain ⟨X, hX⟩ : ∃ X, w.heap.size = X := ⟨_, rfl⟩
  rw [hX]
  obtain ⟨b1, P1, h1⟩ : w1.heap[X]? = some (.cells #[.int .i64 6, .bool false, .bool false, .string ⟨#[]⟩, .int .i64 0, .int .u64 0, .string ⟨#[0]⟩, .slice none 0 0, .slice none 0 0] 36 (0, 0)) ∧ Oth B w w1 ∧ Bld B [] w1 := by
    subst hw1 hX
    exact ⟨heap_alloc_new _ _, Oth.of_below (below_alloc (Below.refl _ _) _) (Nat.le_of_lt h.out.lt), h.out.below (below_alloc (Below.refl _ _) _)⟩
  have hXB : B < X := by rw [← hX]; exact h.out.lt
  clear hw1 hX h
  obtain ⟨c0, c1, c2, c3, c4, c5, c6, c7, c8, f0, f1, f2, f3, f4, f5, f6, f7, f8⟩ := blk9 b1
  replace P1 := Lib.hid P1
  replace h1 := Lib.hid h1
  refine (hW.out _ _ _ h1.out (by decide) (by decide +kernel)).mono ?_
  rintro e w2 ⟨rfl, h2, O2⟩
  have b2 := O2.heap b1 (by omega) (by decide)
  have P2 := P1.out.trans O2
  clear c0 c1 c2 c3 c4 c5 c6 c7 c8 f0 f1 f2 f3 f4 f5 f6 f7 f8
  obtain ⟨c0, c1, c2, c3, c4, c5, c6, c7, c8, f0, f1, f2, f3, f4, f5, f6, f7, f8⟩ := blk9 b2
  replace h2 := Lib.hid h2
  replace P2 := Lib.hid P2
  clear O2 P1
  go_wp2_with fail
  refine (hQ.out _ _ h2.out (by decide +kernel)).mono ?_
  rintro e w3 ⟨rfl, h3, O3⟩
  have b3 := O3.heap b2 (by omega) (by decide)
  have P3 := P2.out.trans O3
  clear c0 c1 c2 c3 c4 c5 c6 c7 c8 f0 f1 f2 f3 f4 f5 f6 f7 f8
  obtain ⟨c0, c1, c2, c3, c4, c5, c6, c7, c8, f0, f1, f2, f3, f4, f5, f6, f7, f8⟩ := blk9 b3
  replace h3 := Lib.hid h3
  replace P3 := Lib.hid P3
  clear O3 P2
  go_wp2_with fail
  refine (hW.out _ _ _ h3.out (by decide +kernel) (by decide +kernel)).mono ?_
  rintro e w4 ⟨rfl, h4, O4⟩
  have b4 := O4.heap b3 (by omega) (by decide)
  have P4 := P3.out.trans O4
  clear c0 c1 c2 c3 c4 c5 c6 c7 c8 f0 f1 f2 f3 f4 f5 f6 f7 f8
  obtain ⟨c0, c1, c2, c3, c4, c5, c6, c7, c8, f0, f1, f2, f3, f4, f5, f6, f7, f8⟩ := blk9 b4
  replace h4 := Lib.hid h4
  replace P4 := Lib.hid P4
  clear O4 P3
  go_wp2_with fail
  refine (hK.out _ _ h4.out (by decide +kernel)).mono ?_
  rintro e w5 ⟨rfl, h5, O5⟩
  have b5 := O5.heap b4 (by omega) (by decide)
  have P5 := P4.out.trans O5
  clear c0 c1 c2 c3 c4 c5 c6 c7 c8 f0 f1 f2 f3 f4 f5 f6 f7 f8
  obtain ⟨c0, c1, c2, c3, c4, c5, c6, c7, c8, f0, f1, f2, f3, f4, f5, f6, f7, f8⟩ := blk9 b5
  replace h5 := Lib.hid h5
  replace P5 := Lib.hid P5
  clear O5 P4
  go_wp2_with fail
  refine (hW.out _ _ _ h5.out (by decide +kernel) (by decide +kernel)).mono ?_
  rintro e w6 ⟨rfl, h6, O6⟩
  have b6 := O6.heap b5 (by omega) (by decide)
  have P6 := P5.out.trans O6
  clear c0 c1 c2 c3 c4 c5 c6 c7 c8 f0 f1 f2 f3 f4 f5 f6 f7 f8
  obtain ⟨c0, c1, c2, c3, c4, c5, c6, c7, c8, f0, f1, f2, f3, f4, f5, f6, f7, f8⟩ := blk9 b6
  replace h6 := Lib.hid h6
  replace P6 := Lib.hid P6
  clear O6 P5
  go_wp2_with fail
  go_end0
  exact ⟨rfl, h6.out, P6.out⟩
set_option maxHeartbeats 3200000 in
set_option maxRecDepth 100000 in
theorem xlay_top (B : Nat) (w : World) (h : Bld B [] w) (g : Nat) (hg : Kid g w) (hgB : g < B) :
    Calls Tryz.prog 103 #[.pointer (some ⟨B, 0, none⟩), topV g] w fun e w' => e = .returned (.tuple #[]) ∧ Bld B xmlL w' ∧ Oth B w w' := by
  have hN := Lib.hid (fun w h => xnamed B w h)
  unfold topV
  unfold kidV at hN
  replace h := Lib.hid h
  have hgl := blk_lt hg
  go_enter Tryz.func103, Tryz.ntmps103
  go_upto_region 40 with fail
  generalize hw1 : World.alloc w _ = w1
  obtain ⟨X, hX⟩ : ∃ X, w.heap.size = X := ⟨_, rfl⟩
  rw [hX]
  obtain ⟨b1, k1, P1, h1⟩ : w1.heap[X]? = some (.cells #[.int .i64 9, .bool false, .bool false, .string ⟨#[]⟩, .int .i64 0, .int .u64 0, .string ⟨#[116]⟩, .slice none 0 0, .slice (some ⟨g, 0, none⟩) 1 1] 36 (0, 0)) ∧ Kid g w1 ∧ Oth B w w1 ∧ Bld B [] w1 := by
    subst hw1 hX
    exact ⟨heap_alloc_new _ _, blk_alloc hg _, Oth.of_below (below_alloc (Below.refl _ _) _) (Nat.le_of_lt h.out.lt), h.out.below (below_alloc (Below.refl _ _) _)⟩
  have hXB : B < X := by rw [← hX]; exact h.out.lt
  clear hw1 hX h hg
  obtain ⟨c0, c1, c2, c3, c4, c5, c6, c7, c8, f0, f1, f2, f3, f4, f5, f6, f7, f8⟩ := blk9 b1
  refine start_ (n := 8) (S := fun w' => w'.heap[X]? = some (.cells #[.int .i64 9, .bool false, .bool false, .string ⟨#[]⟩, .int .i64 0, .int .u64 0, .string ⟨#[116]⟩, .slice none 0 0, .slice (some ⟨g, 0, none⟩) 1 1] 36 (0, 0)) ∧ Kid g w') (ds := []) #[false, false, false, false, false, false, false, false] (by kernel_rfl) rfl rfl ⟨b1, k1⟩ (fun hHeld => ?_)
  refine pure_ (i := 0) (N := some 122) (v := ?_) (a' := ?_) #[true, false, false, false, false, false, false, false] rfl rfl (by kernel_rfl) (fun _ _ _ h => h) (Or.inl ⟨by rfl, ?_⟩) ?_ ?_
  rotate_left
  · intro w'
    go_simp
    with_reducible rfl
  rotate_left
  · simp only [Act.put, List.setIfInBounds_toArray, List.set_cons_zero, List.set_cons_succ, i64_w, i32_w]
    rfl
  refine pure_ (i := 1) (N := some 123) (v := ?_) (a' := ?_) #[true, true, false, false, false, false, false, false] rfl rfl (by kernel_rfl) (fun _ _ _ h => h) (Or.inl ⟨by rfl, ?_⟩) ?_ ?_
  rotate_left
  · intro w'
    go_simp
    with_reducible rfl
  rotate_left
  · simp only [Act.put, List.setIfInBounds_toArray, List.set_cons_zero, List.set_cons_succ, i64_w, i32_w]
    rfl
  refine take_ (i := 2) (N := some 124) (v := ?_) (a' := ?_) #[true, true, true, false, false, false, false, false] rfl rfl (by kernel_rfl) (fun _ _ _ h => h) (Or.inl ⟨by rfl, ?_⟩) hHeld ?_ ?_
  rotate_left
  · rintro w' ⟨s0, s1⟩
    obtain ⟨kc0, kc1, kc2, kc3, kc4, kc5, kc6, kc7, kc8, _⟩ := blk9 s0
    obtain ⟨jc0, jc1, jc2, jc3, jc4, jc5, jc6, jc7, jc8, _⟩ := blk9 s1
    go_simp
    with_reducible rfl
  rotate_left
  · simp only [Act.put, List.setIfInBounds_toArray, List.set_cons_zero, List.set_cons_succ, i64_w, i32_w]
    rfl
  refine pure_ (i := 3) (N := some 125) (v := ?_) (a' := ?_) #[true, true, true, true, false, false, false, false] rfl rfl (by kernel_rfl) (fun _ _ _ h => h) (Or.inl ⟨by rfl, ?_⟩) ?_ ?_
  rotate_left
  · intro w'
    go_simp
    with_reducible rfl
  rotate_left
  · simp only [Act.put, List.setIfInBounds_toArray, List.set_cons_zero, List.set_cons_succ, i64_w, i32_w]
    rfl
  refine take_ (i := 4) (N := some 126) (v := ?_) (a' := ?_) #[true, true, true, true, true, false, false, false] rfl rfl (by kernel_rfl) (fun _ _ _ h => h) (Or.inl ⟨by rfl, ?_⟩) hHeld ?_ ?_
  rotate_left
  · rintro w' ⟨s0, s1⟩
    obtain ⟨kc0, kc1, kc2, kc3, kc4, kc5, kc6, kc7, kc8, _⟩ := blk9 s0
    obtain ⟨jc0, jc1, jc2, jc3, jc4, jc5, jc6, jc7, jc8, _⟩ := blk9 s1
    go_simp
    with_reducible rfl
  rotate_left
  · simp only [Act.put, List.setIfInBounds_toArray, List.set_cons_zero, List.set_cons_succ, i64_w, i32_w]
    rfl
  refine pure_ (i := 5) (N := some 127) (v := ?_) (a' := ?_) #[true, true, true, true, true, true, false, false] rfl rfl (by kernel_rfl) (fun _ _ _ h => h) (Or.inl ⟨by rfl, ?_⟩) ?_ ?_
  rotate_left
  · intro w'
    go_simp
    with_reducible rfl
  rotate_left
  · simp only [Act.put, List.setIfInBounds_toArray, List.set_cons_zero, List.set_cons_succ, i64_w, i32_w]
    rfl
  refine take_ (i := 6) (N := some 128) (v := ?_) (a' := ?_) #[true, true, true, true, true, true, true, false] rfl rfl (by kernel_rfl) (fun _ _ _ h => h) (Or.inl ⟨by rfl, ?_⟩) hHeld ?_ ?_
  rotate_left
  · rintro w' ⟨s0, s1⟩
    obtain ⟨kc0, kc1, kc2, kc3, kc4, kc5, kc6, kc7, kc8, _⟩ := blk9 s0
    obtain ⟨jc0, jc1, jc2, jc3, jc4, jc5, jc6, jc7, jc8, _⟩ := blk9 s1
    go_simp
    with_reducible rfl
  rotate_left
  · simp only [Act.put, List.setIfInBounds_toArray, List.set_cons_zero, List.set_cons_succ, i64_w, i32_w]
    rfl
  refine one_ (i := 7) (N := some 129) #[true, true, true, true, true, true, true, true] rfl rfl (by kernel_rfl) (by decide) (fun K hK => ?_)
  refine goes_ Tryz.func145 (by kernel_rfl) rfl #[.pointer (some ⟨B, 0, none⟩), .string ⟨#[116, 97, 103]⟩, .string ⟨#[116]⟩, kidV] (by rfl) rfl rfl (by simp [Act.eval, kidV]) ?_
  refine (hN.out w1.drew (h1.drewB)).mono ?_
  rintro e w2 ⟨rfl, h2, O2⟩
  have P2 := P1.trans (show Oth B w1 w2 from ⟨⟨O2.b.os, O2.b.tape, O2.b.output, O2.b.size, O2.b.block⟩, O2.o⟩)
  refine ⟨_, rfl, hK.out _ _ ⟨O2.heap b1 (by omega) (by decide), O2.heap k1 (by omega) (by decide)⟩ (fun hHeld2 => ?_)⟩
  clear hK K
  refine norm_ (a' := ?_) ?_ ?_
  rotate_left
  · show Act.put _ (some 129) _ = _
    simp only [Act.put, List.setIfInBounds_toArray, List.set_cons_zero, List.set_cons_succ, i64_w, i32_w]
    rfl
  refine done_ (by kernel_rfl) ?_
  go_wp2_with fail
  go_end0
  exact ⟨rfl, h2, P2⟩
set_option maxHeartbeats 3200000 in
set_option maxRecDepth 100000 in
theorem xwrite (w : World) (g : Nat) (hg : Kid g w) (hT : Lib.Utf8Tabs 0 1 w) :
    Calls Tryz.prog 53 #[topV g] w fun e w' => ∃ (A : Option Addr) (c : Nat), e = .returned (.tuple #[.slice A 37 c, .int .i64 0]) ∧ BytesAt w' A xmlL ∧ 37 ≤ c ∧ Below w.heap.size w w' := by
  have hC := Lib.hid (fun X (hb : Below w.heap.size w X) => top_check (hg.below hb) (Utf8Tabs_below hT hb))
  have hLay := Lib.hid (fun B w h g hg hgB => xlay_top B w h g hg hgB)
  have hSt := Lib.hid (fun B l w h => st_any B l w h)
  have hLn := Lib.hid (fun B l w h => ln_any B l w h)
  have hcv := cv_bytes
  have hgl := blk_lt hg
  unfold topV at *
  replace hg := Lib.hid hg
  clear hT
  go_enter Tryz.func53, Tryz.ntmps53
  go_wp2_with fail
  generalize hw1 : World.alloc w _ = w1
  obtain ⟨X, hX⟩ : ∃ X, w.heap.size = X := ⟨_, rfl⟩
  rw [hX]
  obtain ⟨b1, B1⟩ : w1.heap[X]? = some (.cells #[.int .i64 9, .bool false, .bool false, .string ⟨#[]⟩, .int .i64 0, .int .u64 0, .string ⟨#[116]⟩, .slice none 0 0, .slice (some ⟨g, 0, none⟩) 1 1] 36 (0, 0)) ∧ Below w.heap.size w w1 := by
    subst hw1 hX
    exact ⟨heap_alloc_new _ _, below_alloc (Below.refl _ _) _⟩
  clear hw1
  replace hX := Lib.hid hX
  refine (hC.out _ B1).mono ?_
  rintro e w2 ⟨rfl, B2⟩
  have b2 := blk_below b1 B2
  have B3 := below_then B1 B1.size B2
  have hXl := blk_lt b2
  clear b1 B1 B2
  obtain ⟨c0, c1, c2, c3, c4, c5, c6, c7, c8, f0, f1, f2, f3, f4, f5, f6, f7, f8⟩ := blk9 b2
  replace b2 := Lib.hid b2
  replace B3 := Lib.hid B3
  go_wp2_with fail
  generalize hw3 : World.alloc w2 _ = w3
  obtain ⟨B, hB⟩ : ∃ B, w2.heap.size = B := ⟨_, rfl⟩
  rw [hB]
  obtain ⟨h3, B4, k3, hgB⟩ : Bld B [] w3 ∧ Below w.heap.size w w3 ∧ Kid g w3 ∧ g < B := by
    subst hw3 hB
    exact ⟨Bld.fresh _, below_alloc B3.out _, (hg.out.below B3.out).below (below_alloc (Below.refl _ _) _), Nat.lt_of_lt_of_le hgl B3.out.size⟩
  have hwB : w.heap.size ≤ B := by rw [← hB]; exact B3.out.size
  clear hw3 hB c0 c1 c2 c3 c4 c5 c6 c7 c8 f0 f1 f2 f3 f4 f5 f6 f7 f8 b2 hXl
  replace B4 := Lib.hid B4
  replace hwB := Lib.hid hwB
  refine (hLay.out B w3 h3 g k3 hgB).mono ?_
  rintro e w4 ⟨rfl, h4, O4⟩
  have B5 := Lib.hid (B4.out.trans (O4.b.mono hwB.out))
  replace h4 := Lib.hid h4
  clear B4 h3 k3 O4 hLay
  go_wp2_with fail
  refine (hLn.out B _ _ h4.out).mono ?_
  rintro e w5 ⟨rfl, rfl⟩
  have hd : decide ((65536 : Int) < (xmlL.length : Int)) = false := by decide
  go_wp2_with fail
  refine (hSt.out B _ _ h4.out).mono ?_
  rintro e w6 ⟨rfl, h6, O6⟩
  have B7 := B5.out.trans (O6.b.mono hwB.out)
  have B8 := below_then B7 B7.size (bytes_below w6 ⟨xmlL.toArray⟩)
  have hby := BytesAt.made w6 xmlL
  have hsz : (⟨xmlL.toArray⟩ : ByteArray).size = 37 := by decide
  have hcap := grownCap_ge w6 37 0 5
  clear B5 h4 O6 B7 h6
  replace B8 := Lib.hid B8
  replace hby := Lib.hid hby
  replace hcap := Lib.hid hcap
  generalize hj : (⟨xmlL.toArray⟩ : ByteArray) = js at *
  go_wp2_with fail
  go_ret2
  exact ⟨_, _, rfl, hby.out, hcap.out, B8.out⟩
end Go.Proofs.YtcpgcjmamjjokaaGreatDoor
namespace Go.Proofs.YtcpgcjmamjjokaaGreatDoor
open Go.RowKit Go.Maps Go.Proofs.YtcpgcjmamjjokaaGreatDoorW.PrintWords Go.Proofs.YtcpgcjmamjjokaaGreatDoorW.PrintLast Go.Proofs.YtcpgcjmamjjokaaGreatDoorW.PrintMore Go.Proofs.YtcpgcjmamjjokaaGreatDoor.PTopLimits
set_option linter.unusedVariables false
set_option linter.unusedSimpArgs false
/-- What is left to be read. -/
def XR (R : Nat) (s : ByteArray) (w : World) : Prop := w.heap[R]? = some (.cells #[.string s, .bool false] 271 (0, 0))
theorem XR.kp {R : Nat} {s : ByteArray} {w w' : World} {S : Nat → Prop} (h : XR R s w) (k : Kp w w' S) (hS : ¬ S R) : XR R s w' := k.heap h hS
theorem XR.below {R : Nat} {s : ByteArray} {w w' : World} (h : XR R s w) (hb : Below w.heap.size w w') : XR R s w' := blk_below h hb
set_option maxRecDepth 100000 in
theorem xis_eq (w : World) : Calls Tryz.prog 195 #[.bool true] w fun e w' => e = .returned (.tuple #[]) ∧ w = w' := by
  go_enter Tryz.func195, Tryz.ntmps195
  go_wp2_with fail
  go_end0
  exact ⟨rfl, rfl⟩
set_option maxRecDepth 100000 in
theorem xblanks (R : Nat) (l : List UInt8) (w : World) (h : XR R ⟨l.toArray⟩ w) (hl : Lib.trimLeftS l [32, 9, 10, 13] = l) :
    Calls Tryz.prog 192 #[.pointer (some ⟨R, 0, none⟩)] w fun e w' => e = .returned (.tuple #[]) ∧ XR R ⟨l.toArray⟩ w' ∧ Kp w w' (· = R) := by
  have hT := Lib.hid (fun w => Any.strings_TrimLeft_laid Tryz.lays161 set225 ⟨l.toArray⟩ ⟨#[32, 9, 10, 13]⟩ w (by decide) (ascii_of_all (by decide)))
  obtain ⟨c0, c1, f0, f1⟩ := blk2 h
  have hlt := blk_lt h
  go_enter Tryz.func192, Tryz.ntmps192
  go_wp2_with fail
  refine (hT.out _).mono ?_
  rintro e w1 ⟨rfl, B1⟩
  have h1 := XR.below h B1
  obtain ⟨c0, c1, f0, f1⟩ := blk2 h1
  have hlt1 := blk_lt h1
  have he : (⟨(Lib.trimLeftS (⟨l.toArray⟩ : ByteArray).data.toList (⟨#[32, 9, 10, 13]⟩ : ByteArray).data.toList).toArray⟩ : ByteArray) = ⟨l.toArray⟩ := by
    show (⟨(Lib.trimLeftS l.toArray.toList [32, 9, 10, 13]).toArray⟩ : ByteArray) = _
    rw [show l.toArray.toList = l by simp, hl]
  rw [he]
  replace h1 := Lib.hid h1
  go_wp2_with fail
  go_end0
  exact ⟨rfl, blk_put h1.out 0 _ rfl, (Kp.of_below B1 (· = R)).trans (kp_one w1 R 0 _) (fun i hi => .inl hi)⟩
set_option maxHeartbeats 3200000 in
set_option maxRecDepth 100000 in
theorem xto_b (R : Nat) (w : World) (h : XR R ⟨#[98, 121, 116, 101, 115, 62, 48, 48, 60, 47, 98, 121, 116, 101, 115, 62, 60, 47, 116, 97, 103, 62]⟩ w) :
    Calls Tryz.prog 249 #[.pointer (some ⟨R, 0, none⟩), .int .u8 62] w fun e w' => e = .returned (.string ⟨#[98, 121, 116, 101, 115]⟩) ∧ XR R ⟨#[48, 48, 60, 47, 98, 121, 116, 101, 115, 62, 60, 47, 116, 97, 103, 62]⟩ w' ∧ Kp w w' (· = R) := by
  have hX := Lib.hid (fun w => (Tryz.strings_IndexByte ⟨#[98, 121, 116, 101, 115, 62, 48, 48, 60, 47, 98, 121, 116, 101, 115, 62, 60, 47, 116, 97, 103, 62]⟩ 62 w).mono (fun e w' h => (⟨h.1.trans (congrArg (fun i => Ending.returned (Value.int .i64 i)) (by decide +kernel)), h.2.symm⟩ : e = .returned (.int .i64 5) ∧ w = w')))
  have hI := Lib.hid xis_eq
  have e1 : (⟨#[98, 121, 116, 101, 115, 62, 48, 48, 60, 47, 98, 121, 116, 101, 115, 62, 60, 47, 116, 97, 103, 62]⟩ : ByteArray).extract 0 5 = ⟨#[98, 121, 116, 101, 115]⟩ := by rw [Lib.extract_eq]; rfl
  have e2 : (⟨#[98, 121, 116, 101, 115, 62, 48, 48, 60, 47, 98, 121, 116, 101, 115, 62, 60, 47, 116, 97, 103, 62]⟩ : ByteArray).extract 6 22 = ⟨#[48, 48, 60, 47, 98, 121, 116, 101, 115, 62, 60, 47, 116, 97, 103, 62]⟩ := by rw [Lib.extract_eq]; rfl
  obtain ⟨c0, c1, f0, f1⟩ := blk2 h
  have hlt := blk_lt h
  replace h := Lib.hid h
  go_enter Tryz.func249, Tryz.ntmps249
  go_wp2_with fail
  refine (hX.out _).mono ?_
  rintro e w1 ⟨rfl, rfl⟩
  go_wp2_with fail
  refine (hI.out _).mono ?_
  rintro e w1 ⟨rfl, rfl⟩
  go_wp2_with fail
  go_ret
  exact ⟨rfl, blk_put h.out 0 _ rfl, kp_one _ R 0 _⟩
set_option maxHeartbeats 3200000 in
set_option maxRecDepth 100000 in
theorem xto_c (R : Nat) (w : World) (h : XR R ⟨#[47, 98, 121, 116, 101, 115, 62, 60, 47, 116, 97, 103, 62]⟩ w) :
    Calls Tryz.prog 249 #[.pointer (some ⟨R, 0, none⟩), .int .u8 62] w fun e w' => e = .returned (.string ⟨#[47, 98, 121, 116, 101, 115]⟩) ∧ XR R ⟨#[60, 47, 116, 97, 103, 62]⟩ w' ∧ Kp w w' (· = R) := by
  have hX := Lib.hid (fun w => (Tryz.strings_IndexByte ⟨#[47, 98, 121, 116, 101, 115, 62, 60, 47, 116, 97, 103, 62]⟩ 62 w).mono (fun e w' h => (⟨h.1.trans (congrArg (fun i => Ending.returned (Value.int .i64 i)) (by decide +kernel)), h.2.symm⟩ : e = .returned (.int .i64 6) ∧ w = w')))
  have hI := Lib.hid xis_eq
  have e1 : (⟨#[47, 98, 121, 116, 101, 115, 62, 60, 47, 116, 97, 103, 62]⟩ : ByteArray).extract 0 6 = ⟨#[47, 98, 121, 116, 101, 115]⟩ := by rw [Lib.extract_eq]; rfl
  have e2 : (⟨#[47, 98, 121, 116, 101, 115, 62, 60, 47, 116, 97, 103, 62]⟩ : ByteArray).extract 7 13 = ⟨#[60, 47, 116, 97, 103, 62]⟩ := by rw [Lib.extract_eq]; rfl
  obtain ⟨c0, c1, f0, f1⟩ := blk2 h
  have hlt := blk_lt h
  replace h := Lib.hid h
  go_enter Tryz.func249, Tryz.ntmps249
  go_wp2_with fail
  refine (hX.out _).mono ?_
  rintro e w1 ⟨rfl, rfl⟩
  go_wp2_with fail
  refine (hI.out _).mono ?_
  rintro e w1 ⟨rfl, rfl⟩
  go_wp2_with fail
  go_ret
  exact ⟨rfl, blk_put h.out 0 _ rfl, kp_one _ R 0 _⟩
set_option maxHeartbeats 3200000 in
set_option maxRecDepth 100000 in
theorem xto_d (R : Nat) (w : World) (h : XR R ⟨#[47, 116, 97, 103, 62]⟩ w) :
    Calls Tryz.prog 249 #[.pointer (some ⟨R, 0, none⟩), .int .u8 62] w fun e w' => e = .returned (.string ⟨#[47, 116, 97, 103]⟩) ∧ XR R ⟨#[]⟩ w' ∧ Kp w w' (· = R) := by
  have hX := Lib.hid (fun w => (Tryz.strings_IndexByte ⟨#[47, 116, 97, 103, 62]⟩ 62 w).mono (fun e w' h => (⟨h.1.trans (congrArg (fun i => Ending.returned (Value.int .i64 i)) (by decide +kernel)), h.2.symm⟩ : e = .returned (.int .i64 4) ∧ w = w')))
  have hI := Lib.hid xis_eq
  have e1 : (⟨#[47, 116, 97, 103, 62]⟩ : ByteArray).extract 0 4 = ⟨#[47, 116, 97, 103]⟩ := by rw [Lib.extract_eq]; rfl
  have e2 : (⟨#[47, 116, 97, 103, 62]⟩ : ByteArray).extract 5 5 = ⟨#[]⟩ := by rw [Lib.extract_eq]; rfl
  obtain ⟨c0, c1, f0, f1⟩ := blk2 h
  have hlt := blk_lt h
  replace h := Lib.hid h
  go_enter Tryz.func249, Tryz.ntmps249
  go_wp2_with fail
  refine (hX.out _).mono ?_
  rintro e w1 ⟨rfl, rfl⟩
  go_wp2_with fail
  refine (hI.out _).mono ?_
  rintro e w1 ⟨rfl, rfl⟩
  go_wp2_with fail
  go_ret
  exact ⟨rfl, blk_put h.out 0 _ rfl, kp_one _ R 0 _⟩
set_option maxHeartbeats 3200000 in
set_option maxRecDepth 100000 in
theorem xtext (R : Nat) (w : World) (h : XR R ⟨#[48, 48, 60, 47, 98, 121, 116, 101, 115, 62, 60, 47, 116, 97, 103, 62]⟩ w) :
    Calls Tryz.prog 281 #[.pointer (some ⟨R, 0, none⟩)] w fun e w' => e = .returned (.string ⟨#[48, 48]⟩) ∧ XR R ⟨#[60, 47, 98, 121, 116, 101, 115, 62, 60, 47, 116, 97, 103, 62]⟩ w' ∧ Kp w w' (· = R) := by
  have hX := Lib.hid (fun w => (Tryz.strings_IndexByte ⟨#[48, 48, 60, 47, 98, 121, 116, 101, 115, 62, 60, 47, 116, 97, 103, 62]⟩ 60 w).mono (fun e w' h => (⟨h.1.trans (congrArg (fun i => Ending.returned (Value.int .i64 i)) (by decide +kernel)), h.2.symm⟩ : e = .returned (.int .i64 2) ∧ w = w')))
  have hI := Lib.hid xis_eq
  have e1 : (⟨#[48, 48, 60, 47, 98, 121, 116, 101, 115, 62, 60, 47, 116, 97, 103, 62]⟩ : ByteArray).extract 0 2 = ⟨#[48, 48]⟩ := by rw [Lib.extract_eq]; rfl
  have e2 : (⟨#[48, 48, 60, 47, 98, 121, 116, 101, 115, 62, 60, 47, 116, 97, 103, 62]⟩ : ByteArray).extract 2 16 = ⟨#[60, 47, 98, 121, 116, 101, 115, 62, 60, 47, 116, 97, 103, 62]⟩ := by rw [Lib.extract_eq]; rfl
  obtain ⟨c0, c1, f0, f1⟩ := blk2 h
  have hlt := blk_lt h
  replace h := Lib.hid h
  go_enter Tryz.func281, Tryz.ntmps281
  go_wp2_with fail
  refine (hX.out _).mono ?_
  rintro e w1 ⟨rfl, rfl⟩
  go_wp2_with fail
  refine (hI.out _).mono ?_
  rintro e w1 ⟨rfl, rfl⟩
  go_wp2_with fail
  go_ret
  exact ⟨rfl, blk_put h.out 0 _ rfl, kp_one _ R 0 _⟩
end Go.Proofs.YtcpgcjmamjjokaaGreatDoor
namespace Go.Proofs.YtcpgcjmamjjokaaGreatDoor
open Go.RowKit Go.Maps Go.Proofs.YtcpgcjmamjjokaaGreatDoorW.PrintWords Go.Proofs.YtcpgcjmamjjokaaGreatDoorW.PrintLast Go.Proofs.YtcpgcjmamjjokaaGreatDoorW.PrintMore Go.Proofs.YtcpgcjmamjjokaaGreatDoor.PTopLimits
set_option linter.unusedVariables false
set_option linter.unusedSimpArgs false
theorem cut_eq {a a' : List UInt8} {b b' : Bool} (h1 : a = a') (h2 : b = b') : Ending.returned (.tuple #[.string ⟨a.toArray⟩, .bool b]) = Ending.returned (.tuple #[.string ⟨a'.toArray⟩, .bool b']) := by rw [h1, h2]
set_option maxHeartbeats 6400000 in
set_option maxRecDepth 100000 in
theorem xmark_b (R : Nat) (w : World) (h : XR R ⟨#[60, 98, 121, 116, 101, 115, 62, 48, 48, 60, 47, 98, 121, 116, 101, 115, 62, 60, 47, 116, 97, 103, 62]⟩ w) :
    Calls Tryz.prog 194 #[.pointer (some ⟨R, 0, none⟩)] w fun e w' => e = .returned (.iface 314 (.string ⟨#[98, 121, 116, 101, 115]⟩)) ∧ XR R ⟨#[48, 48, 60, 47, 98, 121, 116, 101, 115, 62, 60, 47, 116, 97, 103, 62]⟩ w' ∧ Kp w w' (· = R) := by
  have hP := Lib.hid (fun w => (Tryz.strings_HasPrefix ⟨#[60, 98, 121, 116, 101, 115, 62, 48, 48, 60, 47, 98, 121, 116, 101, 115, 62, 60, 47, 116, 97, 103, 62]⟩ ⟨#[60]⟩ w).mono (fun e w' h => (⟨h.1.trans (congrArg (fun b => Ending.returned (Value.bool b)) (by decide +kernel)), h.2.symm⟩ : e = .returned (.bool true) ∧ w = w')))
  have hC1 := Lib.hid (fun w => (Tryz.strings_CutPrefix ⟨#[98, 121, 116, 101, 115, 62, 48, 48, 60, 47, 98, 121, 116, 101, 115, 62, 60, 47, 116, 97, 103, 62]⟩ ⟨#[116, 97, 103, 32, 110, 97, 109, 101, 61, 34]⟩ w).mono (fun e w' h => (⟨h.1.trans (cut_eq (by decide +kernel) (by decide +kernel)), h.2.symm⟩ : e = .returned (.tuple #[.string ⟨#[98, 121, 116, 101, 115, 62, 48, 48, 60, 47, 98, 121, 116, 101, 115, 62, 60, 47, 116, 97, 103, 62]⟩, .bool false]) ∧ w = w')))
  have hC2 := Lib.hid (fun w => (Tryz.strings_CutPrefix ⟨#[98, 121, 116, 101, 115, 62, 48, 48, 60, 47, 98, 121, 116, 101, 115, 62, 60, 47, 116, 97, 103, 62]⟩ ⟨#[102, 105, 101, 108, 100, 32, 110, 97, 109, 101, 61, 34]⟩ w).mono (fun e w' h => (⟨h.1.trans (cut_eq (by decide +kernel) (by decide +kernel)), h.2.symm⟩ : e = .returned (.tuple #[.string ⟨#[98, 121, 116, 101, 115, 62, 48, 48, 60, 47, 98, 121, 116, 101, 115, 62, 60, 47, 116, 97, 103, 62]⟩, .bool false]) ∧ w = w')))
  have hC3 := Lib.hid (fun w => (Tryz.strings_CutPrefix ⟨#[98, 121, 116, 101, 115]⟩ ⟨#[47]⟩ w).mono (fun e w' h => (⟨h.1.trans (cut_eq (by decide +kernel) (by decide +kernel)), h.2.symm⟩ : e = .returned (.tuple #[.string ⟨#[98, 121, 116, 101, 115]⟩, .bool false]) ∧ w = w')))
  have hC4 := Lib.hid (fun w => (Tryz.strings_CutSuffix ⟨#[98, 121, 116, 101, 115]⟩ ⟨#[47]⟩ w (by decide +kernel)).mono (fun e w' h => (⟨h.1.trans (cut_eq (by decide +kernel) (by decide +kernel)), h.2.symm⟩ : e = .returned (.tuple #[.string ⟨#[98, 121, 116, 101, 115]⟩, .bool false]) ∧ w = w')))
  have hTo := Lib.hid (fun w h => xto_b R w h)
  have hI := Lib.hid xis_eq
  have e1 : (⟨#[60, 98, 121, 116, 101, 115, 62, 48, 48, 60, 47, 98, 121, 116, 101, 115, 62, 60, 47, 116, 97, 103, 62]⟩ : ByteArray).extract 1 23 = ⟨#[98, 121, 116, 101, 115, 62, 48, 48, 60, 47, 98, 121, 116, 101, 115, 62, 60, 47, 116, 97, 103, 62]⟩ := by rw [Lib.extract_eq]; rfl
  obtain ⟨rc0, rc1, rf0, rf1⟩ := blk2 h
  have hRl := blk_lt h
  replace h := Lib.hid h
  go_enter Tryz.func194, Tryz.ntmps194
  go_wp2_with fail
  refine (hP.out _).mono ?_
  rintro e w1 ⟨rfl, rfl⟩
  go_wp2_with fail
  refine (hI.out _).mono ?_
  rintro e w1 ⟨rfl, rfl⟩
  go_wp2_with fail
  generalize hw2 : World.alloc _ _ = w2
  obtain ⟨j2, t2, K2⟩ : XR R ⟨#[98, 121, 116, 101, 115, 62, 48, 48, 60, 47, 98, 121, 116, 101, 115, 62, 60, 47, 116, 97, 103, 62]⟩ w2 ∧ w2.heap[w.heap.size]? = some (.cells #[.string ⟨#[116, 97, 103]⟩, .string ⟨#[102, 105, 101, 108, 100]⟩] 9 (0, 0)) ∧ Kp w w2 (· = R) := by
    rw [← hw2]
    have k := kp_one w R 0 (.string ⟨#[98, 121, 116, 101, 115, 62, 48, 48, 60, 47, 98, 121, 116, 101, 115, 62, 60, 47, 116, 97, 103, 62]⟩)
    refine ⟨XR.below (blk_put h.out 0 _ rfl) (below_alloc (Below.refl _ _) _), ?_, k.alloc _⟩
    have h3 := heap_alloc_new (w.setCell ⟨R, 0, none⟩ (.string ⟨#[98, 121, 116, 101, 115, 62, 48, 48, 60, 47, 98, 121, 116, 101, 115, 62, 60, 47, 116, 97, 103, 62]⟩)) (.cells #[.string ⟨#[116, 97, 103]⟩, .string ⟨#[102, 105, 101, 108, 100]⟩] 9 (0, 0))
    rw [show (w.setCell ⟨R, 0, none⟩ (.string ⟨#[98, 121, 116, 101, 115, 62, 48, 48, 60, 47, 98, 121, 116, 101, 115, 62, 60, 47, 116, 97, 103, 62]⟩)).heap.size = w.heap.size by simp] at h3
    exact h3
  clear hw2 h rc0 rc1 rf0 rf1
  have hT2 := blk_lt t2
  obtain ⟨L, hL⟩ : ∃ L, w.heap.size = L := ⟨_, rfl⟩
  rw [hL] at t2 hT2 hRl
  rw [hL]
  replace hL := Lib.hid hL
  obtain ⟨rc0, rc1, rf0, rf1⟩ := blk2 j2
  obtain ⟨tc0, tc1, tf0, tf1⟩ := blk2 t2
  have hR2 := blk_lt j2
  replace j2 := Lib.hid j2
  replace t2 := Lib.hid t2
  replace K2 := Lib.hid K2
  refine wp_loop_rounds 3 ?_
  rw [rounds_succ]
  go_wp2_with fail
  refine (hC1.out _).mono ?_
  rintro e w3 ⟨rfl, rfl⟩
  go_wp2_with fail
  rw [rounds_succ]
  go_wp2_with fail
  refine (hC2.out _).mono ?_
  rintro e w3 ⟨rfl, rfl⟩
  go_wp2_with fail
  rw [rounds_succ]
  go_wp2_with fail
  refine (hTo.out _ j2.out).mono ?_
  rintro e w3 ⟨rfl, j3, q⟩
  have K3 := Lib.hid (K2.out.trans q (fun _ hi => .inl hi))
  clear q j2 t2 K2 rc0 rc1 rf0 rf1 tc0 tc1 tf0 tf1 hR2 hT2
  replace j3 := Lib.hid j3
  go_wp2_with fail
  refine (hC3.out _).mono ?_
  rintro e w4 ⟨rfl, rfl⟩
  go_wp2_with fail
  refine (hC4.out _).mono ?_
  rintro e w5 ⟨rfl, rfl⟩
  go_wp2_with fail
  go_ret
  exact ⟨rfl, j3.out, K3.out⟩
set_option maxHeartbeats 6400000 in
set_option maxRecDepth 100000 in
theorem xmark_c (R : Nat) (w : World) (h : XR R ⟨#[60, 47, 98, 121, 116, 101, 115, 62, 60, 47, 116, 97, 103, 62]⟩ w) :
    Calls Tryz.prog 194 #[.pointer (some ⟨R, 0, none⟩)] w fun e w' => e = .returned (.iface 316 (.string ⟨#[98, 121, 116, 101, 115]⟩)) ∧ XR R ⟨#[60, 47, 116, 97, 103, 62]⟩ w' ∧ Kp w w' (· = R) := by
  have hP := Lib.hid (fun w => (Tryz.strings_HasPrefix ⟨#[60, 47, 98, 121, 116, 101, 115, 62, 60, 47, 116, 97, 103, 62]⟩ ⟨#[60]⟩ w).mono (fun e w' h => (⟨h.1.trans (congrArg (fun b => Ending.returned (Value.bool b)) (by decide +kernel)), h.2.symm⟩ : e = .returned (.bool true) ∧ w = w')))
  have hC1 := Lib.hid (fun w => (Tryz.strings_CutPrefix ⟨#[47, 98, 121, 116, 101, 115, 62, 60, 47, 116, 97, 103, 62]⟩ ⟨#[116, 97, 103, 32, 110, 97, 109, 101, 61, 34]⟩ w).mono (fun e w' h => (⟨h.1.trans (cut_eq (by decide +kernel) (by decide +kernel)), h.2.symm⟩ : e = .returned (.tuple #[.string ⟨#[47, 98, 121, 116, 101, 115, 62, 60, 47, 116, 97, 103, 62]⟩, .bool false]) ∧ w = w')))
  have hC2 := Lib.hid (fun w => (Tryz.strings_CutPrefix ⟨#[47, 98, 121, 116, 101, 115, 62, 60, 47, 116, 97, 103, 62]⟩ ⟨#[102, 105, 101, 108, 100, 32, 110, 97, 109, 101, 61, 34]⟩ w).mono (fun e w' h => (⟨h.1.trans (cut_eq (by decide +kernel) (by decide +kernel)), h.2.symm⟩ : e = .returned (.tuple #[.string ⟨#[47, 98, 121, 116, 101, 115, 62, 60, 47, 116, 97, 103, 62]⟩, .bool false]) ∧ w = w')))
  have hC3 := Lib.hid (fun w => (Tryz.strings_CutPrefix ⟨#[47, 98, 121, 116, 101, 115]⟩ ⟨#[47]⟩ w).mono (fun e w' h => (⟨h.1.trans (cut_eq (by decide +kernel) (by decide +kernel)), h.2.symm⟩ : e = .returned (.tuple #[.string ⟨#[98, 121, 116, 101, 115]⟩, .bool true]) ∧ w = w')))
  have hTo := Lib.hid (fun w h => xto_c R w h)
  have hI := Lib.hid xis_eq
  have e1 : (⟨#[60, 47, 98, 121, 116, 101, 115, 62, 60, 47, 116, 97, 103, 62]⟩ : ByteArray).extract 1 14 = ⟨#[47, 98, 121, 116, 101, 115, 62, 60, 47, 116, 97, 103, 62]⟩ := by rw [Lib.extract_eq]; rfl
  obtain ⟨rc0, rc1, rf0, rf1⟩ := blk2 h
  have hRl := blk_lt h
  replace h := Lib.hid h
  go_enter Tryz.func194, Tryz.ntmps194
  go_wp2_with fail
  refine (hP.out _).mono ?_
  rintro e w1 ⟨rfl, rfl⟩
  go_wp2_with fail
  refine (hI.out _).mono ?_
  rintro e w1 ⟨rfl, rfl⟩
  go_wp2_with fail
  generalize hw2 : World.alloc _ _ = w2
  obtain ⟨j2, t2, K2⟩ : XR R ⟨#[47, 98, 121, 116, 101, 115, 62, 60, 47, 116, 97, 103, 62]⟩ w2 ∧ w2.heap[w.heap.size]? = some (.cells #[.string ⟨#[116, 97, 103]⟩, .string ⟨#[102, 105, 101, 108, 100]⟩] 9 (0, 0)) ∧ Kp w w2 (· = R) := by
    rw [← hw2]
    have k := kp_one w R 0 (.string ⟨#[47, 98, 121, 116, 101, 115, 62, 60, 47, 116, 97, 103, 62]⟩)
    refine ⟨XR.below (blk_put h.out 0 _ rfl) (below_alloc (Below.refl _ _) _), ?_, k.alloc _⟩
    have h3 := heap_alloc_new (w.setCell ⟨R, 0, none⟩ (.string ⟨#[47, 98, 121, 116, 101, 115, 62, 60, 47, 116, 97, 103, 62]⟩)) (.cells #[.string ⟨#[116, 97, 103]⟩, .string ⟨#[102, 105, 101, 108, 100]⟩] 9 (0, 0))
    rw [show (w.setCell ⟨R, 0, none⟩ (.string ⟨#[47, 98, 121, 116, 101, 115, 62, 60, 47, 116, 97, 103, 62]⟩)).heap.size = w.heap.size by simp] at h3
    exact h3
  clear hw2 h rc0 rc1 rf0 rf1
  have hT2 := blk_lt t2
  obtain ⟨L, hL⟩ : ∃ L, w.heap.size = L := ⟨_, rfl⟩
  rw [hL] at t2 hT2 hRl
  rw [hL]
  replace hL := Lib.hid hL
  obtain ⟨rc0, rc1, rf0, rf1⟩ := blk2 j2
  obtain ⟨tc0, tc1, tf0, tf1⟩ := blk2 t2
  have hR2 := blk_lt j2
  replace j2 := Lib.hid j2
  replace t2 := Lib.hid t2
  replace K2 := Lib.hid K2
  refine wp_loop_rounds 3 ?_
  rw [rounds_succ]
  go_wp2_with fail
  refine (hC1.out _).mono ?_
  rintro e w3 ⟨rfl, rfl⟩
  go_wp2_with fail
  rw [rounds_succ]
  go_wp2_with fail
  refine (hC2.out _).mono ?_
  rintro e w3 ⟨rfl, rfl⟩
  go_wp2_with fail
  rw [rounds_succ]
  go_wp2_with fail
  refine (hTo.out _ j2.out).mono ?_
  rintro e w3 ⟨rfl, j3, q⟩
  have K3 := Lib.hid (K2.out.trans q (fun _ hi => .inl hi))
  clear q j2 t2 K2 rc0 rc1 rf0 rf1 tc0 tc1 tf0 tf1 hR2 hT2
  replace j3 := Lib.hid j3
  go_wp2_with fail
  refine (hC3.out _).mono ?_
  rintro e w4 ⟨rfl, rfl⟩
  go_wp2_with fail
  go_ret
  exact ⟨rfl, j3.out, K3.out⟩
set_option maxHeartbeats 6400000 in
set_option maxRecDepth 100000 in
theorem xmark_d (R : Nat) (w : World) (h : XR R ⟨#[60, 47, 116, 97, 103, 62]⟩ w) :
    Calls Tryz.prog 194 #[.pointer (some ⟨R, 0, none⟩)] w fun e w' => e = .returned (.iface 316 (.string ⟨#[116, 97, 103]⟩)) ∧ XR R ⟨#[]⟩ w' ∧ Kp w w' (· = R) := by
  have hP := Lib.hid (fun w => (Tryz.strings_HasPrefix ⟨#[60, 47, 116, 97, 103, 62]⟩ ⟨#[60]⟩ w).mono (fun e w' h => (⟨h.1.trans (congrArg (fun b => Ending.returned (Value.bool b)) (by decide +kernel)), h.2.symm⟩ : e = .returned (.bool true) ∧ w = w')))
  have hC1 := Lib.hid (fun w => (Tryz.strings_CutPrefix ⟨#[47, 116, 97, 103, 62]⟩ ⟨#[116, 97, 103, 32, 110, 97, 109, 101, 61, 34]⟩ w).mono (fun e w' h => (⟨h.1.trans (cut_eq (by decide +kernel) (by decide +kernel)), h.2.symm⟩ : e = .returned (.tuple #[.string ⟨#[47, 116, 97, 103, 62]⟩, .bool false]) ∧ w = w')))
  have hC2 := Lib.hid (fun w => (Tryz.strings_CutPrefix ⟨#[47, 116, 97, 103, 62]⟩ ⟨#[102, 105, 101, 108, 100, 32, 110, 97, 109, 101, 61, 34]⟩ w).mono (fun e w' h => (⟨h.1.trans (cut_eq (by decide +kernel) (by decide +kernel)), h.2.symm⟩ : e = .returned (.tuple #[.string ⟨#[47, 116, 97, 103, 62]⟩, .bool false]) ∧ w = w')))
  have hC3 := Lib.hid (fun w => (Tryz.strings_CutPrefix ⟨#[47, 116, 97, 103]⟩ ⟨#[47]⟩ w).mono (fun e w' h => (⟨h.1.trans (cut_eq (by decide +kernel) (by decide +kernel)), h.2.symm⟩ : e = .returned (.tuple #[.string ⟨#[116, 97, 103]⟩, .bool true]) ∧ w = w')))
  have hTo := Lib.hid (fun w h => xto_d R w h)
  have hI := Lib.hid xis_eq
  have e1 : (⟨#[60, 47, 116, 97, 103, 62]⟩ : ByteArray).extract 1 6 = ⟨#[47, 116, 97, 103, 62]⟩ := by rw [Lib.extract_eq]; rfl
  obtain ⟨rc0, rc1, rf0, rf1⟩ := blk2 h
  have hRl := blk_lt h
  replace h := Lib.hid h
  go_enter Tryz.func194, Tryz.ntmps194
  go_wp2_with fail
  refine (hP.out _).mono ?_
  rintro e w1 ⟨rfl, rfl⟩
  go_wp2_with fail
  refine (hI.out _).mono ?_
  rintro e w1 ⟨rfl, rfl⟩
  go_wp2_with fail
  generalize hw2 : World.alloc _ _ = w2
  obtain ⟨j2, t2, K2⟩ : XR R ⟨#[47, 116, 97, 103, 62]⟩ w2 ∧ w2.heap[w.heap.size]? = some (.cells #[.string ⟨#[116, 97, 103]⟩, .string ⟨#[102, 105, 101, 108, 100]⟩] 9 (0, 0)) ∧ Kp w w2 (· = R) := by
    rw [← hw2]
    have k := kp_one w R 0 (.string ⟨#[47, 116, 97, 103, 62]⟩)
    refine ⟨XR.below (blk_put h.out 0 _ rfl) (below_alloc (Below.refl _ _) _), ?_, k.alloc _⟩
    have h3 := heap_alloc_new (w.setCell ⟨R, 0, none⟩ (.string ⟨#[47, 116, 97, 103, 62]⟩)) (.cells #[.string ⟨#[116, 97, 103]⟩, .string ⟨#[102, 105, 101, 108, 100]⟩] 9 (0, 0))
    rw [show (w.setCell ⟨R, 0, none⟩ (.string ⟨#[47, 116, 97, 103, 62]⟩)).heap.size = w.heap.size by simp] at h3
    exact h3
  clear hw2 h rc0 rc1 rf0 rf1
  have hT2 := blk_lt t2
  obtain ⟨L, hL⟩ : ∃ L, w.heap.size = L := ⟨_, rfl⟩
  rw [hL] at t2 hT2 hRl
  rw [hL]
  replace hL := Lib.hid hL
  obtain ⟨rc0, rc1, rf0, rf1⟩ := blk2 j2
  obtain ⟨tc0, tc1, tf0, tf1⟩ := blk2 t2
  have hR2 := blk_lt j2
  replace j2 := Lib.hid j2
  replace t2 := Lib.hid t2
  replace K2 := Lib.hid K2
  refine wp_loop_rounds 3 ?_
  rw [rounds_succ]
  go_wp2_with fail
  refine (hC1.out _).mono ?_
  rintro e w3 ⟨rfl, rfl⟩
  go_wp2_with fail
  rw [rounds_succ]
  go_wp2_with fail
  refine (hC2.out _).mono ?_
  rintro e w3 ⟨rfl, rfl⟩
  go_wp2_with fail
  rw [rounds_succ]
  go_wp2_with fail
  refine (hTo.out _ j2.out).mono ?_
  rintro e w3 ⟨rfl, j3, q⟩
  have K3 := Lib.hid (K2.out.trans q (fun _ hi => .inl hi))
  clear q j2 t2 K2 rc0 rc1 rf0 rf1 tc0 tc1 tf0 tf1 hR2 hT2
  replace j3 := Lib.hid j3
  go_wp2_with fail
  refine (hC3.out _).mono ?_
  rintro e w4 ⟨rfl, rfl⟩
  go_wp2_with fail
  go_ret
  exact ⟨rfl, j3.out, K3.out⟩
end Go.Proofs.YtcpgcjmamjjokaaGreatDoor
namespace Go.Proofs.YtcpgcjmamjjokaaGreatDoor
open Go.RowKit Go.Maps Go.Proofs.YtcpgcjmamjjokaaGreatDoorW.PrintWords Go.Proofs.YtcpgcjmamjjokaaGreatDoorW.PrintLast Go.Proofs.YtcpgcjmamjjokaaGreatDoorW.PrintMore Go.Proofs.YtcpgcjmamjjokaaGreatDoor.PTopLimits
set_option linter.unusedVariables false
set_option linter.unusedSimpArgs false
set_option maxHeartbeats 6400000 in
set_option maxRecDepth 100000 in
theorem xchars (R : Nat) (w : World) (h : XR R ⟨#[116, 34, 62, 60, 98, 121, 116, 101, 115, 62, 48, 48, 60, 47, 98, 121, 116, 101, 115, 62, 60, 47, 116, 97, 103, 62]⟩ w) (hT : Lib.Utf8Tabs 0 1 w) (hR : 2 ≤ R) :
    Calls Tryz.prog 248 #[.pointer (some ⟨R, 0, none⟩)] w fun e w' => e = .returned (.string ⟨#[116]⟩) ∧ XR R ⟨#[34, 62, 60, 98, 121, 116, 101, 115, 62, 48, 48, 60, 47, 98, 121, 116, 101, 115, 62, 60, 47, 116, 97, 103, 62]⟩ w' ∧ Kp w w' (· = R) := by
  have hI := Lib.hid xis_eq
  have hw := Lib.hid (fun B l c w h hl => wb_any B l c w h hl)
  have hSt := Lib.hid (fun B l w h => st_any B l w h)
  have hVd := Lib.hid (fun w hT => Valid_any ⟨#[116]⟩ (by decide) w hT)
  have hv : Lib.validD (⟨#[116]⟩ : ByteArray).data.toList = true := by decide +kernel
  have e1 : (⟨#[116, 34, 62, 60, 98, 121, 116, 101, 115, 62, 48, 48, 60, 47, 98, 121, 116, 101, 115, 62, 60, 47, 116, 97, 103, 62]⟩ : ByteArray).extract 1 26 = ⟨#[34, 62, 60, 98, 121, 116, 101, 115, 62, 48, 48, 60, 47, 98, 121, 116, 101, 115, 62, 60, 47, 116, 97, 103, 62]⟩ := by rw [Lib.extract_eq]; rfl
  replace h := Lib.hid h
  replace hT := Lib.hid hT
  go_enter Tryz.func248, Tryz.ntmps248
  go_wp2_with fail
  generalize hw1 : World.alloc w _ = w1
  obtain ⟨B, hB⟩ : ∃ B, w.heap.size = B := ⟨_, rfl⟩
  rw [hB]
  obtain ⟨j1, b1, K1, hwB⟩ : XR R ⟨#[116, 34, 62, 60, 98, 121, 116, 101, 115, 62, 48, 48, 60, 47, 98, 121, 116, 101, 115, 62, 60, 47, 116, 97, 103, 62]⟩ w1 ∧ Bld B [] w1 ∧ Kp w w1 (· = R) ∧ w.heap.size ≤ B := by
    subst hw1 hB
    exact ⟨h.out.below (below_alloc (Below.refl _ _) _), Bld.fresh _, (Kp.refl w _).alloc _, Nat.le_refl _⟩
  have hRB : R < B := by rw [← hB]; exact blk_lt h.out
  clear hw1 hB h
  replace K1 := Lib.hid K1
  replace b1 := Lib.hid b1
  replace hwB := Lib.hid hwB
  obtain ⟨rc0, rc1, rf0, rf1⟩ := blk2 j1
  have hR1 := blk_lt j1
  replace j1 := Lib.hid j1
  refine wp_loop_rounds 2 ?_
  rw [rounds_succ]
  go_wp2_with fail
  refine (hw.out B [] 116 _ b1.out (by decide)).mono ?_
  rintro e w2 ⟨rfl, b2, O2⟩
  have j2 : XR R ⟨#[116, 34, 62, 60, 98, 121, 116, 101, 115, 62, 48, 48, 60, 47, 98, 121, 116, 101, 115, 62, 60, 47, 116, 97, 103, 62]⟩ w2 := O2.heap j1.out (by omega) (by decide)
  have K2 := K1.out.b O2.b hwB.out
  clear O2 j1 b1 K1 rc0 rc1 rf0 rf1 hR1
  obtain ⟨rc0, rc1, rf0, rf1⟩ := blk2 j2
  have hR2 := blk_lt j2
  replace j2 := Lib.hid j2
  go_wp2_with fail
  generalize hw3 : World.setCell w2 _ _ = w3
  obtain ⟨j3, b3, K3⟩ : XR R ⟨#[34, 62, 60, 98, 121, 116, 101, 115, 62, 48, 48, 60, 47, 98, 121, 116, 101, 115, 62, 60, 47, 116, 97, 103, 62]⟩ w3 ∧ Bld B [116] w3 ∧ Kp w w3 (· = R) := by
    rw [← hw3]
    exact ⟨blk_put j2.out 0 _ rfl, b2.far hRB, K2.trans (kp_one w2 R 0 _) (fun i hi => .inl hi)⟩
  clear hw3 j2 b2 K2 rc0 rc1 rf0 rf1 hR2
  obtain ⟨rc0, rc1, rf0, rf1⟩ := blk2 j3
  have hR3 := blk_lt j3
  replace j3 := Lib.hid j3
  replace K3 := Lib.hid K3
  replace b3 := Lib.hid b3
  rw [rounds_succ]
  go_wp2_with fail
  refine (hSt.out B _ _ b3.out).mono ?_
  rintro e w4 ⟨rfl, b4, O4⟩
  have j4 : XR R ⟨#[34, 62, 60, 98, 121, 116, 101, 115, 62, 48, 48, 60, 47, 98, 121, 116, 101, 115, 62, 60, 47, 116, 97, 103, 62]⟩ w4 := O4.heap j3.out (by omega) (by decide)
  have K4 := K3.out.b O4.b hwB.out
  have hT4 := K4.tabs hT.out (by omega) (by omega)
  clear O4 j3 b3 K3 rc0 rc1 rf0 rf1 hR3
  replace j4 := Lib.hid j4
  replace b4 := Lib.hid b4
  replace K4 := Lib.hid K4
  replace hT4 := Lib.hid hT4
  go_wp2_with fail
  refine (hVd.out _ hT4.out).mono ?_
  rintro e w5 ⟨rfl, B5⟩
  rw [hv]
  have j5 := Lib.hid (j4.out.below B5)
  have b5 := Lib.hid (b4.out.below B5)
  have K5 := Lib.hid (K4.out.below B5)
  clear j4 b4 K4 hT4 B5
  go_wp2_with fail
  refine (hI.out _).mono ?_
  rintro e w6 ⟨rfl, rfl⟩
  go_wp2_with fail
  refine (hSt.out B _ _ b5.out).mono ?_
  rintro e w6 ⟨rfl, b6, O6⟩
  have j6 : XR R ⟨#[34, 62, 60, 98, 121, 116, 101, 115, 62, 48, 48, 60, 47, 98, 121, 116, 101, 115, 62, 60, 47, 116, 97, 103, 62]⟩ w6 := O6.heap j5.out (by omega) (by decide)
  have K6 := K5.out.b O6.b hwB.out
  go_wp2_with fail
  go_ret
  exact ⟨rfl, j6, K6⟩
set_option maxHeartbeats 6400000 in
set_option maxRecDepth 100000 in
theorem xmark_a (R : Nat) (w : World) (h : XR R ⟨#[60, 116, 97, 103, 32, 110, 97, 109, 101, 61, 34, 116, 34, 62, 60, 98, 121, 116, 101, 115, 62, 48, 48, 60, 47, 98, 121, 116, 101, 115, 62, 60, 47, 116, 97, 103, 62]⟩ w) (hT : Lib.Utf8Tabs 0 1 w) (hR : 2 ≤ R) :
    Calls Tryz.prog 194 #[.pointer (some ⟨R, 0, none⟩)] w fun e w' => e = .returned (.iface 313 (.agg #[.string ⟨#[116, 97, 103]⟩, .string ⟨#[116]⟩])) ∧ XR R ⟨#[60, 98, 121, 116, 101, 115, 62, 48, 48, 60, 47, 98, 121, 116, 101, 115, 62, 60, 47, 116, 97, 103, 62]⟩ w' ∧ Kp w w' (· = R) := by
  have hP := Lib.hid (fun w => (Tryz.strings_HasPrefix ⟨#[60, 116, 97, 103, 32, 110, 97, 109, 101, 61, 34, 116, 34, 62, 60, 98, 121, 116, 101, 115, 62, 48, 48, 60, 47, 98, 121, 116, 101, 115, 62, 60, 47, 116, 97, 103, 62]⟩ ⟨#[60]⟩ w).mono (fun e w' h => (⟨h.1.trans (congrArg (fun b => Ending.returned (Value.bool b)) (by decide +kernel)), h.2.symm⟩ : e = .returned (.bool true) ∧ w = w')))
  have hC1 := Lib.hid (fun w => (Tryz.strings_CutPrefix ⟨#[116, 97, 103, 32, 110, 97, 109, 101, 61, 34, 116, 34, 62, 60, 98, 121, 116, 101, 115, 62, 48, 48, 60, 47, 98, 121, 116, 101, 115, 62, 60, 47, 116, 97, 103, 62]⟩ ⟨#[116, 97, 103, 32, 110, 97, 109, 101, 61, 34]⟩ w).mono (fun e w' h => (⟨h.1.trans (cut_eq (by decide +kernel) (by decide +kernel)), h.2.symm⟩ : e = .returned (.tuple #[.string ⟨#[116, 34, 62, 60, 98, 121, 116, 101, 115, 62, 48, 48, 60, 47, 98, 121, 116, 101, 115, 62, 60, 47, 116, 97, 103, 62]⟩, .bool true]) ∧ w = w')))
  have hP2 := Lib.hid (fun w => (Tryz.strings_HasPrefix ⟨#[34, 62, 60, 98, 121, 116, 101, 115, 62, 48, 48, 60, 47, 98, 121, 116, 101, 115, 62, 60, 47, 116, 97, 103, 62]⟩ ⟨#[34, 62]⟩ w).mono (fun e w' h => (⟨h.1.trans (congrArg (fun b => Ending.returned (Value.bool b)) (by decide +kernel)), h.2.symm⟩ : e = .returned (.bool true) ∧ w = w')))
  have hCh := Lib.hid (fun w h hT => xchars R w h hT hR)
  have hI := Lib.hid xis_eq
  have e1 : (⟨#[60, 116, 97, 103, 32, 110, 97, 109, 101, 61, 34, 116, 34, 62, 60, 98, 121, 116, 101, 115, 62, 48, 48, 60, 47, 98, 121, 116, 101, 115, 62, 60, 47, 116, 97, 103, 62]⟩ : ByteArray).extract 1 37 = ⟨#[116, 97, 103, 32, 110, 97, 109, 101, 61, 34, 116, 34, 62, 60, 98, 121, 116, 101, 115, 62, 48, 48, 60, 47, 98, 121, 116, 101, 115, 62, 60, 47, 116, 97, 103, 62]⟩ := by rw [Lib.extract_eq]; rfl
  have e2 : (⟨#[34, 62, 60, 98, 121, 116, 101, 115, 62, 48, 48, 60, 47, 98, 121, 116, 101, 115, 62, 60, 47, 116, 97, 103, 62]⟩ : ByteArray).extract 2 25 = ⟨#[60, 98, 121, 116, 101, 115, 62, 48, 48, 60, 47, 98, 121, 116, 101, 115, 62, 60, 47, 116, 97, 103, 62]⟩ := by rw [Lib.extract_eq]; rfl
  obtain ⟨rc0, rc1, rf0, rf1⟩ := blk2 h
  have hRl := blk_lt h
  replace h := Lib.hid h
  replace hT := Lib.hid hT
  go_enter Tryz.func194, Tryz.ntmps194
  go_wp2_with fail
  refine (hP.out _).mono ?_
  rintro e w1 ⟨rfl, rfl⟩
  go_wp2_with fail
  refine (hI.out _).mono ?_
  rintro e w1 ⟨rfl, rfl⟩
  go_wp2_with fail
  generalize hw2 : World.alloc _ _ = w2
  obtain ⟨j2, t2, K2⟩ : XR R ⟨#[116, 97, 103, 32, 110, 97, 109, 101, 61, 34, 116, 34, 62, 60, 98, 121, 116, 101, 115, 62, 48, 48, 60, 47, 98, 121, 116, 101, 115, 62, 60, 47, 116, 97, 103, 62]⟩ w2 ∧ w2.heap[w.heap.size]? = some (.cells #[.string ⟨#[116, 97, 103]⟩, .string ⟨#[102, 105, 101, 108, 100]⟩] 9 (0, 0)) ∧ Kp w w2 (· = R) := by
    rw [← hw2]
    have k := kp_one w R 0 (.string ⟨#[116, 97, 103, 32, 110, 97, 109, 101, 61, 34, 116, 34, 62, 60, 98, 121, 116, 101, 115, 62, 48, 48, 60, 47, 98, 121, 116, 101, 115, 62, 60, 47, 116, 97, 103, 62]⟩)
    refine ⟨XR.below (blk_put h.out 0 _ rfl) (below_alloc (Below.refl _ _) _), ?_, k.alloc _⟩
    have h3 := heap_alloc_new (w.setCell ⟨R, 0, none⟩ (.string ⟨#[116, 97, 103, 32, 110, 97, 109, 101, 61, 34, 116, 34, 62, 60, 98, 121, 116, 101, 115, 62, 48, 48, 60, 47, 98, 121, 116, 101, 115, 62, 60, 47, 116, 97, 103, 62]⟩)) (.cells #[.string ⟨#[116, 97, 103]⟩, .string ⟨#[102, 105, 101, 108, 100]⟩] 9 (0, 0))
    rw [show (w.setCell ⟨R, 0, none⟩ (.string ⟨#[116, 97, 103, 32, 110, 97, 109, 101, 61, 34, 116, 34, 62, 60, 98, 121, 116, 101, 115, 62, 48, 48, 60, 47, 98, 121, 116, 101, 115, 62, 60, 47, 116, 97, 103, 62]⟩)).heap.size = w.heap.size by simp] at h3
    exact h3
  clear hw2 h rc0 rc1 rf0 rf1
  have hT2 := blk_lt t2
  obtain ⟨L, hL⟩ : ∃ L, w.heap.size = L := ⟨_, rfl⟩
  rw [hL] at t2 hT2 hRl
  rw [hL]
  replace hL := Lib.hid hL
  obtain ⟨rc0, rc1, rf0, rf1⟩ := blk2 j2
  obtain ⟨tc0, tc1, tf0, tf1⟩ := blk2 t2
  have hR2 := blk_lt j2
  replace j2 := Lib.hid j2
  replace t2 := Lib.hid t2
  refine wp_loop_rounds 1 ?_
  rw [rounds_succ]
  go_wp2_with fail
  refine (hC1.out _).mono ?_
  rintro e w3 ⟨rfl, rfl⟩
  go_wp2_with fail
  generalize hw3 : World.setCell w2 _ _ = w3
  obtain ⟨j3, K3⟩ : XR R ⟨#[116, 34, 62, 60, 98, 121, 116, 101, 115, 62, 48, 48, 60, 47, 98, 121, 116, 101, 115, 62, 60, 47, 116, 97, 103, 62]⟩ w3 ∧ Kp w w3 (· = R) := by
    rw [← hw3]
    exact ⟨blk_put j2.out 0 _ rfl, K2.trans (kp_one w2 R 0 _) (fun i hi => .inl hi)⟩
  clear hw3 K2 j2 t2 rc0 rc1 rf0 rf1 tc0 tc1 tf0 tf1 hR2 hT2
  refine (hCh.out _ j3 (K3.tabs hT.out (by omega) (by omega))).mono ?_
  rintro e w4 ⟨rfl, j4, q⟩
  have K4 := Lib.hid (K3.trans q (fun _ hi => .inl hi))
  clear q j3 K3
  obtain ⟨rc0, rc1, rf0, rf1⟩ := blk2 j4
  have hR4 := blk_lt j4
  replace j4 := Lib.hid j4
  go_wp2_with fail
  refine (hP2.out _).mono ?_
  rintro e w5 ⟨rfl, rfl⟩
  go_wp2_with fail
  refine (hI.out _).mono ?_
  rintro e w5 ⟨rfl, rfl⟩
  go_wp2_with fail
  go_ret
  exact ⟨rfl, blk_put j4.out 0 _ rfl, K4.out.trans (kp_one _ R 0 _) (fun i hi => .inl hi)⟩
theorem eql_ends (w : World) (a : ByteArray) : (binOp .eql 20 (.iface 316 (.string a)) (.iface 316 (.string a))).run Tryz.prog w = .ok (.bool true) w := by
  have ht := Tryz.underlying20
  have hx := Tryz.underlying316
  have hc : (Tryz.prog.info? 316).map (·.comparable) = some true := by kernel_rfl
  cases hi : Tryz.prog.info? 316 with
  | none => simp [hi] at hc
  | some i =>
    have hcc : i.comparable = true := by simpa [hi] using hc
    have h : ∀ d : Nat, (Op.equalIn (d + 2) 20 (.iface 316 (.string a)) (.iface 316 (.string a))).run Tryz.prog w = .ok true w := fun d => by
      simp [Op.equalIn, run_underlying ht, run_underlying hx, typeInfo, hi, hcc]
      first | exact (show (a.data == a.data) = true by simp) | exact decide_eq_true rfl | exact beq_self_eq_true a
    simp only [binOp]
    simp [Op.equal, Op.maxDepth, h 9998]
set_option maxHeartbeats 3200000 in
set_option maxRecDepth 100000 in
theorem xend_c (R : Nat) (w : World) (h : XR R ⟨#[60, 47, 98, 121, 116, 101, 115, 62, 60, 47, 116, 97, 103, 62]⟩ w) :
    Calls Tryz.prog 277 #[.pointer (some ⟨R, 0, none⟩), .string ⟨#[98, 121, 116, 101, 115]⟩] w fun e w' => e = .returned (.tuple #[]) ∧ XR R ⟨#[60, 47, 116, 97, 103, 62]⟩ w' ∧ Kp w w' (· = R) := by
  have hM := Lib.hid (fun w h => xmark_c R w h)
  have hI := Lib.hid xis_eq
  have hE := fun w => eql_ends w ⟨#[98, 121, 116, 101, 115]⟩
  replace h := Lib.hid h
  go_enter Tryz.func277, Tryz.ntmps277
  go_wp2_with fail
  refine (hM.out _ h.out).mono ?_
  rintro e w1 ⟨rfl, j1, K1⟩
  replace j1 := Lib.hid j1
  replace K1 := Lib.hid K1
  go_wp2_with fail
  refine (hI.out _).mono ?_
  rintro e w2 ⟨rfl, rfl⟩
  go_wp2_with fail
  go_end0
  exact ⟨rfl, j1.out, K1.out⟩
set_option maxHeartbeats 3200000 in
set_option maxRecDepth 100000 in
theorem xend_d (R : Nat) (w : World) (h : XR R ⟨#[60, 47, 116, 97, 103, 62]⟩ w) :
    Calls Tryz.prog 277 #[.pointer (some ⟨R, 0, none⟩), .string ⟨#[116, 97, 103]⟩] w fun e w' => e = .returned (.tuple #[]) ∧ XR R ⟨#[]⟩ w' ∧ Kp w w' (· = R) := by
  have hM := Lib.hid (fun w h => xmark_d R w h)
  have hI := Lib.hid xis_eq
  have hE := fun w => eql_ends w ⟨#[116, 97, 103]⟩
  replace h := Lib.hid h
  go_enter Tryz.func277, Tryz.ntmps277
  go_wp2_with fail
  refine (hM.out _ h.out).mono ?_
  rintro e w1 ⟨rfl, j1, K1⟩
  replace j1 := Lib.hid j1
  replace K1 := Lib.hid K1
  go_wp2_with fail
  refine (hI.out _).mono ?_
  rintro e w2 ⟨rfl, rfl⟩
  go_wp2_with fail
  go_end0
  exact ⟨rfl, j1.out, K1.out⟩
end Go.Proofs.YtcpgcjmamjjokaaGreatDoor
