/- cbor's writer over the tag. cbor's reader: bytes off, a head. -/
import Derived.Test.YtcpgcjmamjjokaaGreatDoorGg
namespace Go.Proofs.YtcpgcjmamjjokaaGreatDoor
open Go.RowKit Go.Maps Go.Proofs.YtcpgcjmamjjokaaGreatDoorW.PrintWords Go.Proofs.YtcpgcjmamjjokaaGreatDoorW.PrintLast Go.Proofs.YtcpgcjmamjjokaaGreatDoorW.PrintMore Go.Proofs.YtcpgcjmamjjokaaGreatDoor.PTopLimits
set_option linter.unusedVariables false
set_option linter.unusedSimpArgs false
/-- A row of bytes that grows. -/
structure Row (B : Nat) (l : List UInt8) (v : Value) (w : World) : Prop where
  own : w.ownsRow B 5 1 v l.length (Lib.byteCells l)
  base : B ≤ w.heap.size
  len : l.length ≤ 1000
theorem Row.nil (w : World) : Row w.heap.size [] (.slice none 0 0) w := ⟨World.ownsRow_nil _ _ _ _, Nat.le_refl _, by decide⟩
theorem Row.kp {B : Nat} {l : List UInt8} {v : Value} {w w' : World} (h : Row B l v w) (k : Kp w w' (fun _ => False)) : Row B l v w' := ⟨k.own h.own (fun _ _ h => h), Nat.le_trans h.base k.size, h.len⟩
theorem Row.below {B : Nat} {l : List UInt8} {v : Value} {w w' : World} (h : Row B l v w) (hb : Below w.heap.size w w') : Row B l v w' := h.kp (Kp.of_below hb _)
theorem Row.down {B B' : Nat} {l : List UInt8} {v : Value} {w : World} (h : Row B l v w) (hB : B' ≤ B) : Row B' l v w := by
  refine ⟨⟨h.own.1, h.own.2.imp id ?_⟩, Nat.le_trans hB h.base, h.len⟩
  rintro ⟨g, cap, cur, h1, h2, h3⟩
  exact ⟨g, cap, cur, h1, Nat.le_trans hB h2, h3⟩
theorem Row.grow {B : Nat} {l m : List UInt8} {v v' : Value} {w w' : World} (h : Row B l v w) (hm : l.length + m.length ≤ 1000) (ho : w'.ownsRow B 5 1 v' (l.length + m.length) (Lib.byteCells l ++ Lib.byteCells m)) (hg : w.grownBy w' v.ownBlock) : Row B (l ++ m) v' w' ∧ Below B w w' := by
  refine ⟨⟨?_, Nat.le_trans h.base hg.size, by rw [List.length_append]; exact hm⟩, (Below.refl B w).grown hg h.base (own_base h.own)⟩
  rw [List.length_append, show Lib.byteCells (l ++ m) = Lib.byteCells l ++ Lib.byteCells m by simp [Lib.byteCells]]
  exact ho
set_option maxHeartbeats 1600000 in
set_option maxRecDepth 100000 in
theorem chead2 (B : Nat) (l : List UInt8) (v : Value) (w : World) (h : Row B l v w) (hl : l.length ≤ 100) : Calls Tryz.prog 137 #[v, .int .u8 2, .int .u64 1] w fun e w' => ∃ v', e = .returned v' ∧ Row B (l ++ [65]) v' w' ∧ Below B w w' := by
  obtain ⟨i0, hi, hz0, hz1, hz2⟩ := info_parts info5
  have h1 : bits .or .u8 64 1 = 65 := by decide +kernel
  go_enter Tryz.func137, Tryz.ntmps137
  go_wp2_with (at_builtin; refine wpList_append_lies _ rfl _ _ 65 rfl B 5 i0 _ 1 1 Tryz.underlying65 hi hz0 hz1 hz2 rfl (by omega) v l.length (Lib.byteCells l) (by rfl) (h.below (below_alloc (Below.refl _ _) _)).own ⟨w.heap.size, 0, none⟩ 1 1 [.int .u8 65] (by rfl) (by rfl) (World.news_of_block (cs := #[.int .u8 65]) (t := 5) (fr := (0, 0)) (heap_alloc_new _ _)) (by simp [Value.oneCell']) (by omega) (by unfold maxLen; omega) (by omega) (h.below (below_alloc (Below.refl _ _) _)).base _ rfl ?_; intro g cap w1 hown hgrow hat hlt; have hr := Lib.hid ((h.below (below_alloc (Below.refl _ _) _)).grow (m := [65]) (by show l.length + 1 ≤ 1000; omega) hown hgrow); clear hown hgrow hat hlt)
  go_ret
  exact ⟨_, rfl, hr.out.1, ((below_alloc (Below.refl w.heap.size w) _).mono h.base).trans hr.out.2⟩
set_option maxHeartbeats 1600000 in
set_option maxRecDepth 100000 in
theorem chead3 (B : Nat) (l : List UInt8) (v : Value) (w : World) (h : Row B l v w) (hl : l.length ≤ 100) : Calls Tryz.prog 137 #[v, .int .u8 3, .int .u64 1] w fun e w' => ∃ v', e = .returned v' ∧ Row B (l ++ [97]) v' w' ∧ Below B w w' := by
  obtain ⟨i0, hi, hz0, hz1, hz2⟩ := info_parts info5
  have h1 : bits .or .u8 96 1 = 97 := by decide +kernel
  go_enter Tryz.func137, Tryz.ntmps137
  go_wp2_with (at_builtin; refine wpList_append_lies _ rfl _ _ 65 rfl B 5 i0 _ 1 1 Tryz.underlying65 hi hz0 hz1 hz2 rfl (by omega) v l.length (Lib.byteCells l) (by rfl) (h.below (below_alloc (Below.refl _ _) _)).own ⟨w.heap.size, 0, none⟩ 1 1 [.int .u8 97] (by rfl) (by rfl) (World.news_of_block (cs := #[.int .u8 97]) (t := 5) (fr := (0, 0)) (heap_alloc_new _ _)) (by simp [Value.oneCell']) (by omega) (by unfold maxLen; omega) (by omega) (h.below (below_alloc (Below.refl _ _) _)).base _ rfl ?_; intro g cap w1 hown hgrow hat hlt; have hr := Lib.hid ((h.below (below_alloc (Below.refl _ _) _)).grow (m := [97]) (by show l.length + 1 ≤ 1000; omega) hown hgrow); clear hown hgrow hat hlt)
  go_ret
  exact ⟨_, rfl, hr.out.1, ((below_alloc (Below.refl w.heap.size w) _).mono h.base).trans hr.out.2⟩
set_option maxHeartbeats 1600000 in
set_option maxRecDepth 100000 in
theorem ctext2 (B : Nat) (l : List UInt8) (v : Value) (w : World) (h : Row B l v w) (hl : l.length ≤ 99) : Calls Tryz.prog 136 #[v, .int .u8 2, .string ⟨#[0]⟩] w fun e w' => ∃ v', e = .returned v' ∧ Row B (l ++ [65, 0]) v' w' ∧ Below B w w' := by
  obtain ⟨i0, hi, hz0, hz1, hz2⟩ := info_parts info5
  have hsz : (⟨#[0]⟩ : ByteArray).size = 1 := by decide
  go_enter Tryz.func136, Tryz.ntmps136
  go_wp2_with fail
  refine (chead2 B l v w h (by omega)).mono ?_
  rintro e w1 ⟨v1, rfl, h1, B1⟩
  have hl1 : (l ++ [65]).length = l.length + 1 := by simp
  go_wp2_with (at_builtin; refine Lib.wpList_append_own_string _ rfl _ _ 65 9 rfl B 5 i0 Tryz.underlying65 Tryz.underlying9 hi hz0 hz1 hz2 v1 (l ++ [65]).length (Lib.byteCells (l ++ [65])) (by rfl) h1.own ⟨#[0]⟩ (by rfl) (by rw [hsz, hl1]; unfold maxLen; omega) (by rw [hsz, hl1]; omega) h1.base ?_; intro v2 w2 hown hgrow hnil; have hr := Lib.hid (h1.grow (m := [0]) (by rw [hl1]; show l.length + 1 + 1 ≤ 1000; omega) hown hgrow); clear hown hgrow hnil)
  go_ret
  have h2 := hr.out.1
  rw [List.append_assoc] at h2
  exact ⟨_, rfl, h2, B1.trans hr.out.2⟩
set_option maxHeartbeats 1600000 in
set_option maxRecDepth 100000 in
theorem ctext3 (B : Nat) (l : List UInt8) (v : Value) (w : World) (h : Row B l v w) (hl : l.length ≤ 99) : Calls Tryz.prog 136 #[v, .int .u8 3, .string ⟨#[116]⟩] w fun e w' => ∃ v', e = .returned v' ∧ Row B (l ++ [97, 116]) v' w' ∧ Below B w w' := by
  obtain ⟨i0, hi, hz0, hz1, hz2⟩ := info_parts info5
  have hsz : (⟨#[116]⟩ : ByteArray).size = 1 := by decide
  go_enter Tryz.func136, Tryz.ntmps136
  go_wp2_with fail
  refine (chead3 B l v w h (by omega)).mono ?_
  rintro e w1 ⟨v1, rfl, h1, B1⟩
  have hl1 : (l ++ [97]).length = l.length + 1 := by simp
  go_wp2_with (at_builtin; refine Lib.wpList_append_own_string _ rfl _ _ 65 9 rfl B 5 i0 Tryz.underlying65 Tryz.underlying9 hi hz0 hz1 hz2 v1 (l ++ [97]).length (Lib.byteCells (l ++ [97])) (by rfl) h1.own ⟨#[116]⟩ (by rfl) (by rw [hsz, hl1]; unfold maxLen; omega) (by rw [hsz, hl1]; omega) h1.base ?_; intro v2 w2 hown hgrow hnil; have hr := Lib.hid (h1.grow (m := [116]) (by rw [hl1]; show l.length + 1 + 1 ≤ 1000; omega) hown hgrow); clear hown hgrow hnil)
  go_ret
  have h2 := hr.out.1
  rw [List.append_assoc] at h2
  exact ⟨_, rfl, h2, B1.trans hr.out.2⟩
set_option maxHeartbeats 3200000 in
set_option maxRecDepth 100000 in
theorem clay_kid (B : Nat) (l : List UInt8) (v : Value) (w : World) (h : Row B l v w) (hl : l.length ≤ 99) : Calls Tryz.prog 101 #[v, kidV] w fun e w' => ∃ v', e = .returned v' ∧ Row B (l ++ [65, 0]) v' w' ∧ Below B w w' := by
  have hT := Lib.hid (fun w h => ctext2 B l v w h hl)
  unfold kidV
  replace h := Lib.hid h
  go_enter Tryz.func101, Tryz.ntmps101
  go_wp2_with fail
  refine (hT.out _ (h.out.below (below_alloc (Below.refl _ _) _))).mono ?_
  rintro e w1 ⟨v1, rfl, h1, B1⟩
  replace h1 := Lib.hid h1
  replace B1 := Lib.hid (((below_alloc (Below.refl w.heap.size w) _).mono h.out.base).trans B1)
  go_wp2_with fail
  go_ret
  exact ⟨_, rfl, h1.out, B1.out⟩
def cborL : List UInt8 := [216, 27, 130, 97, 116, 65, 0]
set_option maxHeartbeats 6400000 in
set_option maxRecDepth 100000 in
theorem clay_top (w : World) (g : Nat) (hg : Kid g w) : Calls Tryz.prog 101 #[.slice none 0 0, topV g] w fun e w' => ∃ v', e = .returned v' ∧ Row w.heap.size cborL v' w' ∧ Below w.heap.size w w' := by
  obtain ⟨i0, hi, hz0, hz1, hz2⟩ := info_parts info5
  unfold topV
  have hgl := blk_lt hg
  replace hg := Lib.hid hg
  go_enter Tryz.func101, Tryz.ntmps101
  go_upto_region 23 with fail
  generalize hw1 : World.alloc w _ = w1
  obtain ⟨x1, B1⟩ := alloc_at hw1
  clear hw1
  have k1 := hg.out.below B1
  obtain ⟨X, hX⟩ : ∃ X, w.heap.size = X := ⟨_, rfl⟩
  rw [hX] at x1 B1
  rw [hX]
  have hgX : g < X := by rw [← hX]; exact hgl
  obtain ⟨Y, hY⟩ : ∃ Y, w1.heap.size = Y := ⟨_, rfl⟩
  have r1 : Row Y [] (.slice none 0 0) w1 := by rw [← hY]; exact Row.nil w1
  have hXY : X < Y := by rw [← hY]; exact blk_lt x1
  have hYd : w1.drew.heap.size = Y := hY
  obtain ⟨xc0, xc1, xc2, xc3, xc4, xc5, xc6, xc7, xc8, xf0, xf1, xf2, xf3, xf4, xf5, xf6, xf7, xf8⟩ := blk9 x1
  refine start_ (n := 12) (S := fun w' => w'.cell? ⟨X, 6, none⟩ = some (.string ⟨#[116]⟩) ∧ w'.cell? ⟨X, 8, none⟩ = some (.slice (some ⟨g, 0, none⟩) 1 1) ∧ Kid g w') (ds := []) #[false, false, false, false, false, false, false, false, false, false, false, false] (by kernel_rfl) rfl rfl ⟨xc6, xc8, k1⟩ (fun hHeld => ?_)
  refine pure_ (i := 0) (N := some 92) (v := ?_) (a' := ?_) #[true, false, false, false, false, false, false, false, false, false, false, false] rfl rfl (by kernel_rfl) (fun _ _ _ h => h) (Or.inl ⟨by rfl, ?_⟩) ?_ ?_
  rotate_left
  · intro w'
    go_simp
    with_reducible rfl
  rotate_left
  · simp only [Act.put, List.setIfInBounds_toArray, List.set_cons_zero, List.set_cons_succ, i64_w, i32_w]
    rfl
  refine pure_ (i := 3) (N := some 95) (v := ?_) (a' := ?_) #[true, false, false, true, false, false, false, false, false, false, false, false] rfl rfl (by kernel_rfl) (fun _ _ _ h => h) (Or.inl ⟨by rfl, ?_⟩) ?_ ?_
  rotate_left
  · intro w'
    go_simp
    with_reducible rfl
  rotate_left
  · simp only [Act.put, List.setIfInBounds_toArray, List.set_cons_zero, List.set_cons_succ, i64_w, i32_w]
    rfl
  refine take_ (i := 4) (N := some 96) (v := ?_) (a' := ?_) #[true, false, false, true, true, false, false, false, false, false, false, false] rfl rfl (by kernel_rfl) (fun _ _ _ h => h) (Or.inl ⟨by rfl, ?_⟩) hHeld ?_ ?_
  rotate_left
  · rintro w' ⟨s0, s1, s2⟩
    obtain ⟨kc0, kc1, kc2, kc3, kc4, kc5, kc6, kc7, kc8, _⟩ := blk9 s2
    go_simp
    with_reducible rfl
  rotate_left
  · simp only [Act.put, List.setIfInBounds_toArray, List.set_cons_zero, List.set_cons_succ, i64_w, i32_w]
    rfl
  refine pure_ (i := 6) (N := some 98) (v := ?_) (a' := ?_) #[true, false, false, true, true, false, true, false, false, false, false, false] rfl rfl (by kernel_rfl) (fun _ _ _ h => h) (Or.inl ⟨by rfl, ?_⟩) ?_ ?_
  rotate_left
  · intro w'
    go_simp
    with_reducible rfl
  rotate_left
  · simp only [Act.put, List.setIfInBounds_toArray, List.set_cons_zero, List.set_cons_succ, i64_w, i32_w]
    rfl
  refine take_ (i := 7) (N := some 99) (v := ?_) (a' := ?_) #[true, false, false, true, true, false, true, true, false, false, false, false] rfl rfl (by kernel_rfl) (fun _ _ _ h => h) (Or.inl ⟨by rfl, ?_⟩) hHeld ?_ ?_
  rotate_left
  · rintro w' ⟨s0, s1, s2⟩
    obtain ⟨kc0, kc1, kc2, kc3, kc4, kc5, kc6, kc7, kc8, _⟩ := blk9 s2
    go_simp
    with_reducible rfl
  rotate_left
  · simp only [Act.put, List.setIfInBounds_toArray, List.set_cons_zero, List.set_cons_succ, i64_w, i32_w]
    rfl
  refine pure_ (i := 8) (N := some 100) (v := ?_) (a' := ?_) #[true, false, false, true, true, false, true, true, true, false, false, false] rfl rfl (by kernel_rfl) (fun _ _ _ h => h) (Or.inl ⟨by rfl, ?_⟩) ?_ ?_
  rotate_left
  · intro w'
    go_simp
    with_reducible rfl
  rotate_left
  · simp only [Act.put, List.setIfInBounds_toArray, List.set_cons_zero, List.set_cons_succ, i64_w, i32_w]
    rfl
  refine take_ (i := 9) (N := some 101) (v := ?_) (a' := ?_) #[true, false, false, true, true, false, true, true, true, true, false, false] rfl rfl (by kernel_rfl) (fun _ _ _ h => h) (Or.inl ⟨by rfl, ?_⟩) hHeld ?_ ?_
  rotate_left
  · rintro w' ⟨s0, s1, s2⟩
    obtain ⟨kc0, kc1, kc2, kc3, kc4, kc5, kc6, kc7, kc8, _⟩ := blk9 s2
    go_simp
    with_reducible rfl
  rotate_left
  · simp only [Act.put, List.setIfInBounds_toArray, List.set_cons_zero, List.set_cons_succ, i64_w, i32_w]
    rfl
  refine one_ (i := 1) (N := some 93) #[true, true, false, true, true, false, true, true, true, true, false, false] rfl rfl (by kernel_rfl) (by decide) (fun K hK => ?_)
  refine value_ (v := .slice (some ⟨w1.drew.heap.size, 0, none⟩) 3 3) (w1 := w1.drew.alloc (.cells #[.int .u8 216, .int .u8 27, .int .u8 130] 5 (0, 0))) (by rfl) rfl ?_ ?_
  · go_simp
  have B2 : Below Y w1.drew (w1.drew.alloc (.cells #[.int .u8 216, .int .u8 27, .int .u8 130] 5 (0, 0))) := by rw [← hYd]; exact below_alloc (Below.refl _ _) _
  have hS : ∀ W W', Below Y W W' → (W.cell? ⟨X, 6, none⟩ = some (.string ⟨#[116]⟩) ∧ W.cell? ⟨X, 8, none⟩ = some (.slice (some ⟨g, 0, none⟩) 1 1) ∧ Kid g W) → (W'.cell? ⟨X, 6, none⟩ = some (.string ⟨#[116]⟩) ∧ W'.cell? ⟨X, 8, none⟩ = some (.slice (some ⟨g, 0, none⟩) 1 1) ∧ Kid g W') := fun W W' b h => ⟨(b.cell (show X < Y from hXY)).trans h.1, (b.cell (show X < Y from hXY)).trans h.2.1, (b.block g (by omega)).trans h.2.2⟩
  refine hK.out _ _ (hS _ _ B2 hHeld) (fun hHeld2 => ?_)
  clear hK K
  refine norm_ (a' := ?_) ?_ ?_
  rotate_left
  · show Act.put _ (some 93) _ = _
    simp only [Act.put, List.setIfInBounds_toArray, List.set_cons_zero, List.set_cons_succ, i64_w, i32_w]
    rfl
  refine one_ (i := 2) (N := some 94) #[true, true, true, true, true, false, true, true, true, true, false, false] rfl rfl (by kernel_rfl) (by decide) (fun K hK => ?_)
  refine step_append_lies _ (by rfl) _ _ _ (by rfl) Y 5 i0 _ 1 1 Tryz.underlying65 hi hz0 hz1 hz2 rfl (by omega) (.slice none 0 0) 0 [] (by rfl) (World.ownsRow_nil _ _ _ _) ⟨w1.drew.heap.size, 0, none⟩ 3 3 [.int .u8 216, .int .u8 27, .int .u8 130] (by rfl) (by rfl) (World.news_of_block (cs := #[.int .u8 216, .int .u8 27, .int .u8 130]) (t := 5) (fr := (0, 0)) (heap_alloc_new _ _)) (by simp [Value.oneCell']) (by omega) (by unfold maxLen; omega) (by omega) (by rw [← hYd]; exact B2.size) _ rfl ?_
  intro g2 cap2 w2 hown hgrow hat hlt
  obtain ⟨r2, B3⟩ := (show Row Y [] (.slice none 0 0) (w1.drew.alloc (.cells #[.int .u8 216, .int .u8 27, .int .u8 130] 5 (0, 0))) from ⟨World.ownsRow_nil _ _ _ _, by rw [← hYd]; exact B2.size, by decide⟩).grow (m := [216, 27, 130]) (by decide) hown hgrow
  clear hown hgrow hat hlt
  refine hK.out _ _ (hS _ _ B3 hHeld2) (fun hHeld3 => ?_)
  clear hK K
  refine norm_ (a' := ?_) ?_ ?_
  rotate_left
  · show Act.put _ (some 94) _ = _
    simp only [Act.put, List.setIfInBounds_toArray, List.set_cons_zero, List.set_cons_succ, i64_w, i32_w]
    rfl
  refine one_ (i := 5) (N := some 97) #[true, true, true, true, true, true, true, true, true, true, false, false] rfl rfl (by kernel_rfl) (by decide) (fun K hK => ?_)
  refine goes_ Tryz.func136 (by kernel_rfl) rfl #[.slice (some ⟨g2, 0, none⟩) (0 + 3) cap2, .int .u8 3, .string ⟨#[116]⟩] (by rfl) rfl rfl (by simp [Act.eval]) ?_
  refine (ctext3 Y _ _ w2 r2 (by decide)).mono ?_
  rintro e w3 ⟨v3, rfl, r3, B4⟩
  refine ⟨_, rfl, hK.out _ _ (hS _ _ B4 hHeld3) (fun hHeld4 => ?_)⟩
  clear hK K
  refine norm_ (a' := ?_) ?_ ?_
  rotate_left
  · show Act.put _ (some 97) _ = _
    simp only [Act.put, List.setIfInBounds_toArray, List.set_cons_zero, List.set_cons_succ, i64_w, i32_w]
    rfl
  refine one_ (i := 10) (N := some 102) #[true, true, true, true, true, true, true, true, true, true, true, false] rfl rfl (by kernel_rfl) (by decide) (fun K hK => ?_)
  refine goes_ Tryz.func101 (by kernel_rfl) rfl #[v3, kidV] (by rfl) rfl rfl (by simp [Act.eval, kidV]) ?_
  refine (clay_kid Y _ _ w3 r3 (by decide)).mono ?_
  rintro e w4 ⟨v4, rfl, r4, B5⟩
  refine ⟨_, rfl, hK.out _ _ (hS _ _ B5 hHeld4) (fun hHeld5 => ?_)⟩
  clear hK K
  refine norm_ (a' := ?_) ?_ ?_
  rotate_left
  · show Act.put _ (some 102) _ = _
    simp only [Act.put, List.setIfInBounds_toArray, List.set_cons_zero, List.set_cons_succ, i64_w, i32_w]
    rfl
  refine pure_ (i := 11) (N := some 4) (v := ?_) (a' := ?_) #[true, true, true, true, true, true, true, true, true, true, true, true] rfl rfl (by kernel_rfl) (fun _ _ _ h => h) (Or.inl ⟨by rfl, ?_⟩) ?_ ?_
  rotate_left
  · intro w'
    go_simp
    with_reducible rfl
  rotate_left
  · simp only [Act.put, List.setIfInBounds_toArray, List.set_cons_zero, List.set_cons_succ, i64_w, i32_w]
    rfl
  have BB : Below Y w1 w4 := ((show Below Y w1 _ from ⟨B2.os, B2.tape, B2.output, B2.size, B2.block⟩).trans B3).trans (B4.trans B5)
  refine done_ (by kernel_rfl) ?_
  go_wp2_with fail
  go_ret
  exact ⟨_, rfl, r4.down (by omega), by rw [hX]; exact B1.trans (BB.mono (Nat.le_of_lt hXY))⟩
set_option maxHeartbeats 3200000 in
set_option maxRecDepth 100000 in
theorem cwrite (w : World) (g : Nat) (hg : Kid g w) (hT : Lib.Utf8Tabs 0 1 w) :
    Calls Tryz.prog 51 #[topV g] w fun e w' => ∃ (A c : Nat), e = .returned (.tuple #[.slice (some ⟨A, 0, none⟩) 7 c, .int .i64 0]) ∧ BytesAt w' (some ⟨A, 0, none⟩) cborL ∧ 7 ≤ c ∧ Below w.heap.size w w' := by
  have hC := Lib.hid (fun X (hb : Below w.heap.size w X) => top_check (hg.below hb) (Utf8Tabs_below hT hb))
  have hLay := Lib.hid (fun w h => clay_top w g h)
  have hgl := blk_lt hg
  unfold topV at *
  replace hg := Lib.hid hg
  clear hT
  go_enter Tryz.func51, Tryz.ntmps51
  go_wp2_with fail
  generalize hw1 : World.alloc w _ = w1
  obtain ⟨b1, B1⟩ := alloc_at hw1
  clear hw1
  obtain ⟨X, hX⟩ : ∃ X, w.heap.size = X := ⟨_, rfl⟩
  rw [hX] at b1
  rw [hX]
  replace hX := Lib.hid hX
  refine (hC.out _ B1).mono ?_
  rintro e w2 ⟨rfl, B2⟩
  have b2 := blk_below b1 B2
  have B3 := below_then B1 B1.size B2
  clear b1 B1 B2
  obtain ⟨c0, c1, c2, c3, c4, c5, c6, c7, c8, f0, f1, f2, f3, f4, f5, f6, f7, f8⟩ := blk9 b2
  have l2 := blk_lt b2
  have k2 := Lib.hid (hg.out.below B3)
  replace b2 := Lib.hid b2
  replace B3 := Lib.hid B3
  go_wp2_with fail
  refine (hLay.out w2 k2.out).mono ?_
  rintro e w4 ⟨v, rfl, r4, B4⟩
  obtain ⟨g4, cap4, rfl, hg4, hl4⟩ := r4.own.form (by decide)
  have hB5 := Lib.hid (below_then B3.out B3.out.size B4)
  have hby := Lib.hid (BytesAt.own (l := cborL) r4.own (by decide))
  have hcap : 7 ≤ cap4 := row_cap r4.own
  replace hcap := Lib.hid hcap
  replace r4 := Lib.hid r4
  clear B4
  have hd : decide ((65536 : Int) < (cborL.length : Int)) = false := by decide
  go_wp2_with fail
  go_ret2
  exact ⟨_, _, rfl, hby.out, hcap.out, hB5.out⟩
end Go.Proofs.YtcpgcjmamjjokaaGreatDoor
namespace Go.Proofs.YtcpgcjmamjjokaaGreatDoor
open Go.RowKit Go.Maps Go.Proofs.YtcpgcjmamjjokaaGreatDoorW.PrintWords Go.Proofs.YtcpgcjmamjjokaaGreatDoorW.PrintLast Go.Proofs.YtcpgcjmamjjokaaGreatDoorW.PrintMore Go.Proofs.YtcpgcjmamjjokaaGreatDoor.PTopLimits
set_option linter.unusedVariables false
set_option linter.unusedSimpArgs false
/-- A reader of bytes, what is left lying in block b. -/
def CS (T R b : Nat) (l : List UInt8) (w : World) : Prop :=
  ∃ (o c : Nat) (A : Option Addr), w.heap[R]? = some (.cells #[.slice A l.length c, .bool false] T (0, 0)) ∧ l.length ≤ c ∧ c ≤ c ∧ l.length ≤ 1000 ∧ (l ≠ [] → A = some ⟨b, o, none⟩) ∧ ∀ j, j < l.length → w.cell? ⟨b, o + j, none⟩ = some (.int .u8 ((l.getD j 0).toNat : Int))
theorem CS.kp {T R b : Nat} {l : List UInt8} {w w' : World} {S : Nat → Prop} (h : CS T R b l w) (k : Kp w w' S) (hR : ¬ S R) (hb : ¬ S b) : CS T R b l w' := by
  obtain ⟨o, c, A, h1, h2, h3, h4, h5, h6⟩ := h
  exact ⟨o, c, A, k.heap h1 hR, h2, h3, h4, h5, fun j hj => k.cell (h6 j hj) hb⟩
theorem CS.below {T R b : Nat} {l : List UInt8} {w w' : World} (h : CS T R b l w) (hb : Below w.heap.size w w') : CS T R b l w' := h.kp (Kp.of_below hb (fun _ => False)) (fun h => h) (fun h => h)
theorem CS.lt {T R b : Nat} {l : List UInt8} {w : World} (h : CS T R b l w) : R < w.heap.size := by
  obtain ⟨o, c, A, h1, _⟩ := h
  exact blk_lt h1
theorem set3_heap {w : World} {G : Nat} {t : TypeId} {u0 u1 u2 v0 v1 v2 : Value} (h : w.heap[G]? = some (.cells #[u0, u1, u2] t (0, 0))) : (((w.setCell ⟨G, 0, none⟩ v0).setCell ⟨G, 1, none⟩ v1).setCell ⟨G, 2, none⟩ v2).heap[G]? = some (.cells #[v0, v1, v2] t (0, 0)) := by
  have h0 := blk_put h 0 v0 (cs' := #[v0, u1, u2]) rfl
  have h1 := blk_put h0 1 v1 (cs' := #[v0, v1, u2]) rfl
  exact blk_put h1 2 v2 rfl
theorem set3_kp (w : World) (G : Nat) (v0 v1 v2 : Value) : Kp w (((w.setCell ⟨G, 0, none⟩ v0).setCell ⟨G, 1, none⟩ v1).setCell ⟨G, 2, none⟩ v2) (· = G) :=
  (((Kp.refl w (· = G)).set_ (p := ⟨G, 0, none⟩) (.inl rfl) v0).set_ (p := ⟨G, 1, none⟩) (.inl rfl) v1).set_ (p := ⟨G, 2, none⟩) (.inl rfl) v2
theorem one_at {w : World} {b o : Nat} {x : UInt8} (h : w.cell? ⟨b, o, none⟩ = some (.int .u8 (x.toNat : Int))) : BytesAt w (some ⟨b, o, none⟩) [x] := by
  refine ⟨by simp, by show 1 ≤ _; decide, fun _ => ⟨_, rfl, fun j hj => ?_⟩⟩
  have hj0 : j = 0 := by have : j < 1 := hj; omega
  subst hj0
  exact h
set_option maxRecDepth 100000 in
theorem cis_eq (w : World) : Calls Tryz.prog 187 #[.bool true] w fun e w' => e = .returned (.tuple #[]) ∧ w = w' := by
  go_enter Tryz.func187, Tryz.ntmps187
  go_wp2_with fail
  go_end0
  exact ⟨rfl, rfl⟩
set_option maxHeartbeats 1600000 in
set_option maxRecDepth 100000 in
theorem ctake (R b : Nat) (x : UInt8) (l : List UInt8) (w : World) (h : CS 263 R b (x :: l) w) (hb : b ≠ R) :
    Calls Tryz.prog 271 #[.pointer (some ⟨R, 0, none⟩), .int .u64 1] w fun e w' => ∃ o c, e = .returned (.slice (some ⟨b, o, none⟩) 1 c) ∧ w'.cell? ⟨b, o, none⟩ = some (.int .u8 (x.toNat : Int)) ∧ CS 263 R b l w' ∧ Kp w w' (· = R) := by
  obtain ⟨o, c, A, h1, h2, h3, h4, h5, h6⟩ := h
  obtain rfl := h5 (by simp)
  have hI := Lib.hid cis_eq
  have hlen : (x :: l).length = l.length + 1 := rfl
  rw [hlen] at h1 h2 h4
  obtain ⟨m, hm⟩ : ∃ m, l.length = m := ⟨_, rfl⟩
  rw [hm] at h1 h2 h4
  obtain ⟨rc0, rc1, rf0, rf1⟩ := blk2 h1
  have hlt := blk_lt h1
  have hw1 : Go.RowKit.wrap64 ((m : Int) + 1) = (m : Int) + 1 := by unfold Go.RowKit.wrap64; omega
  replace h1 := Lib.hid h1
  replace h6 := Lib.hid h6
  clear hlen
  replace hm := Lib.hid hm
  go_enter Tryz.func271, Tryz.ntmps271
  go_wp2_with fail
  rw [show decide ((1 : Int) ≤ (m : Int) + 1) = true from decide_eq_true (by omega)]
  refine (hI.out _).mono ?_
  rintro e w1 ⟨rfl, rfl⟩
  go_wp2_with fail
  · go_ret
    have hm0 : m = 0 := by omega
    have hl0 : l = [] := List.eq_nil_of_length_eq_zero (by rw [hm.out, hm0])
    subst hl0
    refine ⟨o, ⟨_, rfl⟩, ?_, ⟨o, 0, some ⟨b, o, none⟩, ?_, Nat.le_refl _, by omega, by decide, fun h => absurd rfl h, fun j hj => absurd hj (Nat.not_lt_zero _)⟩, kp_one w R 0 _⟩
    · exact (kp_one w R 0 _).cell (by have := h6.out 0 (Nat.succ_pos _); simpa using this) hb
    · subst hm0
      exact blk_put h1.out 0 _ rfl
  · go_ret
    refine ⟨o, ⟨_, rfl⟩, ?_, ⟨o + 1, c - 1, some ⟨b, o + 1, none⟩, ?_, ?_, by omega, ?_, fun _ => rfl, fun j hj => ?_⟩, kp_one w R 0 _⟩
    · exact (kp_one w R 0 _).cell (by have := h6.out 0 (Nat.succ_pos _); simpa using this) hb
    · rw [hm.out]
      exact blk_put h1.out 0 _ rfl
    · have := hm.out; omega
    · have := hm.out; omega
    · have h7 := h6.out (j + 1) (Nat.succ_lt_succ hj)
      rw [show o + (j + 1) = o + 1 + j by omega] at h7
      exact (kp_one w R 0 _).cell (by simpa using h7) hb
set_option maxRecDepth 100000 in
theorem cparts_no (a b c : Int) (w : World) (hb : b ≠ 31) : Calls Tryz.prog 272 #[.agg #[.int .u8 a, .int .u8 b, .int .u64 c]] w fun e w' => e = .returned (.bool false) ∧ Below w.heap.size w w' := by
  have hd : (b == 31) = false := by simpa using hb
  go_enter Tryz.func272, Tryz.ntmps272
  go_wp2_with fail
  go_ret
  exact ⟨rfl, below_alloc (Below.refl _ _) _⟩
set_option maxHeartbeats 3200000 in
set_option maxRecDepth 100000 in
theorem chd130 (R b : Nat) (l : List UInt8) (w : World) (h : CS 263 R b (130 :: l) w) (hb : b < w.heap.size) (hbR : b ≠ R) :
    Calls Tryz.prog 227 #[.pointer (some ⟨R, 0, none⟩)] w fun e w' => e = .returned (.agg #[.int .u8 4, .int .u8 2, .int .u64 2]) ∧ CS 263 R b l w' ∧ Kp w w' (· = R) := by
  have hT := Lib.hid (fun x l w h => ctake R b x l w h hbR)
  have hI := Lib.hid cis_eq
  have hPa := Lib.hid cparts_no
  have e1 : bits .and .u8 130 31 = 2 := by decide +kernel
  have hRl := h.lt
  replace h := Lib.hid h
  go_enter Tryz.func227, Tryz.ntmps227
  go_wp2_with fail
  generalize hw1 : World.alloc w _ = w1
  obtain ⟨x1, B1⟩ := alloc_at hw1
  clear hw1
  obtain ⟨X, hX⟩ : ∃ X, w.heap.size = X := ⟨_, rfl⟩
  rw [hX] at x1 hb hRl
  rw [hX]
  have hXX := Nat.le_of_eq hX
  have K1 := Lib.hid (Kp.of_below B1 (· = R))
  have h1 := h.out.below B1
  clear B1
  replace hX := Lib.hid hX
  replace hXX := Lib.hid hXX
  refine (hT.out 130 _ w1 h1).mono ?_
  rintro e w2 ⟨o2, c2, rfl, hx2, h2, q⟩
  have x2 := q.heap x1 (by omega)
  have K2 := Lib.hid (K1.out.trans q (fun _ hi => .inl hi))
  have hx2 : w2.cell? ⟨b, o2, none⟩ = some (.int .u8 130) := hx2
  clear q K1 x1 h1
  obtain ⟨xc0, xc1, xc2, xf0, xf1, xf2⟩ := blk3 x2
  have l2 := blk_lt x2
  replace x2 := Lib.hid x2
  replace h2 := Lib.hid h2
  go_wp2_with fail
  generalize hw3 : World.alloc w2 _ = w3
  obtain ⟨y3, B3⟩ := alloc_at hw3
  clear hw3
  obtain ⟨Y, hY⟩ : ∃ Y, w2.heap.size = Y := ⟨_, rfl⟩
  rw [hY] at y3 l2
  rw [hY]
  have x3 := blk_below x2.out B3
  have h3 := h2.out.below B3
  have K3 := Lib.hid (K2.out.below B3)
  clear x2 h2 K2 B3 xc0 xc1 xc2 xf0 xf1 xf2 hx2
  refine (hPa.out 4 2 2 _ (by decide)).mono ?_
  rintro e w4 ⟨rfl, B4⟩
  have x4 := blk_below x3 B4
  have y4 := blk_below y3 B4
  have h4 := h3.below B4
  have K4 := Lib.hid (K3.out.below B4)
  clear x3 y3 h3 K3 B4
  obtain ⟨xc0, xc1, xc2, xf0, xf1, xf2⟩ := blk3 x4
  obtain ⟨yc0, yc1, yc2, yf0, yf1, yf2⟩ := blk3 y4
  have l4 := blk_lt x4
  have l4' := blk_lt y4
  replace x4 := Lib.hid x4
  replace h4 := Lib.hid h4
  clear y4
  go_wp2_with fail
  refine (hI.out _).mono ?_
  rintro e w5 ⟨rfl, rfl⟩
  go_wp2_with fail
  refine bodyPost_ret (results_cell_row rfl _ _ X 300 #[.int .u8 4, .int .u8 2, .int .u64 2] (0, 0) _ rfl (set3_heap x4.out) Tryz.underlying300 rfl (by kernel_rfl)) rfl ?_
  exact ⟨rfl, h4.out.kp (set3_kp _ _ _ _ _) (by omega) (by omega), K4.out.trans (set3_kp _ _ _ _ _) (fun i hi => .inr (by have := hXX.out; omega))⟩
set_option maxHeartbeats 3200000 in
set_option maxRecDepth 100000 in
theorem chd97 (R b : Nat) (l : List UInt8) (w : World) (h : CS 263 R b (97 :: l) w) (hb : b < w.heap.size) (hbR : b ≠ R) :
    Calls Tryz.prog 227 #[.pointer (some ⟨R, 0, none⟩)] w fun e w' => e = .returned (.agg #[.int .u8 3, .int .u8 1, .int .u64 1]) ∧ CS 263 R b l w' ∧ Kp w w' (· = R) := by
  have hT := Lib.hid (fun x l w h => ctake R b x l w h hbR)
  have hI := Lib.hid cis_eq
  have hPa := Lib.hid cparts_no
  have e1 : bits .and .u8 97 31 = 1 := by decide +kernel
  have hRl := h.lt
  replace h := Lib.hid h
  go_enter Tryz.func227, Tryz.ntmps227
  go_wp2_with fail
  generalize hw1 : World.alloc w _ = w1
  obtain ⟨x1, B1⟩ := alloc_at hw1
  clear hw1
  obtain ⟨X, hX⟩ : ∃ X, w.heap.size = X := ⟨_, rfl⟩
  rw [hX] at x1 hb hRl
  rw [hX]
  have hXX := Nat.le_of_eq hX
  have K1 := Lib.hid (Kp.of_below B1 (· = R))
  have h1 := h.out.below B1
  clear B1
  replace hX := Lib.hid hX
  replace hXX := Lib.hid hXX
  refine (hT.out 97 _ w1 h1).mono ?_
  rintro e w2 ⟨o2, c2, rfl, hx2, h2, q⟩
  have x2 := q.heap x1 (by omega)
  have K2 := Lib.hid (K1.out.trans q (fun _ hi => .inl hi))
  have hx2 : w2.cell? ⟨b, o2, none⟩ = some (.int .u8 97) := hx2
  clear q K1 x1 h1
  obtain ⟨xc0, xc1, xc2, xf0, xf1, xf2⟩ := blk3 x2
  have l2 := blk_lt x2
  replace x2 := Lib.hid x2
  replace h2 := Lib.hid h2
  go_wp2_with fail
  generalize hw3 : World.alloc w2 _ = w3
  obtain ⟨y3, B3⟩ := alloc_at hw3
  clear hw3
  obtain ⟨Y, hY⟩ : ∃ Y, w2.heap.size = Y := ⟨_, rfl⟩
  rw [hY] at y3 l2
  rw [hY]
  have x3 := blk_below x2.out B3
  have h3 := h2.out.below B3
  have K3 := Lib.hid (K2.out.below B3)
  clear x2 h2 K2 B3 xc0 xc1 xc2 xf0 xf1 xf2 hx2
  refine (hPa.out 3 1 1 _ (by decide)).mono ?_
  rintro e w4 ⟨rfl, B4⟩
  have x4 := blk_below x3 B4
  have y4 := blk_below y3 B4
  have h4 := h3.below B4
  have K4 := Lib.hid (K3.out.below B4)
  clear x3 y3 h3 K3 B4
  obtain ⟨xc0, xc1, xc2, xf0, xf1, xf2⟩ := blk3 x4
  obtain ⟨yc0, yc1, yc2, yf0, yf1, yf2⟩ := blk3 y4
  have l4 := blk_lt x4
  have l4' := blk_lt y4
  replace x4 := Lib.hid x4
  replace h4 := Lib.hid h4
  clear y4
  go_wp2_with fail
  refine (hI.out _).mono ?_
  rintro e w5 ⟨rfl, rfl⟩
  go_wp2_with fail
  refine bodyPost_ret (results_cell_row rfl _ _ X 300 #[.int .u8 3, .int .u8 1, .int .u64 1] (0, 0) _ rfl (set3_heap x4.out) Tryz.underlying300 rfl (by kernel_rfl)) rfl ?_
  exact ⟨rfl, h4.out.kp (set3_kp _ _ _ _ _) (by omega) (by omega), K4.out.trans (set3_kp _ _ _ _ _) (fun i hi => .inr (by have := hXX.out; omega))⟩
set_option maxHeartbeats 3200000 in
set_option maxRecDepth 100000 in
theorem chd65 (R b : Nat) (l : List UInt8) (w : World) (h : CS 263 R b (65 :: l) w) (hb : b < w.heap.size) (hbR : b ≠ R) :
    Calls Tryz.prog 227 #[.pointer (some ⟨R, 0, none⟩)] w fun e w' => e = .returned (.agg #[.int .u8 2, .int .u8 1, .int .u64 1]) ∧ CS 263 R b l w' ∧ Kp w w' (· = R) := by
  have hT := Lib.hid (fun x l w h => ctake R b x l w h hbR)
  have hI := Lib.hid cis_eq
  have hPa := Lib.hid cparts_no
  have e1 : bits .and .u8 65 31 = 1 := by decide +kernel
  have hRl := h.lt
  replace h := Lib.hid h
  go_enter Tryz.func227, Tryz.ntmps227
  go_wp2_with fail
  generalize hw1 : World.alloc w _ = w1
  obtain ⟨x1, B1⟩ := alloc_at hw1
  clear hw1
  obtain ⟨X, hX⟩ : ∃ X, w.heap.size = X := ⟨_, rfl⟩
  rw [hX] at x1 hb hRl
  rw [hX]
  have hXX := Nat.le_of_eq hX
  have K1 := Lib.hid (Kp.of_below B1 (· = R))
  have h1 := h.out.below B1
  clear B1
  replace hX := Lib.hid hX
  replace hXX := Lib.hid hXX
  refine (hT.out 65 _ w1 h1).mono ?_
  rintro e w2 ⟨o2, c2, rfl, hx2, h2, q⟩
  have x2 := q.heap x1 (by omega)
  have K2 := Lib.hid (K1.out.trans q (fun _ hi => .inl hi))
  have hx2 : w2.cell? ⟨b, o2, none⟩ = some (.int .u8 65) := hx2
  clear q K1 x1 h1
  obtain ⟨xc0, xc1, xc2, xf0, xf1, xf2⟩ := blk3 x2
  have l2 := blk_lt x2
  replace x2 := Lib.hid x2
  replace h2 := Lib.hid h2
  go_wp2_with fail
  generalize hw3 : World.alloc w2 _ = w3
  obtain ⟨y3, B3⟩ := alloc_at hw3
  clear hw3
  obtain ⟨Y, hY⟩ : ∃ Y, w2.heap.size = Y := ⟨_, rfl⟩
  rw [hY] at y3 l2
  rw [hY]
  have x3 := blk_below x2.out B3
  have h3 := h2.out.below B3
  have K3 := Lib.hid (K2.out.below B3)
  clear x2 h2 K2 B3 xc0 xc1 xc2 xf0 xf1 xf2 hx2
  refine (hPa.out 2 1 1 _ (by decide)).mono ?_
  rintro e w4 ⟨rfl, B4⟩
  have x4 := blk_below x3 B4
  have y4 := blk_below y3 B4
  have h4 := h3.below B4
  have K4 := Lib.hid (K3.out.below B4)
  clear x3 y3 h3 K3 B4
  obtain ⟨xc0, xc1, xc2, xf0, xf1, xf2⟩ := blk3 x4
  obtain ⟨yc0, yc1, yc2, yf0, yf1, yf2⟩ := blk3 y4
  have l4 := blk_lt x4
  have l4' := blk_lt y4
  replace x4 := Lib.hid x4
  replace h4 := Lib.hid h4
  clear y4
  go_wp2_with fail
  refine (hI.out _).mono ?_
  rintro e w5 ⟨rfl, rfl⟩
  go_wp2_with fail
  refine bodyPost_ret (results_cell_row rfl _ _ X 300 #[.int .u8 2, .int .u8 1, .int .u64 1] (0, 0) _ rfl (set3_heap x4.out) Tryz.underlying300 rfl (by kernel_rfl)) rfl ?_
  exact ⟨rfl, h4.out.kp (set3_kp _ _ _ _ _) (by omega) (by omega), K4.out.trans (set3_kp _ _ _ _ _) (fun i hi => .inr (by have := hXX.out; omega))⟩
set_option maxHeartbeats 3200000 in
set_option maxRecDepth 100000 in
theorem chd216 (R b : Nat) (l : List UInt8) (w : World) (h : CS 263 R b (216 :: 27 :: l) w) (hb : b < w.heap.size) (hbR : b ≠ R) (hW : w.cell? ⟨5, 0, none⟩ = some (.int .i64 1)) (hR5 : 5 ≠ R) (h5 : 5 < w.heap.size) :
    Calls Tryz.prog 227 #[.pointer (some ⟨R, 0, none⟩)] w fun e w' => e = .returned (.agg #[.int .u8 6, .int .u8 24, .int .u64 27]) ∧ CS 263 R b l w' ∧ Kp w w' (· = R) := by
  have hT := Lib.hid (fun x l w h => ctake R b x l w h hbR)
  have hI := Lib.hid cis_eq
  have hPa := Lib.hid cparts_no
  have e1 : bits .and .u8 216 31 = 24 := by decide +kernel
  have hRl := h.lt
  replace h := Lib.hid h
  replace hW := Lib.hid hW
  go_enter Tryz.func227, Tryz.ntmps227
  go_wp2_with fail
  generalize hw1 : World.alloc w _ = w1
  obtain ⟨x1, B1⟩ := alloc_at hw1
  clear hw1
  obtain ⟨X, hX⟩ : ∃ X, w.heap.size = X := ⟨_, rfl⟩
  rw [hX] at x1 hb hRl
  rw [hX]
  have hXX := Nat.le_of_eq hX
  have h5X : 5 < X := by rw [← hX]; exact h5
  clear h5
  have K1 := Lib.hid (Kp.of_below B1 (· = R))
  have h1 := h.out.below B1
  clear B1
  replace hX := Lib.hid hX
  replace hXX := Lib.hid hXX
  refine (hT.out 216 _ w1 h1).mono ?_
  rintro e w2 ⟨o2, c2, rfl, hx2, h2, q⟩
  have x2 := q.heap x1 (by omega)
  have K2 := Lib.hid (K1.out.trans q (fun _ hi => .inl hi))
  have hx2 : w2.cell? ⟨b, o2, none⟩ = some (.int .u8 216) := hx2
  clear q K1 x1 h1
  obtain ⟨xc0, xc1, xc2, xf0, xf1, xf2⟩ := blk3 x2
  have l2 := blk_lt x2
  replace x2 := Lib.hid x2
  replace h2 := Lib.hid h2
  go_wp2_with fail
  generalize hw3 : World.alloc w2 _ = w3
  obtain ⟨y3, B3⟩ := alloc_at hw3
  clear hw3
  obtain ⟨Y, hY⟩ : ∃ Y, w2.heap.size = Y := ⟨_, rfl⟩
  rw [hY] at y3 l2
  rw [hY]
  have x3 := blk_below x2.out B3
  have h3 := h2.out.below B3
  have K3 := Lib.hid (K2.out.below B3)
  clear x2 h2 K2 B3 xc0 xc1 xc2 xf0 xf1 xf2 hx2
  refine (hPa.out 6 24 24 _ (by decide)).mono ?_
  rintro e w4 ⟨rfl, B4⟩
  have x4 := blk_below x3 B4
  have y4 := blk_below y3 B4
  have h4 := h3.below B4
  have K4 := Lib.hid (K3.out.below B4)
  clear x3 y3 h3 K3 B4
  obtain ⟨xc0, xc1, xc2, xf0, xf1, xf2⟩ := blk3 x4
  obtain ⟨yc0, yc1, yc2, yf0, yf1, yf2⟩ := blk3 y4
  have l4 := blk_lt x4
  have l4' := blk_lt y4
  go_wp2_with fail
  refine (hI.out _).mono ?_
  rintro e w5 ⟨rfl, rfl⟩
  have hW4 := K4.out.cell hW.out hR5
  have hl5 : 5 < w4.heap.size := World.block_lt_of_cell? _ _ hW4
  have hw5 : ∀ v, (w4.setCell ⟨Y, 2, none⟩ v).cell? ⟨5, 0, none⟩ = some (.int .i64 1) := fun v => (kp_one w4 Y 2 v).cell hW4 (by show 5 ≠ Y; omega)
  have e2 : bits .or .u64 0 27 = 27 := by decide +kernel
  replace h4 := Lib.hid h4
  go_wp2_with fail
  generalize hw5 : World.setCell w4 _ _ = w5
  obtain ⟨x5, y5, h5', K5, q5⟩ : w5.heap[X]? = _ ∧ w5.heap[Y]? = some (.cells #[.int .u8 6, .int .u8 24, .int .u64 0] 300 (0, 0)) ∧ CS 263 R b (27 :: l) w5 ∧ Kp w w5 (· = R) ∧ Kp w4 w5 (· = Y) := by
    rw [← hw5]
    exact ⟨(kp_one w4 Y 2 _).heap x4 (by show X ≠ Y; omega), blk_put y4 2 _ rfl, h4.out.kp (kp_one w4 Y 2 _) (by omega) (by omega), K4.out.trans (kp_one w4 Y 2 _) (fun i hi => .inr (by have := hXX.out; omega)), kp_one w4 Y 2 _⟩
  clear hw5 x4 y4 h4 K4
  clear xc0 xc1 xc2 xf0 xf1 xf2 yc0 yc1 yc2 yf0 yf1 yf2 l4 l4'
  refine (hT.out 27 l w5 h5').mono ?_
  rintro e w6 ⟨o6, c6, rfl, hx6, h6, q⟩
  have x6 := q.heap x5 (by omega)
  have y6 := q.heap y5 (by omega)
  have K6 := Lib.hid (K5.trans q (fun _ hi => .inl hi))
  have hx6 : w6.cell? ⟨b, o6, none⟩ = some (.int .u8 27) := hx6
  have hbl := World.block_lt_of_cell? _ _ hx6
  clear q x5 y5 h5' K5 q5
  obtain ⟨xc0, xc1, xc2, xf0, xf1, xf2⟩ := blk3 x6
  obtain ⟨yc0, yc1, yc2, yf0, yf1, yf2⟩ := blk3 y6
  have l6 := blk_lt x6
  have l6' := blk_lt y6
  replace x6 := Lib.hid x6
  replace h6 := Lib.hid h6
  replace y6 := Lib.hid y6
  go_wp2_with fail
  refine wp_loop_rounds 2 ?_
  rw [rounds_succ]
  go_wp2_with fail
  generalize hw7 : World.setCell w6 _ _ = w7
  obtain ⟨x7, y7, h7, K7⟩ : w7.heap[X]? = _ ∧ w7.heap[Y]? = some (.cells #[.int .u8 6, .int .u8 24, .int .u64 27] 300 (0, 0)) ∧ CS 263 R b l w7 ∧ Kp w w7 (· = R) := by
    rw [← hw7]
    exact ⟨(kp_one w6 Y 2 _).heap x6.out (by show X ≠ Y; omega), blk_put y6.out 2 _ rfl, h6.out.kp (kp_one w6 Y 2 _) (by omega) (by omega), K6.out.trans (kp_one w6 Y 2 _) (fun i hi => .inr (by have := hXX.out; omega))⟩
  clear hw7 x6 y6 h6 K6 hx6
  clear xc0 xc1 xc2 xf0 xf1 xf2 yc0 yc1 yc2 yf0 yf1 yf2 l6 l6'
  obtain ⟨xc0, xc1, xc2, xf0, xf1, xf2⟩ := blk3 x7
  obtain ⟨yc0, yc1, yc2, yf0, yf1, yf2⟩ := blk3 y7
  have l7 := blk_lt x7
  have l7' := blk_lt y7
  replace h7 := Lib.hid h7
  replace K7 := Lib.hid K7
  rw [rounds_succ]
  go_wp2_with fail
  have h3 := h7.out
  have x3 := x7
  have y3 := y7
  have K3 := K7
  clear x7 y7 h7 K7
  clear xc0 xc1 xc2 xf0 xf1 xf2 yc0 yc1 yc2 yf0 yf1 yf2 l7 l7'
  refine (hPa.out 6 24 27 _ (by decide)).mono ?_
  rintro e w4 ⟨rfl, B4⟩
  have x4 := blk_below x3 B4
  have y4 := blk_below y3 B4
  have h4 := h3.below B4
  have K4 := Lib.hid (K3.out.below B4)
  clear x3 y3 h3 K3 B4
  obtain ⟨xc0, xc1, xc2, xf0, xf1, xf2⟩ := blk3 x4
  obtain ⟨yc0, yc1, yc2, yf0, yf1, yf2⟩ := blk3 y4
  have l4 := blk_lt x4
  have l4' := blk_lt y4
  replace x4 := Lib.hid x4
  replace h4 := Lib.hid h4
  clear y4
  go_wp2_with fail
  refine (hI.out _).mono ?_
  rintro e w5 ⟨rfl, rfl⟩
  go_wp2_with fail
  refine bodyPost_ret (results_cell_row rfl _ _ X 300 #[.int .u8 6, .int .u8 24, .int .u64 27] (0, 0) _ rfl (set3_heap x4.out) Tryz.underlying300 rfl (by kernel_rfl)) rfl ?_
  exact ⟨rfl, h4.out.kp (set3_kp _ _ _ _ _) (by omega) (by omega), K4.out.trans (set3_kp _ _ _ _ _) (fun i hi => .inr (by have := hXX.out; omega))⟩
end Go.Proofs.YtcpgcjmamjjokaaGreatDoor
