/- pack's reader: a list as an item, the record that stands for a tag. -/
import Derived.Test.YtcpgcjmamjjokaaGreatDoorGl
namespace Go.Proofs.YtcpgcjmamjjokaaGreatDoor
open Go.RowKit Go.Maps Go.Proofs.YtcpgcjmamjjokaaGreatDoorW.PrintWords Go.Proofs.YtcpgcjmamjjokaaGreatDoorW.PrintLast Go.Proofs.YtcpgcjmamjjokaaGreatDoorW.PrintMore Go.Proofs.YtcpgcjmamjjokaaGreatDoor.PTopLimits
set_option linter.unusedVariables false
set_option linter.unusedSimpArgs false
set_option maxHeartbeats 3200000 in
set_option maxRecDepth 100000 in
theorem pitem_list (R b : Nat) (l : List UInt8) (w : World) (h : CS 267 R b (146 :: 161 :: 116 :: 196 :: 1 :: 0 :: l) w) (hb : b < w.heap.size) (hbR : b ≠ R) (hT : Lib.Utf8Tabs 0 1 w) (hR : 2 ≤ R) :
    Calls Tryz.prog 189 #[.pointer (some ⟨R, 0, none⟩)] w fun e w' => ∃ z : Nat × Nat × Nat, e = .returned (.agg (objL 7 ⟨#[]⟩ (some ⟨z.2.1, 0, none⟩) 2 z.2.2).toArray) ∧ CS 267 R b l w' ∧ Kp w w' (· = R) ∧ w'.ownsRow z.1 36 9 (.slice (some ⟨z.2.1, 0, none⟩) 2 z.2.2) 2 tagRow ∧ w.heap.size + 1 ≤ z.2.1 := by
  have hK := Lib.hid (fun x l w h => ptake1 R b x l w h hbR)
  have hX2 := Lib.hid (fun l w h hb hT => plist R b l w h hb hbR hT hR)
  have e1 : bits .and .u8 146 15 = 2 := by decide +kernel
  have hRl := h.lt
  unfold objL at *
  replace h := Lib.hid h
  replace hT := Lib.hid hT
  go_enter Tryz.func189, Tryz.ntmps189
  go_wp2_with fail
  generalize hw1 : World.alloc w _ = w1
  obtain ⟨x1, B1⟩ := alloc_at hw1
  clear hw1
  obtain ⟨X, hX⟩ : ∃ X, w.heap.size = X := ⟨_, rfl⟩
  rw [hX] at x1 hb hRl
  rw [hX]
  have hXX := Nat.le_of_eq hX
  have K1 := Lib.hid (Kp.of_below B1 (· = R))
  have h1 := h.out.below B1
  have hT1 := Utf8Tabs_below hT.out B1
  clear B1
  replace hX := Lib.hid hX
  replace hXX := Lib.hid hXX
  refine (hK.out 146 _ w1 h1).mono ?_
  rintro e w2 ⟨rfl, h2, q⟩
  have x2 := q.heap x1 (by omega)
  have K2 := Lib.hid (K1.out.trans q (fun _ hi => .inl hi))
  have hT2 := q.tabs hT1 (by omega) (by omega)
  have l2 := blk_lt x2
  clear q K1 x1 h1
  replace x2 := Lib.hid x2
  replace h2 := Lib.hid h2
  replace hT2 := Lib.hid hT2
  go_wp2_with fail
  refine (hX2.out l w2 h2.out (by omega) hT2.out).mono ?_
  rintro e w3 ⟨⟨zb, zg, zc⟩, rfl, h3, q, hown, hzg⟩
  dsimp only at hown hzg ⊢
  have x4 := q.heap x2.out (by omega)
  have K4 := Lib.hid (K2.out.trans q (fun _ hi => .inl hi))
  clear q K2 x2 h2 hT2
  obtain ⟨zc0, zc1, zc2, zc3, zc4, zc5, zc6, zc7, zc8, zf0, zf1, zf2, zf3, zf4, zf5, zf6, zf7, zf8⟩ := blk9 x4
  have l4 := blk_lt x4
  replace x4 := Lib.hid x4
  have h4 := Lib.hid h3
  replace hown := Lib.hid hown
  clear h3
  go_wp2_with fail
  refine bodyPost_ret (results_cell_row rfl _ _ X 36 #[.int .i64 7, .bool false, .bool false, .string ⟨#[]⟩, .int .i64 0, .int .u64 0, .string ⟨#[]⟩, .slice none 0 0, .slice (some ⟨zg, 0, none⟩) 2 zc] (0, 0) _ rfl (set9_heap x4.out) Tryz.underlying36 rfl (by kernel_rfl)) rfl ?_
  exact ⟨(zb, zg, zc), rfl, h4.out.kp (set9_kp _ _ _ _ _ _ _ _ _ _ _) (by omega) (by omega), K4.out.trans (set9_kp _ _ _ _ _ _ _ _ _ _ _) (fun i hi => .inr (by have := hXX.out; omega)), (set9_kp _ _ _ _ _ _ _ _ _ _ _).own hown.out (fun k hk e => by simp [Value.ownBlock] at hk; omega), by show w.heap.size + 1 ≤ zg; have := hXX.out; omega⟩
theorem alloc_three {w W : World} {o o' o'' : Obj} (h : ((w.alloc o).alloc o').alloc o'' = W) : W.heap[w.heap.size]? = some o ∧ W.heap[w.heap.size + 1]? = some o' ∧ W.heap[w.heap.size + 1 + 1]? = some o'' ∧ Below w.heap.size w W ∧ W.heap.size = w.heap.size + 3 := by
  obtain ⟨a1, a2, a3, a4⟩ := alloc_two (w := w) (o := o) (o' := o') rfl
  rw [← h]
  refine ⟨blk_alloc a1 _, blk_alloc a2 _, ?_, a3.trans ((below_alloc (Below.refl _ _) _).mono (by omega)), ?_⟩
  · have h2 := heap_alloc_new ((w.alloc o).alloc o') o''
    rw [a4] at h2
    exact h2
  · exact (Array.size_push _).trans (congrArg (· + 1) a4)
set_option maxHeartbeats 6400000 in
set_option maxRecDepth 100000 in
theorem precord (R b : Nat) (l : List UInt8) (w : World) (h : CS 267 R b (164 :: 36 :: 116 :: 97 :: 103 :: 146 :: 161 :: 116 :: 196 :: 1 :: 0 :: l) w) (hb : b < w.heap.size) (hbR : b ≠ R) (hT : Lib.Utf8Tabs 0 1 w) (hR : 2 ≤ R) :
    Calls Tryz.prog 241 #[.pointer (some ⟨R, 0, none⟩), .int .u64 1] w fun e w' => ∃ z : Nat × Nat × Nat, e = .returned (.agg (objL 9 ⟨#[116]⟩ (some ⟨z.2.1, 0, none⟩) 1 z.2.2).toArray) ∧ CS 267 R b l w' ∧ Kp w w' (· = R) ∧ w'.ownsRow z.1 36 9 (.slice (some ⟨z.2.1, 0, none⟩) 1 z.2.2) 1 kidRow ∧ w.heap.size ≤ z.2.1 := by
  have hmm := @run_makeMap Tryz.prog
  have hRl := h.lt
  have hP1 := Lib.hid (fun w => (Tryz.strings_HasPrefix ⟨#[36, 116, 97, 103]⟩ ⟨#[36]⟩ w).mono (fun e w' h => (⟨h.1, h.2.symm⟩ : e = .returned (.bool true) ∧ w = w')))
  have hP2 := Lib.hid (fun w => (Tryz.strings_HasPrefix ⟨#[36, 116, 97, 103]⟩ ⟨#[36, 36]⟩ w).mono (fun e w' h => (⟨h.1, h.2.symm⟩ : e = .returned (.bool false) ∧ w = w')))
  have hI := Lib.hid pis_eq
  have hIt := Lib.hid (fun l w h hb hT => pitem_text4 R b l w h hb hbR hT hR)
  have hsz : (⟨#[36, 116, 97, 103]⟩ : ByteArray).size ≤ maxLen := by decide
  unfold objL
  replace h := Lib.hid h
  replace hT := Lib.hid hT
  go_enter Tryz.func241, Tryz.ntmps241
  go_wp2_with fail
  generalize hw1 : World.alloc _ _ = w1
  obtain ⟨x1, v1, m1, B1, hs1⟩ := alloc_three hw1
  clear hw1
  obtain ⟨X, hX⟩ : ∃ X, w.heap.size = X := ⟨_, rfl⟩
  rw [hX] at x1 v1 m1 hb hRl hs1
  rw [hX]
  have hXX := Nat.le_of_eq hX
  have K1 := Kp.of_below B1 (· = R)
  have h1 := h.out.below B1
  have hT1 := Utf8Tabs_below hT.out B1
  have S1 := SetAt.of_block m1
  clear B1 m1
  obtain ⟨V, hV⟩ : ∃ V, X + 1 = V := ⟨_, rfl⟩
  rw [hV] at v1
  rw [hV]
  obtain ⟨M, hM⟩ : ∃ M, V + 1 = M := ⟨_, rfl⟩
  rw [show X + 1 + 1 = M by omega] at S1
  rw [hM]
  replace hX := Lib.hid hX
  replace hXX := Lib.hid hXX
  refine wp_loop_rounds 2 ?_
  rw [rounds_succ]
  go_wp2_with fail
  refine (hIt.out _ w1 h1 (by omega) hT1).mono ?_
  rintro e w2 ⟨rfl, h2, q⟩
  have x2 := q.heap x1 (by omega)
  have v2 := q.heap v1 (by omega)
  have S2 := S1.heap (q.block _ S1.lt (by omega))
  have K2 := K1.trans q (fun _ hi => .inl hi)
  have hT2 := q.tabs hT1 (by omega) (by omega)
  have s2 := q.size
  clear q K1 x1 v1 h1 hT1 S1
  replace K2 := Lib.hid K2
  replace x2 := Lib.hid x2
  replace v2 := Lib.hid v2
  replace h2 := Lib.hid h2
  replace S2 := Lib.hid S2
  replace hT2 := Lib.hid hT2
  go_wp2_with fail
  generalize hw3 : World.alloc w2 _ = w3
  obtain ⟨k3, B3⟩ := alloc_at hw3
  clear hw3
  obtain ⟨KB, hKB⟩ : ∃ KB, w2.heap.size = KB := ⟨_, rfl⟩
  rw [hKB] at k3
  rw [hKB]
  have x3 := blk_below x2.out B3
  have v3 := blk_below v2.out B3
  have S3 := S2.out.heap (B3.block _ S2.out.lt)
  have K3 := Lib.hid (K2.out.below B3)
  have hT3 := Utf8Tabs_below hT2.out B3
  have h3 := Lib.hid (h2.out.below B3)
  have s3 := B3.size
  clear x2 v2 S2 K2 hT2 h2 B3
  obtain ⟨kc0, kc1, kc2, kc3, kc4, kc5, kc6, kc7, kc8, kf0, kf1, kf2, kf3, kf4, kf5, kf6, kf7, kf8⟩ := blk9 k3
  have l3 := blk_lt k3
  replace k3 := Lib.hid k3
  replace x3 := Lib.hid x3
  replace v3 := Lib.hid v3
  replace hT3 := Lib.hid hT3
  refine (hI.out _).mono ?_
  rintro e w4 ⟨rfl, rfl⟩
  go_wp2_with fail
  refine (hP2.out _).mono ?_
  rintro e w4 ⟨rfl, rfl⟩
  have hlook := S3.look hsz
  rw [show inB ⟨#[36, 116, 97, 103]⟩ [] = false from rfl] at hlook
  go_wp2_with fail
  clear hlook
  refine (hI.out _).mono ?_
  rintro e w4 ⟨rfl, rfl⟩
  obtain ⟨w4, hput, S4, hg4⟩ := S3.put (by unfold maxLen; omega) hsz
  have q : Kp w3 w4 (· = M) := (Kp.refl w3 (· = M)).grown hg4 (fun k hk => by injection hk with hk; exact .inl hk.symm)
  have x4 := q.heap x3.out (by omega)
  have v4 := q.heap v3.out (by omega)
  have K4 := K3.out.trans q (fun _ hi => .inr (by have := hXX.out; omega))
  have hT4 := q.tabs hT3.out (by omega) (by omega)
  have h4 := h3.out.kp q (by omega) (by omega)
  have s4 := q.size
  clear hg4 q kc0 kc1 kc2 kc3 kc4 kc5 kc6 kc7 kc8 kf0 kf1 kf2 kf3 kf4 kf5 kf6 kf7 kf8 l3 S4 x3 v3 k3 K3 hT3 h3
  obtain ⟨vc0, vc1, vc2, vc3, vc4, vc5, vc6, vc7, vc8, vf0, vf1, vf2, vf3, vf4, vf5, vf6, vf7, vf8⟩ := blk9 v4
  have l4 := blk_lt v4
  replace K4 := Lib.hid K4
  replace x4 := Lib.hid x4
  replace h4 := Lib.hid h4
  replace hT4 := Lib.hid hT4
  replace v4 := Lib.hid v4
  obtain ⟨n0, nh, nz0, nz1, nz2⟩ := info_parts info9
  have hsz1 : ∀ o, (w4.alloc o).heap.size = w4.heap.size + 1 := fun o => Array.size_push _
  go_upto_region 17 with (at_builtin; refine wpList_append_lies _ rfl _ _ 28 rfl w4.heap.size 9 n0 _ 1 16 Tryz.underlying28 nh nz0 nz1 nz2 rfl (by omega) (.slice none 0 0) 0 [] (by rfl) (World.ownsRow_nil _ _ _ _) ⟨w4.heap.size, 0, none⟩ 1 1 [.string ⟨#[36, 116, 97, 103]⟩] (by rfl) (by rfl) (World.news_of_block (cs := #[.string ⟨#[36, 116, 97, 103]⟩]) (t := 9) (fr := (0, 0)) (heap_alloc_new _ _)) (by simp [Value.oneCell']) (by omega) (by unfold maxLen; omega) (by omega) (by rw [hsz1]; omega) _ rfl ?_; intro g7 cap7 w7 hown hgrow hat hlt7; have q7 : Kp w4 w7 (fun _ => False) := ((Kp.refl w4 (fun _ => False)).alloc _).grown hgrow (fun k hk => by cases hk); have v7 := q7.heap v4.out (fun h => h); obtain ⟨uc0, uc1, uc2, uc3, uc4, uc5, uc6, uc7, uc8, uf0, uf1, uf2, uf3, uf4, uf5, uf6, uf7, uf8⟩ := blk9 v7; have l7 := blk_lt v7; clear hown hgrow hat hlt7)
  generalize hw8 : World.setCell w7 _ _ = w8
  have q8 : Kp w7 w8 (· = V) := by rw [← hw8]; exact kp_one w7 V 7 _
  have v8 : w8.heap[V]? = some (.cells #[.int .i64 8, .bool false, .bool false, .string ⟨#[]⟩, .int .i64 0, .int .u64 0, .string ⟨#[]⟩, .slice (some ⟨g7, 0, none⟩) 1 cap7, .slice none 0 0] 36 (0, 0)) := by rw [← hw8]; exact blk_put v7 7 _ rfl
  have x8 := q8.heap (q7.heap x4.out (fun h => h)) (by omega)
  have h8 := (h4.out.kp q7 (fun h => h) (fun h => h)).kp q8 (by omega) (by omega)
  have K8 := (K4.out.trans q7 (fun _ hi => hi.elim)).trans q8 (fun _ hi => .inr (by have := hXX.out; omega))
  have hT8 := q8.tabs (q7.tabs hT4.out (fun h => h) (fun h => h)) (by omega) (by omega)
  have s8 : w4.heap.size ≤ w8.heap.size := Nat.le_trans q7.size q8.size
  clear hw8 q8 q7 v7 uc0 uc1 uc2 uc3 uc4 uc5 uc6 uc7 uc8 uf0 uf1 uf2 uf3 uf4 uf5 uf6 uf7 uf8 l7 vc0 vc1 vc2 vc3 vc4 vc5 vc6 vc7 vc8 vf0 vf1 vf2 vf3 vf4 vf5 vf6 vf7 vf8 l4 v4 x4 h4 K4 hT4 hput S3
  obtain ⟨i0, hi, hz0, hz1, hz2⟩ := info_parts info36
  have hL : ∀ W, CS 267 R b (146 :: 161 :: 116 :: 196 :: 1 :: 0 :: l) W → b < W.heap.size → Lib.Utf8Tabs 0 1 W → Calls Tryz.prog 189 #[.pointer (some ⟨R, 0, none⟩)] W fun e w' => ∃ zb zg zc, e = .returned (.agg #[.int .i64 7, .bool false, .bool false, .string ⟨#[]⟩, .int .i64 0, .int .u64 0, .string ⟨#[]⟩, .slice none 0 0, .slice (some ⟨zg, 0, none⟩) 2 zc]) ∧ CS 267 R b l w' ∧ Kp W w' (· = R) ∧ w'.ownsRow zb 36 9 (.slice (some ⟨zg, 0, none⟩) 2 zc) 2 tagRow ∧ W.heap.size + 1 ≤ zg := fun W a1 a2 a3 => (pitem_list R b l W a1 a2 hbR a3 hR).mono (fun e w' ⟨⟨zb, zg, zc⟩, a, b, c, d, e⟩ => ⟨zb, zg, zc, a, b, c, d, e⟩)
  have cVa : w8.drew.cell? ⟨V, 8, none⟩ = some (.slice none 0 0) := (blk_cell v8 8).trans rfl
  refine start_ (n := 8) (S := fun w' => w'.cell? ⟨V, 8, none⟩ = some (.slice none 0 0)) (ds := [7]) #[false, false, false, false, false, false, false, false] (by kernel_rfl) rfl rfl cVa (fun hHeld => ?_)
  refine pure_ (i := 0) (N := some 46) (v := ?_) (a' := ?_) #[true, false, false, false, false, false, false, false] rfl rfl (by kernel_rfl) (fun _ _ _ h => h) (Or.inl ⟨by rfl, ?_⟩) ?_ ?_
  rotate_left
  · intro w'
    go_simp
    with_reducible rfl
  rotate_left
  · simp only [Act.put, List.setIfInBounds_toArray, List.set_cons_zero, List.set_cons_succ, i64_w, i32_w]
    rfl
  refine take_ (i := 1) (N := some 47) (v := ?_) (a' := ?_) #[true, true, false, false, false, false, false, false] rfl rfl (by kernel_rfl) (fun _ _ _ h => h) (Or.inl ⟨by rfl, ?_⟩) hHeld ?_ ?_
  rotate_left
  · rintro w' s0
    go_simp
    with_reducible rfl
  rotate_left
  · simp only [Act.put, List.setIfInBounds_toArray, List.set_cons_zero, List.set_cons_succ, i64_w, i32_w]
    rfl
  refine pure_ (i := 2) (N := some 48) (v := ?_) (a' := ?_) #[true, true, true, false, false, false, false, false] rfl rfl (by kernel_rfl) (fun _ _ _ h => h) (Or.inl ⟨by rfl, ?_⟩) ?_ ?_
  rotate_left
  · intro w'
    go_simp
    with_reducible rfl
  rotate_left
  · simp only [Act.put, List.setIfInBounds_toArray, List.set_cons_zero, List.set_cons_succ, i64_w, i32_w]
    rfl
  refine one_ (i := 3) (N := some 49) #[true, true, true, true, false, false, false, false] rfl rfl (by kernel_rfl) (by decide) (fun K hK => ?_)
  refine goes_ Tryz.func189 (by kernel_rfl) rfl #[.pointer (some ⟨R, 0, none⟩)] (by rfl) rfl rfl (by simp [Act.eval]) ?_
  refine (hL w8.drew (h8.kp ((Kp.refl w8 (fun _ => False)).drew) (fun h => h) (fun h => h)) (by show b < w8.heap.size; omega) (((Kp.refl w8 (fun _ => False)).drew).tabs hT8 (fun h => h) (fun h => h))).mono ?_
  rintro e w3 ⟨zb, zg, zc, rfl, h3, K3, zown, hzg⟩
  replace K3 := Kp.undrew K3
  have hc8 := K3.cell (show w8.cell? ⟨V, 8, none⟩ = some (.slice none 0 0) from cVa) (show ¬ V = R by omega)
  refine ⟨_, rfl, hK.out _ _ hc8 (fun hHeld3 => ?_)⟩
  clear hK K
  refine norm_ (a' := ?_) ?_ ?_
  rotate_left
  · show Act.put _ (some 49) _ = _
    simp only [Act.put, List.setIfInBounds_toArray, List.set_cons_zero, List.set_cons_succ, i64_w, i32_w]
    rfl
  refine one_ (i := 4) (N := some 50) #[true, true, true, true, true, false, false, false] rfl rfl (by kernel_rfl) (by decide) (fun K hK => ?_)
  refine value_ (v := .slice (some ⟨w3.heap.size, 0, none⟩) 1 1) (w1 := w3.alloc (.cells #[.int .i64 7, .bool false, .bool false, .string ⟨#[]⟩, .int .i64 0, .int .u64 0, .string ⟨#[]⟩, .slice none 0 0, .slice (some ⟨zg, 0, none⟩) 2 zc] 36 (0, 0))) (by rfl) rfl ?_ ?_
  · go_simp
  have K4 := K3.alloc (.cells #[.int .i64 7, .bool false, .bool false, .string ⟨#[]⟩, .int .i64 0, .int .u64 0, .string ⟨#[]⟩, .slice none 0 0, .slice (some ⟨zg, 0, none⟩) 2 zc] 36 (0, 0))
  have q4 : Kp w3 (w3.alloc (.cells #[.int .i64 7, .bool false, .bool false, .string ⟨#[]⟩, .int .i64 0, .int .u64 0, .string ⟨#[]⟩, .slice none 0 0, .slice (some ⟨zg, 0, none⟩) 2 zc] 36 (0, 0))) (fun _ => False) := (Kp.refl w3 (fun _ => False)).alloc _
  refine hK.out _ _ (q4.cell hc8 (fun h => h)) (fun hHeld4 => ?_)
  clear hK K
  refine norm_ (a' := ?_) ?_ ?_
  rotate_left
  · show Act.put _ (some 50) _ = _
    simp only [Act.put, List.setIfInBounds_toArray, List.set_cons_zero, List.set_cons_succ, i64_w, i32_w]
    rfl
  refine one_ (i := 5) (N := some 51) #[true, true, true, true, true, true, false, false] rfl rfl (by kernel_rfl) (by decide) (fun K hK => ?_)
  have hown4 : (w3.alloc (.cells #[.int .i64 7, .bool false, .bool false, .string ⟨#[]⟩, .int .i64 0, .int .u64 0, .string ⟨#[]⟩, .slice none 0 0, .slice (some ⟨zg, 0, none⟩) 2 zc] 36 (0, 0))).ownsRow w8.heap.size 36 9 (.slice none 0 0) 0 [] := K4.own (World.ownsRow_nil _ _ _ _) (fun k hk e => by cases hk)
  refine step_append_lies _ (by rfl) _ _ _ (by rfl) w8.heap.size 36 i0 _ 9 120 Tryz.underlying34 hi hz0 hz1 hz2 rfl (by omega) (.slice none 0 0) 0 [] (by rfl) hown4 ⟨w3.heap.size, 0, none⟩ 1 1 [.int .i64 7, .bool false, .bool false, .string ⟨#[]⟩, .int .i64 0, .int .u64 0, .string ⟨#[]⟩, .slice none 0 0, .slice (some ⟨zg, 0, none⟩) 2 zc] (by rfl) (by rfl) (World.news_of_block (cs := #[.int .i64 7, .bool false, .bool false, .string ⟨#[]⟩, .int .i64 0, .int .u64 0, .string ⟨#[]⟩, .slice none 0 0, .slice (some ⟨zg, 0, none⟩) 2 zc]) (t := 36) (fr := (0, 0)) (alloc1 w3 _)) (by simp [Value.oneCell']) (by omega) (by unfold maxLen; omega) (by omega) (Nat.le_trans (Nat.le_refl _) K4.size) _ rfl ?_
  intro ga capa w5 hown5 hgrow hat hlt5
  have hV5 := row_grow (K4.heap v8 (show ¬ V = R by omega)) hgrow (fun e => by cases e)
  have c5 : w5.cell? ⟨V, 8, none⟩ = some (.slice none 0 0) := (blk_cell hV5 8).trans rfl
  have f5 := blk_frozen hV5 8
  have l5 := blk_lt hV5
  have K5 := Kp.grown_ hgrow
  have hga : w8.heap.size ≤ ga := by rcases hat with e | e; cases e; have := K4.size; omega
  have h5 := (h3.kp q4 (fun h => h) (fun h => h)).kp K5 (fun e => by cases e) (fun e => by cases e)
  clear hat
  refine hK.out _ _ c5 (fun hHeld => ?_)
  clear hK K
  refine norm_ (a' := ?_) ?_ ?_
  rotate_left
  · show Act.put _ (some 51) _ = _
    simp only [Act.put, List.setIfInBounds_toArray, List.set_cons_zero, List.set_cons_succ, i64_w, i32_w]
    rfl
  refine pure_ (i := 6) (N := some 52) (v := ?_) (a' := ?_) #[true, true, true, true, true, true, true, false] rfl rfl (by kernel_rfl) (fun _ _ _ h => h) (Or.inl ⟨by rfl, ?_⟩) ?_ ?_
  rotate_left
  · intro w'
    go_simp
    with_reducible rfl
  rotate_left
  · simp only [Act.put, List.setIfInBounds_toArray, List.set_cons_zero, List.set_cons_succ, i64_w, i32_w]
    rfl
  have hgV : ga ≠ V := by omega
  refine last_ (i := 7) (N := none) #[true, true, true, true, true, true, true, true] rfl rfl (by kernel_rfl) (by decide) (fun K hK => ?_)
  have cV5 := hHeld
  refine skip_ (w1 := ?_) (by rfl) rfl ?_ ?_
  rotate_left
  · go_simp
    rfl
  refine hK.out _ _ ?_
  clear hK
  clear K
  refine done_ (by kernel_rfl) ?_
  generalize hw6 : World.setCell w5 _ _ = wa
  obtain ⟨hVa, howna, ha, qa⟩ : wa.heap[V]? = some (.cells #[.int .i64 8, .bool false, .bool false, .string ⟨#[]⟩, .int .i64 0, .int .u64 0, .string ⟨#[]⟩, .slice (some ⟨g7, 0, none⟩) 1 cap7, .slice (some ⟨ga, 0, none⟩) (0 + 1) capa] 36 (0, 0)) ∧ wa.ownsRow w8.heap.size 36 9 (.slice (some ⟨ga, 0, none⟩) (0 + 1) capa) (0 + 1) ([] ++ [.int .i64 7, .bool false, .bool false, .string ⟨#[]⟩, .int .i64 0, .int .u64 0, .string ⟨#[]⟩, .slice none 0 0, .slice (some ⟨zg, 0, none⟩) 2 zc]) ∧ CS 267 R b (l) wa ∧ Kp w8 wa (fun k => k = R ∨ k = V ∨ some k = (Value.slice none 0 0).ownBlock) := by
    rw [← hw6]
    have k6 := kp_one w5 V 8 (.slice (some ⟨ga, 0, none⟩) (0 + 1) capa)
    refine ⟨blk_put hV5 8 _ rfl, own_far hown5 hgV _, h5.kp k6 (by omega) (by omega), ((K4.mono (fun i hi => .inl hi)).trans K5 (fun i hi => .inl (.inr (.inr hi)))).trans k6 (fun i hi => .inl (.inr (.inl hi)))⟩
  replace hzg : w8.heap.size + 1 ≤ zg := hzg
  have zo : wa.ownsRow zb 36 9 (.slice (some ⟨zg, 0, none⟩) 2 zc) 2 tagRow := by
    rw [← hw6]
    exact (kp_one w5 V 8 _).own (K5.own (q4.own zown (fun _ _ h => h)) (fun k hk e => by cases e)) (fun k hk e => by simp [Value.ownBlock] at hk; omega)
  clear zown
  clear hw6 hHeld hHeld3 hHeld4 hown5 hV5 hgrow K5 K4 K3 h3 h5 hown4 c5 f5 l5 cV5 hc8 q4 cVa
  have xa := qa.heap x8 (by rintro (e | e | e); omega; omega; cases e)
  have hTa := qa.tabs hT8 (by rintro (e | e | e); omega; omega; cases e) (by rintro (e | e | e); omega; omega; cases e)
  have Ka := K8.trans qa (fun i hi => by rcases hi with e | e | e; exact .inl e; exact .inr (by have := hXX.out; omega); cases e)
  have sa := qa.size
  clear qa K8 x8 v8 h8 hT8 hL
  have hrow := row9 (show wa.ownsRow w8.heap.size 36 9 (.slice (some ⟨ga, 0, none⟩) 1 capa) 1 [.int .i64 7, .bool false, .bool false, .string ⟨#[]⟩, .int .i64 0, .int .u64 0, .string ⟨#[]⟩, .slice none 0 0, .slice (some ⟨zg, 0, none⟩) 2 zc] from howna)
  obtain ⟨sc0, sc6, _⟩ := rowT zo
  have hzc := row_cap zo
  have hzlt : zg < wa.heap.size := World.block_lt_of_cell? _ _ sc0
  obtain ⟨rc0, rc1, rc2, rc3, rc4, rc5, rc6, rc7, rc8⟩ := hrow
  have hgl := World.block_lt_of_cell? _ _ rc0
  obtain ⟨vc0, vc1, vc2, vc3, vc4, vc5, vc6, vc7, vc8, vf0, vf1, vf2, vf3, vf4, vf5, vf6, vf7, vf8⟩ := blk9 hVa
  have la := blk_lt hVa
  replace xa := Lib.hid xa
  replace ha := Lib.hid ha
  replace zo := Lib.hid zo
  replace howna := Lib.hid howna
  replace Ka := Lib.hid Ka
  replace hVa := Lib.hid hVa
  go_wp2_with fail
  rw [rounds_succ]
  go_wp2_with fail
  refine (hP1.out _).mono ?_
  rintro e w9 ⟨rfl, rfl⟩
  go_wp2_with fail
  refine (hP2.out _).mono ?_
  rintro e w9 ⟨rfl, rfl⟩
  go_wp2_with fail
  refine (hI.out _).mono ?_
  rintro e w9 ⟨rfl, rfl⟩
  go_wp2_with fail
  generalize hw4 : World.alloc wa _ = w4
  obtain ⟨x4, B4⟩ := alloc_at hw4
  clear hw4
  obtain ⟨xc0, xc1, xc2, xc3, xc4, xc5, xc6, xc7, xc8, xf0, xf1, xf2, xf3, xf4, xf5, xf6, xf7, xf8⟩ := blk9 x4
  have lx4 := blk_lt x4
  have hz4 := (Kp.of_below B4 (fun _ => False)).own zo.out (fun _ _ h => h)
  obtain ⟨tc0, tc6, tck⟩ := rowT hz4
  replace hz4 := Lib.hid hz4
  replace tck := Lib.hid tck
  have K4 := Lib.hid (Ka.out.below B4)
  have y4 := blk_below xa.out B4
  have j4 := Lib.hid (ha.out.below B4)
  replace B4 := Lib.hid B4
  refine (hI.out _).mono ?_
  rintro e w5 ⟨rfl, rfl⟩
  go_upto_region 24 with fail
  refine start_ (n := 11) (S := fun w' => w'.cell? ⟨wa.heap.size, 8, none⟩ = some (.slice (some ⟨zg, 0, none⟩) 2 zc) ∧ w'.cell? ⟨zg, 6, none⟩ = some (.string ⟨#[116]⟩)) (ds := [10]) #[false, false, false, false, false, false, false, false, false, false, false] (by kernel_rfl) rfl rfl ⟨xc8, tc6⟩ (fun hHeld => ?_)
  refine pure_ (i := 0) (N := some 91) (v := ?_) (a' := ?_) #[true, false, false, false, false, false, false, false, false, false, false] rfl rfl (by kernel_rfl) (fun _ _ _ h => h) (Or.inl ⟨by rfl, ?_⟩) ?_ ?_
  rotate_left
  · intro w'
    go_simp
    with_reducible rfl
  rotate_left
  · simp only [Act.put, List.setIfInBounds_toArray, List.set_cons_zero, List.set_cons_succ, i64_w, i32_w]
    rfl
  refine take_ (i := 1) (N := some 92) (v := ?_) (a' := ?_) #[true, true, false, false, false, false, false, false, false, false, false] rfl rfl (by kernel_rfl) (fun _ _ _ h => h) (Or.inl ⟨by rfl, ?_⟩) hHeld ?_ ?_
  rotate_left
  · rintro w' ⟨s0, s1⟩
    go_simp
    with_reducible rfl
  rotate_left
  · simp only [Act.put, List.setIfInBounds_toArray, List.set_cons_zero, List.set_cons_succ, i64_w, i32_w]
    rfl
  refine pure_ (i := 2) (N := some 93) (v := ?_) (a' := ?_) #[true, true, true, false, false, false, false, false, false, false, false] rfl rfl (by kernel_rfl) (fun _ _ _ h => h) (Or.inl ⟨by rfl, ?_⟩) ?_ ?_
  rotate_left
  · intro w'
    go_simp
    with_reducible rfl
  rotate_left
  · simp only [Act.put, List.setIfInBounds_toArray, List.set_cons_zero, List.set_cons_succ, i64_w, i32_w]
    rfl
  refine pure_ (i := 3) (N := some 94) (v := ?_) (a' := ?_) #[true, true, true, true, false, false, false, false, false, false, false] rfl rfl (by kernel_rfl) (fun _ _ _ h => h) (Or.inl ⟨by rfl, ?_⟩) ?_ ?_
  rotate_left
  · intro w'
    go_simp
    with_reducible rfl
  rotate_left
  · simp only [Act.put, List.setIfInBounds_toArray, List.set_cons_zero, List.set_cons_succ, i64_w, i32_w]
    rfl
  refine take_ (i := 4) (N := some 95) (v := ?_) (a' := ?_) #[true, true, true, true, true, false, false, false, false, false, false] rfl rfl (by kernel_rfl) (fun _ _ _ h => h) (Or.inl ⟨by rfl, ?_⟩) hHeld ?_ ?_
  rotate_left
  · rintro w' ⟨s0, s1⟩
    go_simp
    with_reducible rfl
  rotate_left
  · simp only [Act.put, List.setIfInBounds_toArray, List.set_cons_zero, List.set_cons_succ, i64_w, i32_w]
    rfl
  refine pure_ (i := 5) (N := some 96) (v := ?_) (a' := ?_) #[true, true, true, true, true, true, false, false, false, false, false] rfl rfl (by kernel_rfl) (fun _ _ _ h => h) (Or.inl ⟨by rfl, ?_⟩) ?_ ?_
  rotate_left
  · intro w'
    go_simp
    with_reducible rfl
  rotate_left
  · simp only [Act.put, List.setIfInBounds_toArray, List.set_cons_zero, List.set_cons_succ, i64_w, i32_w]
    rfl
  refine take_ (i := 6) (N := some 97) (v := ?_) (a' := ?_) #[true, true, true, true, true, true, true, false, false, false, false] rfl rfl (by kernel_rfl) (fun _ _ _ h => h) (Or.inl ⟨by rfl, ?_⟩) hHeld ?_ ?_
  rotate_left
  · rintro w' ⟨s0, s1⟩
    go_simp
    with_reducible rfl
  rotate_left
  · simp only [Act.put, List.setIfInBounds_toArray, List.set_cons_zero, List.set_cons_succ, i64_w, i32_w]
    rfl
  refine pure_ (i := 7) (N := some 98) (v := ?_) (a' := ?_) #[true, true, true, true, true, true, true, true, false, false, false] rfl rfl (by kernel_rfl) (fun _ _ _ h => h) (Or.inl ⟨by rfl, ?_⟩) ?_ ?_
  rotate_left
  · intro w'
    go_simp
    with_reducible rfl
  rotate_left
  · simp only [Act.put, List.setIfInBounds_toArray, List.set_cons_zero, List.set_cons_succ, i64_w, i32_w]
    rfl
  refine one_ (i := 8) (N := some 99) #[true, true, true, true, true, true, true, true, true, false, false] rfl rfl (by kernel_rfl) (by decide) (fun K hK => ?_)
  refine goes_ Tryz.func57 (by kernel_rfl) rfl #[.slice (some ⟨zg, 9, none⟩) 1 (zc - 1)] (by rfl) rfl rfl (by simp [Act.eval]; omega) ?_
  refine (clone_row zg 9 (zc - 1) kidRow w4.drew rfl tck.out (by decide)).mono ?_
  rintro e w5 ⟨g5, cap5, rfl, hown5, hg5, B5⟩
  refine ⟨_, rfl, hK.out _ _ ⟨(B5.cell (show _ < w4.heap.size from lx4)).trans xc8, (B5.cell (show _ < w4.heap.size from World.block_lt_of_cell? _ _ tc6)).trans tc6⟩ (fun hHeld5 => ?_)⟩
  clear hK K
  have B5' : Below w4.heap.size w4 w5 := ⟨B5.os, B5.tape, B5.output, B5.size, B5.block⟩
  have ly4 := blk_lt y4
  have hg5' : w4.heap.size ≤ g5 := hg5
  have y5 := blk_below y4 B5'
  have j5 := Lib.hid (j4.out.below B5')
  have K5 := Lib.hid (K4.out.below B5')
  obtain ⟨hc0, hc1, hc2, hc3, hc4, hc5, hc6, hc7, hc8, hf0, hf1, hf2, hf3, hf4, hf5, hf6, hf7, hf8⟩ := blk9 y5
  have ly5 := blk_lt y5
  have lbw : b < w4.heap.size := Nat.lt_of_lt_of_le (by omega) (Nat.le_trans sa B4.out.size)
  replace y5 := Lib.hid y5
  replace hown5 := Lib.hid hown5
  refine norm_ (a' := ?_) ?_ ?_
  rotate_left
  · show Act.put _ (some 99) _ = _
    simp only [Act.put, List.setIfInBounds_toArray, List.set_cons_zero, List.set_cons_succ, i64_w, i32_w]
    rfl
  refine pure_ (i := 9) (N := some 100) (v := ?_) (a' := ?_) #[true, true, true, true, true, true, true, true, true, true, false] rfl rfl (by kernel_rfl) (fun _ _ _ h => h) (Or.inl ⟨by rfl, ?_⟩) ?_ ?_
  rotate_left
  · intro w'
    go_simp
    with_reducible rfl
  rotate_left
  · simp only [Act.put, List.setIfInBounds_toArray, List.set_cons_zero, List.set_cons_succ, i64_w, i32_w]
    rfl
  refine last_ (i := 10) (N := none) #[true, true, true, true, true, true, true, true, true, true, true] rfl rfl (by kernel_rfl) (by decide) (fun K hK => ?_)
  refine skip_ (w1 := ?_) (by rfl) rfl ?_ ?_
  rotate_left
  · go_simp
    rfl
  refine hK.out _ _ ?_
  clear hK
  clear K
  refine done_ (by kernel_rfl) ?_
  go_wp2_with fail
  refine bodyPost_ret (results_cell_row rfl _ _ X 36 #[.int .i64 9, .bool false, .bool false, .string ⟨#[]⟩, .int .i64 0, .int .u64 0, .string ⟨#[116]⟩, .slice none 0 0, .slice (some ⟨g5, 0, none⟩) 1 cap5] (0, 0) _ rfl (set9_heap y5.out) Tryz.underlying36 rfl (by kernel_rfl)) rfl ?_
  exact ⟨w4.heap.size, g5, cap5, rfl, j5.out.kp (set9_kp _ _ _ _ _ _ _ _ _ _ _) (by omega) (by omega), K5.out.trans (set9_kp _ _ _ _ _ _ _ _ _ _ _) (fun i hi => .inr (by have := hXX.out; omega)), (set9_kp _ _ _ _ _ _ _ _ _ _ _).own hown5.out (fun k hk e => by simp [Value.ownBlock] at hk; omega), by have := hXX.out; show w.heap.size ≤ g5; omega⟩
set_option maxHeartbeats 3200000 in
set_option maxRecDepth 100000 in
theorem pitem_tag (R b : Nat) (l : List UInt8) (w : World) (h : CS 267 R b (129 :: 164 :: 36 :: 116 :: 97 :: 103 :: 146 :: 161 :: 116 :: 196 :: 1 :: 0 :: l) w) (hb : b < w.heap.size) (hbR : b ≠ R) (hT : Lib.Utf8Tabs 0 1 w) (hR : 2 ≤ R) :
    Calls Tryz.prog 189 #[.pointer (some ⟨R, 0, none⟩)] w fun e w' => ∃ z : Nat × Nat × Nat, e = .returned (.agg (objL 9 ⟨#[116]⟩ (some ⟨z.2.1, 0, none⟩) 1 z.2.2).toArray) ∧ CS 267 R b l w' ∧ Kp w w' (· = R) ∧ w'.ownsRow z.1 36 9 (.slice (some ⟨z.2.1, 0, none⟩) 1 z.2.2) 1 kidRow ∧ w.heap.size + 1 ≤ z.2.1 := by
  have hK := Lib.hid (fun x l w h => ptake1 R b x l w h hbR)
  have hX2 := Lib.hid (fun l w h hb hT => precord R b l w h hb hbR hT hR)
  have e1 : bits .and .u8 129 15 = 1 := by decide +kernel
  have hRl := h.lt
  unfold objL at *
  replace h := Lib.hid h
  replace hT := Lib.hid hT
  go_enter Tryz.func189, Tryz.ntmps189
  go_wp2_with fail
  generalize hw1 : World.alloc w _ = w1
  obtain ⟨x1, B1⟩ := alloc_at hw1
  clear hw1
  obtain ⟨X, hX⟩ : ∃ X, w.heap.size = X := ⟨_, rfl⟩
  rw [hX] at x1 hb hRl
  rw [hX]
  have hXX := Nat.le_of_eq hX
  have K1 := Lib.hid (Kp.of_below B1 (· = R))
  have h1 := h.out.below B1
  have hT1 := Utf8Tabs_below hT.out B1
  clear B1
  replace hX := Lib.hid hX
  replace hXX := Lib.hid hXX
  refine (hK.out 129 _ w1 h1).mono ?_
  rintro e w2 ⟨rfl, h2, q⟩
  have x2 := q.heap x1 (by omega)
  have K2 := Lib.hid (K1.out.trans q (fun _ hi => .inl hi))
  have hT2 := q.tabs hT1 (by omega) (by omega)
  have l2 := blk_lt x2
  clear q K1 x1 h1
  replace x2 := Lib.hid x2
  replace h2 := Lib.hid h2
  replace hT2 := Lib.hid hT2
  go_wp2_with fail
  refine (hX2.out l w2 h2.out (by omega) hT2.out).mono ?_
  rintro e w3 ⟨⟨zb, zg, zc⟩, rfl, h3, q, hown, hzg⟩
  dsimp only at hown hzg ⊢
  have x4 := q.heap x2.out (by omega)
  have K4 := Lib.hid (K2.out.trans q (fun _ hi => .inl hi))
  clear q K2 x2 h2 hT2
  obtain ⟨zc0, zc1, zc2, zc3, zc4, zc5, zc6, zc7, zc8, zf0, zf1, zf2, zf3, zf4, zf5, zf6, zf7, zf8⟩ := blk9 x4
  have l4 := blk_lt x4
  replace x4 := Lib.hid x4
  have h4 := Lib.hid h3
  replace hown := Lib.hid hown
  clear h3
  go_wp2_with fail
  refine bodyPost_ret (results_cell_row rfl _ _ X 36 #[.int .i64 9, .bool false, .bool false, .string ⟨#[]⟩, .int .i64 0, .int .u64 0, .string ⟨#[116]⟩, .slice none 0 0, .slice (some ⟨zg, 0, none⟩) 1 zc] (0, 0) _ rfl (set9_heap x4.out) Tryz.underlying36 rfl (by kernel_rfl)) rfl ?_
  exact ⟨(zb, zg, zc), rfl, h4.out.kp (set9_kp _ _ _ _ _ _ _ _ _ _ _) (by omega) (by omega), K4.out.trans (set9_kp _ _ _ _ _ _ _ _ _ _ _) (fun i hi => .inr (by have := hXX.out; omega)), (set9_kp _ _ _ _ _ _ _ _ _ _ _).own hown.out (fun k hk e => by simp [Value.ownBlock] at hk; omega), by show w.heap.size + 1 ≤ zg; have := hXX.out; omega⟩
end Go.Proofs.YtcpgcjmamjjokaaGreatDoor
