/- xml's reader: an element of bytes, what stands within the tag. pack.Read of the tag. xml.Read of the tag. -/
import Derived.Test.YtcpgcjmamjjokaaGreatDoorGk
import Derived.Test.YtcpgcjmamjjokaaGreatDoorGm
import Derived.Test.YtcpgcjmamjjokaaGreatDoorGj
namespace Go.Proofs.YtcpgcjmamjjokaaGreatDoor
open Go.RowKit Go.Maps Go.Proofs.YtcpgcjmamjjokaaGreatDoorW.PrintWords Go.Proofs.YtcpgcjmamjjokaaGreatDoorW.PrintLast Go.Proofs.YtcpgcjmamjjokaaGreatDoorW.PrintMore Go.Proofs.YtcpgcjmamjjokaaGreatDoor.PTopLimits
set_option linter.unusedVariables false
set_option linter.unusedSimpArgs false
theorem xis_ok (w : World) : Calls Tryz.prog 195 #[.bool true] w fun e w' => e = .returned (.tuple #[]) ∧ w' = w := (xis_eq w).mono (fun e w' h => ⟨h.1, h.2.symm⟩)
theorem as314_311 (v : Value) (w : World) : (Instr.typeAssert (.iface 314 v) 20 311 true).run Tryz.prog w = .ok (.tuple #[.string ⟨#[]⟩, .bool false]) w := by kernel_rfl
theorem as314_313 (v : Value) (w : World) : (Instr.typeAssert (.iface 314 v) 20 313 true).run Tryz.prog w = .ok (.tuple #[.agg #[.string ⟨#[]⟩, .string ⟨#[]⟩], .bool false]) w := by kernel_rfl
theorem as314_314 (v : Value) (w : World) : (Instr.typeAssert (.iface 314 v) 20 314 true).run Tryz.prog w = .ok (.tuple #[v, .bool true]) w := by kernel_rfl
theorem as313_311 (v : Value) (w : World) : (Instr.typeAssert (.iface 313 v) 20 311 true).run Tryz.prog w = .ok (.tuple #[.string ⟨#[]⟩, .bool false]) w := by kernel_rfl
theorem as313_313 (v : Value) (w : World) : (Instr.typeAssert (.iface 313 v) 20 313 true).run Tryz.prog w = .ok (.tuple #[v, .bool true]) w := by kernel_rfl
set_option maxHeartbeats 6400000 in
set_option maxRecDepth 100000 in
theorem xopen (R : Nat) (w : World) (h : XR R ⟨#[48, 48, 60, 47, 98, 121, 116, 101, 115, 62, 60, 47, 116, 97, 103, 62]⟩ w) (hT : Lib.Utf8Tabs 0 1 w) (hR : 2 ≤ R) :
    Calls Tryz.prog 247 #[.pointer (some ⟨R, 0, none⟩), .string ⟨#[98, 121, 116, 101, 115]⟩] w fun e w' => e = .returned (.agg #[.int .i64 6, .bool false, .bool false, .string ⟨#[]⟩, .int .i64 0, .int .u64 0, .string ⟨#[0]⟩, .slice none 0 0, .slice none 0 0]) ∧ XR R ⟨#[60, 47, 116, 97, 103, 62]⟩ w' ∧ Kp w w' (· = R) := by
  have hTx := Lib.hid (fun w h => xtext R w h)
  have hU := Lib.hid (fun w => xunhex w xis_ok)
  have hE := Lib.hid (fun w h => xend_c R w h)
  have hRl := blk_lt h
  replace h := Lib.hid h
  go_enter Tryz.func247, Tryz.ntmps247
  go_wp2_with fail
  generalize hw1 : World.alloc _ _ = w1
  obtain ⟨c1, x1, v1, B1, hs1⟩ := alloc_three hw1
  clear hw1
  obtain ⟨C, hC⟩ : ∃ C, w.heap.size = C := ⟨_, rfl⟩
  rw [hC] at c1 x1 v1 hs1 hRl
  rw [hC]
  obtain ⟨X, hX⟩ : ∃ X, C + 1 = X := ⟨_, rfl⟩
  rw [hX] at x1 v1
  rw [hX]
  obtain ⟨V, hV⟩ : ∃ V, X + 1 = V := ⟨_, rfl⟩
  rw [hV] at v1
  rw [hV]
  have hXX : w.heap.size ≤ C := Nat.le_of_eq hC
  have K1 := Lib.hid (Kp.of_below B1 (· = R))
  have j1 := h.out.below B1
  clear B1
  replace hC := Lib.hid hC
  replace hXX := Lib.hid hXX
  refine (hTx.out w1 j1).mono ?_
  rintro e w2 ⟨rfl, j2, q⟩
  have c2 := q.heap c1 (by omega)
  have x2 := q.heap x1 (by omega)
  have v2 := q.heap v1 (by omega)
  have K2 := Lib.hid (K1.out.trans q (fun _ hi => .inl hi))
  clear q K1 c1 x1 v1 j1
  replace j2 := Lib.hid j2
  replace c2 := Lib.hid c2
  replace x2 := Lib.hid x2
  replace v2 := Lib.hid v2
  go_wp2_with fail
  refine (hU.out w2).mono ?_
  rintro e w3 ⟨rfl, B3⟩
  have c3 := blk_below c2.out B3
  have x3 := Lib.hid (blk_below x2.out B3)
  have v3 := blk_below v2.out B3
  have j3 := Lib.hid (j2.out.below B3)
  have K3 := Lib.hid (K2.out.below B3)
  clear B3 c2 x2 v2 j2 K2
  obtain ⟨cc, cf⟩ := blk1 c3
  obtain ⟨vc0, vc1, vc2, vc3, vc4, vc5, vc6, vc7, vc8, vf0, vf1, vf2, vf3, vf4, vf5, vf6, vf7, vf8⟩ := blk9 v3
  have lv := blk_lt v3
  have lc := blk_lt c3
  replace c3 := Lib.hid c3
  replace v3 := Lib.hid v3
  go_upto_region 26 with fail
  generalize hw4 : World.setCell _ _ _ = w4
  obtain ⟨v4, q⟩ : w4.heap[V]? = some (.cells #[.int .i64 6, .bool false, .bool false, .string ⟨#[]⟩, .int .i64 0, .int .u64 0, .string ⟨#[0]⟩, .slice none 0 0, .slice none 0 0] 36 (0, 0)) ∧ Kp w3 w4 (· = V) := by
    rw [← hw4]
    exact ⟨set9_heap v3.out, set9_kp _ _ _ _ _ _ _ _ _ _ _⟩
  have c4 := q.heap c3.out (by omega)
  have x4 := Lib.hid (q.heap x3.out (by omega))
  have j4 := j3.out.kp q (by omega)
  have K4 := Lib.hid (K3.out.trans q (fun _ hi => .inr (by have := hXX.out; omega)))
  clear hw4 q v3 c3 x3 j3 K3 cc cf lv lc vc0 vc1 vc2 vc3 vc4 vc5 vc6 vc7 vc8 vf0 vf1 vf2 vf3 vf4 vf5 vf6 vf7 vf8
  obtain ⟨cc, cf⟩ := blk1 c4
  have lc := blk_lt c4
  replace c4 := Lib.hid c4
  replace v4 := Lib.hid v4
  go_wp2_with fail
  refine (hE.out w4 j4).mono ?_
  rintro e w5 ⟨rfl, j5, q⟩
  have x5 := q.heap x4.out (by omega)
  have v5 := q.heap v4.out (by omega)
  have K5 := Lib.hid (K4.out.trans q (fun _ hi => .inl hi))
  clear q x4 v4 c4 j4 K4 cc cf lc
  obtain ⟨zc0, zc1, zc2, zc3, zc4, zc5, zc6, zc7, zc8, zf0, zf1, zf2, zf3, zf4, zf5, zf6, zf7, zf8⟩ := blk9 x5
  obtain ⟨vc0, vc1, vc2, vc3, vc4, vc5, vc6, vc7, vc8, vf0, vf1, vf2, vf3, vf4, vf5, vf6, vf7, vf8⟩ := blk9 v5
  have lx := blk_lt x5
  have lv := blk_lt v5
  replace x5 := Lib.hid x5
  replace v5 := Lib.hid v5
  replace j5 := Lib.hid j5
  go_wp2_with fail
  refine bodyPost_ret (results_cell_row rfl _ _ X 36 #[.int .i64 6, .bool false, .bool false, .string ⟨#[]⟩, .int .i64 0, .int .u64 0, .string ⟨#[0]⟩, .slice none 0 0, .slice none 0 0] (0, 0) _ rfl (set9_heap x5.out) Tryz.underlying36 rfl (by kernel_rfl)) rfl ?_
  exact ⟨rfl, j5.out.kp (set9_kp _ _ _ _ _ _ _ _ _ _ _) (by omega), K5.out.trans (set9_kp _ _ _ _ _ _ _ _ _ _ _) (fun i hi => .inr (by have := hXX.out; omega))⟩
set_option maxHeartbeats 6400000 in
set_option maxRecDepth 100000 in
theorem xvalue_o (R : Nat) (w : World) (h : XR R ⟨#[48, 48, 60, 47, 98, 121, 116, 101, 115, 62, 60, 47, 116, 97, 103, 62]⟩ w) (hT : Lib.Utf8Tabs 0 1 w) (hR : 2 ≤ R) :
    Calls Tryz.prog 193 #[.pointer (some ⟨R, 0, none⟩), .iface 314 (.string ⟨#[98, 121, 116, 101, 115]⟩)] w fun e w' => e = .returned (.agg #[.int .i64 6, .bool false, .bool false, .string ⟨#[]⟩, .int .i64 0, .int .u64 0, .string ⟨#[0]⟩, .slice none 0 0, .slice none 0 0]) ∧ XR R ⟨#[60, 47, 116, 97, 103, 62]⟩ w' ∧ Kp w w' (· = R) := by
  have hO := Lib.hid (fun w h hT => xopen R w h hT hR)
  have hA1 := as314_311
  have hA2 := as314_313
  have hA3 := as314_314
  have hRl := blk_lt h
  replace h := Lib.hid h
  replace hT := Lib.hid hT
  go_enter Tryz.func193, Tryz.ntmps193
  go_wp2_with fail
  generalize hw1 : World.alloc w _ = w1
  obtain ⟨x1, B1⟩ := alloc_at hw1
  clear hw1
  obtain ⟨X, hX⟩ : ∃ X, w.heap.size = X := ⟨_, rfl⟩
  rw [hX] at x1 hRl
  rw [hX]
  have hXX : w.heap.size ≤ X := Nat.le_of_eq hX
  have K1 := Kp.of_below B1 (· = R)
  have j1 := h.out.below B1
  have hT1 := Utf8Tabs_below hT.out B1
  clear B1
  replace hX := Lib.hid hX
  replace hXX := Lib.hid hXX
  refine (hO.out w1 j1 hT1).mono ?_
  rintro e w2 ⟨rfl, j2, q⟩
  have x2 := q.heap x1 (by omega)
  have K2 := Lib.hid (K1.trans q (fun _ hi => .inl hi))
  clear q K1 x1 j1 hT1
  replace x2 := Lib.hid x2
  replace j2 := Lib.hid j2
  go_upto_region 17 with fail
  generalize hw3 : World.alloc w2 _ = w3
  obtain ⟨v3, B3⟩ := alloc_at hw3
  clear hw3
  obtain ⟨V, hV⟩ : ∃ V, w2.heap.size = V := ⟨_, rfl⟩
  have hXV : X < V := by rw [← hV]; exact blk_lt x2.out
  rw [hV] at v3
  rw [hV]
  have x3 := blk_below x2.out B3
  have j3 := Lib.hid (j2.out.below B3)
  have K3 := Lib.hid (K2.out.below B3)
  clear B3 x2 j2 K2 hV
  obtain ⟨zc0, zc1, zc2, zc3, zc4, zc5, zc6, zc7, zc8, zf0, zf1, zf2, zf3, zf4, zf5, zf6, zf7, zf8⟩ := blk9 x3
  obtain ⟨vc0, vc1, vc2, vc3, vc4, vc5, vc6, vc7, vc8, vf0, vf1, vf2, vf3, vf4, vf5, vf6, vf7, vf8⟩ := blk9 v3
  have lx := blk_lt x3
  have lv := blk_lt v3
  replace x3 := Lib.hid x3
  replace v3 := Lib.hid v3
  go_wp2_with fail
  refine bodyPost_ret (results_cell_row rfl _ _ X 36 #[.int .i64 6, .bool false, .bool false, .string ⟨#[]⟩, .int .i64 0, .int .u64 0, .string ⟨#[0]⟩, .slice none 0 0, .slice none 0 0] (0, 0) _ rfl (set9_heap x3.out) Tryz.underlying36 rfl (by kernel_rfl)) rfl ?_
  exact ⟨rfl, j3.out.kp (set9_kp _ _ _ _ _ _ _ _ _ _ _) (by omega), K3.out.trans (set9_kp _ _ _ _ _ _ _ _ _ _ _) (fun i hi => .inr (by have := hXX.out; omega))⟩
set_option maxHeartbeats 6400000 in
set_option maxRecDepth 100000 in
theorem xinner (R : Nat) (w : World) (h : XR R ⟨#[60, 98, 121, 116, 101, 115, 62, 48, 48, 60, 47, 98, 121, 116, 101, 115, 62, 60, 47, 116, 97, 103, 62]⟩ w) (hT : Lib.Utf8Tabs 0 1 w) (hR : 2 ≤ R) :
    Calls Tryz.prog 246 #[.pointer (some ⟨R, 0, none⟩), .string ⟨#[116, 97, 103]⟩] w fun e w' => e = .returned (.agg #[.int .i64 6, .bool false, .bool false, .string ⟨#[]⟩, .int .i64 0, .int .u64 0, .string ⟨#[0]⟩, .slice none 0 0, .slice none 0 0]) ∧ XR R ⟨#[]⟩ w' ∧ Kp w w' (· = R) := by
  have hB1 := Lib.hid (fun w h => xblanks R [60, 98, 121, 116, 101, 115, 62, 48, 48, 60, 47, 98, 121, 116, 101, 115, 62, 60, 47, 116, 97, 103, 62] w h (by decide +kernel))
  have hB2 := Lib.hid (fun w h => xblanks R [60, 47, 116, 97, 103, 62] w h (by decide +kernel))
  have hM := Lib.hid (fun w h => xmark_b R w h)
  have hVa := Lib.hid (fun w h hT => xvalue_o R w h hT hR)
  have hE := Lib.hid (fun w h => xend_d R w h)
  have hRl := blk_lt h
  replace h := Lib.hid h
  replace hT := Lib.hid hT
  go_enter Tryz.func246, Tryz.ntmps246
  go_wp2_with fail
  generalize hw1 : World.alloc w _ = w1
  obtain ⟨x1, B1⟩ := alloc_at hw1
  clear hw1
  obtain ⟨X, hX⟩ : ∃ X, w.heap.size = X := ⟨_, rfl⟩
  rw [hX] at x1 hRl
  rw [hX]
  have hXX : w.heap.size ≤ X := Nat.le_of_eq hX
  have K1 := Kp.of_below B1 (· = R)
  have j1 := h.out.below B1
  have hT1 := Utf8Tabs_below hT.out B1
  clear B1
  replace hX := Lib.hid hX
  replace hXX := Lib.hid hXX
  refine (hB1.out w1 j1).mono ?_
  rintro e w2 ⟨rfl, j2, q⟩
  have x2 := Lib.hid (q.heap x1 (by omega))
  have K2 := Lib.hid (K1.trans q (fun _ hi => .inl hi))
  have hT2 := Lib.hid (q.tabs hT1 (by omega) (by omega))
  clear q K1 x1 j1 hT1
  replace j2 := Lib.hid j2
  go_wp2_with fail
  refine (hM.out w2 j2.out).mono ?_
  rintro e w3 ⟨rfl, j3, q⟩
  have x3 := Lib.hid (q.heap x2.out (by omega))
  have K3 := Lib.hid (K2.out.trans q (fun _ hi => .inl hi))
  have hT3 := Lib.hid (q.tabs hT2.out (by omega) (by omega))
  clear q K2 x2 j2 hT2
  replace j3 := Lib.hid j3
  go_wp2_with fail
  refine (hVa.out w3 j3.out hT3.out).mono ?_
  rintro e w4 ⟨rfl, j4, q⟩
  have x4 := Lib.hid (q.heap x3.out (by omega))
  have K4 := Lib.hid (K3.out.trans q (fun _ hi => .inl hi))
  clear q K3 x3 j3 hT3
  replace j4 := Lib.hid j4
  go_upto_region 3 with fail
  generalize hw5 : World.alloc w4 _ = w5
  obtain ⟨v5, B5⟩ := alloc_at hw5
  clear hw5
  obtain ⟨V, hV⟩ : ∃ V, w4.heap.size = V := ⟨_, rfl⟩
  have hXV : X < V := by rw [← hV]; exact blk_lt x4.out
  rw [hV] at v5
  rw [hV]
  have x5 := Lib.hid (blk_below x4.out B5)
  have j5 := Lib.hid (j4.out.below B5)
  have K5 := Lib.hid (K4.out.below B5)
  clear B5 x4 j4 K4 hV
  replace v5 := Lib.hid v5
  go_wp2_with fail
  refine (hB2.out w5 j5.out).mono ?_
  rintro e w6 ⟨rfl, j6, q⟩
  have x6 := Lib.hid (q.heap x5.out (by omega))
  have v6 := Lib.hid (q.heap v5.out (by omega))
  have K6 := Lib.hid (K5.out.trans q (fun _ hi => .inl hi))
  clear q K5 x5 v5 j5
  replace j6 := Lib.hid j6
  go_wp2_with fail
  refine (hE.out w6 j6.out).mono ?_
  rintro e w7 ⟨rfl, j7, q⟩
  have x7 := q.heap x6.out (by omega)
  have v7 := q.heap v6.out (by omega)
  have K7 := Lib.hid (K6.out.trans q (fun _ hi => .inl hi))
  clear q K6 x6 v6 j6
  obtain ⟨zc0, zc1, zc2, zc3, zc4, zc5, zc6, zc7, zc8, zf0, zf1, zf2, zf3, zf4, zf5, zf6, zf7, zf8⟩ := blk9 x7
  obtain ⟨vc0, vc1, vc2, vc3, vc4, vc5, vc6, vc7, vc8, vf0, vf1, vf2, vf3, vf4, vf5, vf6, vf7, vf8⟩ := blk9 v7
  have lx := blk_lt x7
  have lv := blk_lt v7
  replace x7 := Lib.hid x7
  replace v7 := Lib.hid v7
  replace j7 := Lib.hid j7
  go_wp2_with fail
  refine bodyPost_ret (results_cell_row rfl _ _ X 36 #[.int .i64 6, .bool false, .bool false, .string ⟨#[]⟩, .int .i64 0, .int .u64 0, .string ⟨#[0]⟩, .slice none 0 0, .slice none 0 0] (0, 0) _ rfl (set9_heap x7.out) Tryz.underlying36 rfl (by kernel_rfl)) rfl ?_
  exact ⟨rfl, j7.out.kp (set9_kp _ _ _ _ _ _ _ _ _ _ _) (by omega), K7.out.trans (set9_kp _ _ _ _ _ _ _ _ _ _ _) (fun i hi => .inr (by have := hXX.out; omega))⟩
set_option maxHeartbeats 6400000 in
set_option maxRecDepth 100000 in
theorem xvalue_tag (R : Nat) (w : World) (h : XR R ⟨#[60, 98, 121, 116, 101, 115, 62, 48, 48, 60, 47, 98, 121, 116, 101, 115, 62, 60, 47, 116, 97, 103, 62]⟩ w) (hT : Lib.Utf8Tabs 0 1 w) (hR : 2 ≤ R) :
    Calls Tryz.prog 193 #[.pointer (some ⟨R, 0, none⟩), .iface 313 (.agg #[.string ⟨#[116, 97, 103]⟩, .string ⟨#[116]⟩])] w fun e w' => ∃ g, e = .returned (.agg (objL 9 ⟨#[116]⟩ (some ⟨g, 0, none⟩) 1 1).toArray) ∧ XR R ⟨#[]⟩ w' ∧ Kp w w' (· = R) ∧ Kid g w' ∧ w.heap.size + 1 ≤ g := by
  have hN := Lib.hid (fun w h hT => xinner R w h hT hR)
  have hA1 := as313_311
  have hA2 := as313_313
  have hI := Lib.hid xis_eq
  have hRl := blk_lt h
  unfold objL
  replace h := Lib.hid h
  replace hT := Lib.hid hT
  go_enter Tryz.func193, Tryz.ntmps193
  go_wp2_with fail
  generalize hw1 : World.alloc _ _ = w1
  obtain ⟨x1, n1, B1, hs1⟩ := alloc_two hw1
  clear hw1
  obtain ⟨X, hX⟩ : ∃ X, w.heap.size = X := ⟨_, rfl⟩
  rw [hX] at x1 n1 hRl hs1
  rw [hX]
  have hXX : w.heap.size ≤ X := Nat.le_of_eq hX
  have K1 := Kp.of_below B1 (· = R)
  have j1 := h.out.below B1
  have hT1 := Utf8Tabs_below hT.out B1
  clear B1
  replace hX := Lib.hid hX
  replace hXX := Lib.hid hXX
  obtain ⟨nc0, nc1, nf0, nf1⟩ := blk2 n1
  have ln := blk_lt n1
  refine (hI.out _).mono ?_
  rintro e w2 ⟨rfl, rfl⟩
  go_upto_region 13 with fail
  refine start_ (n := 7) (S := fun w' => w'.cell? ⟨X + 1, 1, none⟩ = some (.string ⟨#[116]⟩)) (ds := [6]) #[false, false, false, false, false, false, false] (by kernel_rfl) rfl rfl nc1 (fun hHeld => ?_)
  refine pure_ (i := 0) (N := some 30) (v := ?_) (a' := ?_) #[true, false, false, false, false, false, false] rfl rfl (by kernel_rfl) (fun _ _ _ h => h) (Or.inl ⟨by rfl, ?_⟩) ?_ ?_
  rotate_left
  · intro w'
    go_simp
    with_reducible rfl
  rotate_left
  · simp only [Act.put, List.setIfInBounds_toArray, List.set_cons_zero, List.set_cons_succ, i64_w, i32_w]
    rfl
  refine take_ (i := 1) (N := some 31) (v := ?_) (a' := ?_) #[true, true, false, false, false, false, false] rfl rfl (by kernel_rfl) (fun _ _ _ h => h) (Or.inl ⟨by rfl, ?_⟩) hHeld ?_ ?_
  rotate_left
  · rintro w' s0
    go_simp
    with_reducible rfl
  rotate_left
  · simp only [Act.put, List.setIfInBounds_toArray, List.set_cons_zero, List.set_cons_succ, i64_w, i32_w]
    rfl
  refine pure_ (i := 2) (N := some 32) (v := ?_) (a' := ?_) #[true, true, true, false, false, false, false] rfl rfl (by kernel_rfl) (fun _ _ _ h => h) (Or.inl ⟨by rfl, ?_⟩) ?_ ?_
  rotate_left
  · intro w'
    go_simp
    with_reducible rfl
  rotate_left
  · simp only [Act.put, List.setIfInBounds_toArray, List.set_cons_zero, List.set_cons_succ, i64_w, i32_w]
    rfl
  refine one_ (i := 3) (N := some 33) #[true, true, true, true, false, false, false] rfl rfl (by kernel_rfl) (by decide) (fun K hK => ?_)
  refine goes_ Tryz.func246 (by kernel_rfl) rfl #[.pointer (some ⟨R, 0, none⟩), .string ⟨#[116, 97, 103]⟩] (by rfl) rfl rfl (by simp [Act.eval]) ?_
  refine (hN.out w1.drew (j1.kp ((Kp.refl w1 (fun _ => False)).drew) (fun h => h)) (((Kp.refl w1 (fun _ => False)).drew).tabs hT1 (fun h => h) (fun h => h))).mono ?_
  rintro e w4 ⟨rfl, j4, q⟩
  replace q := Kp.undrew q
  have c4 := q.cell nc1 (show ¬ X + 1 = R by omega)
  have x4 := q.heap x1 (by omega)
  have K4 := K1.trans q (fun _ hi => .inl hi)
  refine ⟨_, rfl, hK.out _ _ c4 (fun hHeld4 => ?_)⟩
  clear hK K
  refine norm_ (a' := ?_) ?_ ?_
  rotate_left
  · show Act.put _ (some 33) _ = _
    simp only [Act.put, List.setIfInBounds_toArray, List.set_cons_zero, List.set_cons_succ, i64_w, i32_w]
    rfl
  refine one_ (i := 4) (N := some 34) #[true, true, true, true, true, false, false] rfl rfl (by kernel_rfl) (by decide) (fun K hK => ?_)
  refine value_ (v := .slice (some ⟨w4.heap.size, 0, none⟩) 1 1) (w1 := w4.alloc (.cells #[.int .i64 6, .bool false, .bool false, .string ⟨#[]⟩, .int .i64 0, .int .u64 0, .string ⟨#[0]⟩, .slice none 0 0, .slice none 0 0] 36 (0, 0))) (by rfl) rfl ?_ ?_
  · go_simp
  have B5 := below_alloc (Below.refl w4.heap.size w4) (.cells #[.int .i64 6, .bool false, .bool false, .string ⟨#[]⟩, .int .i64 0, .int .u64 0, .string ⟨#[0]⟩, .slice none 0 0, .slice none 0 0] 36 (0, 0))
  have k5 : Kid w4.heap.size (w4.alloc (.cells #[.int .i64 6, .bool false, .bool false, .string ⟨#[]⟩, .int .i64 0, .int .u64 0, .string ⟨#[0]⟩, .slice none 0 0, .slice none 0 0] 36 (0, 0))) := alloc1 w4 _
  have x5 := blk_below x4 B5
  have j5 := j4.below B5
  have K5 := K4.below B5
  have l4 := blk_lt x4
  refine hK.out _ _ (B5.cell (show X + 1 < w4.heap.size from World.block_lt_of_cell? _ _ c4) |>.trans c4) (fun hHeld5 => ?_)
  clear hK K
  refine norm_ (a' := ?_) ?_ ?_
  rotate_left
  · show Act.put _ (some 34) _ = _
    simp only [Act.put, List.setIfInBounds_toArray, List.set_cons_zero, List.set_cons_succ, i64_w, i32_w]
    rfl
  generalize hw5 : World.alloc w4 _ = w5 at *
  refine pure_ (i := 5) (N := some 35) (v := ?_) (a' := ?_) #[true, true, true, true, true, true, false] rfl rfl (by kernel_rfl) (fun _ _ _ h => h) (Or.inl ⟨by rfl, ?_⟩) ?_ ?_
  rotate_left
  · intro w'
    go_simp
    with_reducible rfl
  rotate_left
  · simp only [Act.put, List.setIfInBounds_toArray, List.set_cons_zero, List.set_cons_succ, i64_w, i32_w]
    rfl
  obtain ⟨zc0, zc1, zc2, zc3, zc4, zc5, zc6, zc7, zc8, zf0, zf1, zf2, zf3, zf4, zf5, zf6, zf7, zf8⟩ := blk9 x5
  have lx := blk_lt x5
  replace x5 := Lib.hid x5
  replace j5 := Lib.hid j5
  replace K5 := Lib.hid K5
  replace k5 := Lib.hid k5
  refine last_ (i := 6) (N := none) #[true, true, true, true, true, true, true] rfl rfl (by kernel_rfl) (by decide) (fun K hK => ?_)
  refine skip_ (w1 := ?_) (by rfl) rfl ?_ ?_
  rotate_left
  · go_simp
    rfl
  refine hK.out _ _ ?_
  clear hK
  clear K
  refine done_ (by kernel_rfl) ?_
  go_wp2_with fail
  refine bodyPost_ret (results_cell_row rfl _ _ X 36 #[.int .i64 9, .bool false, .bool false, .string ⟨#[]⟩, .int .i64 0, .int .u64 0, .string ⟨#[116]⟩, .slice none 0 0, .slice (some ⟨w4.heap.size, 0, none⟩) 1 1] (0, 0) _ rfl (set9_heap x5.out) Tryz.underlying36 rfl (by kernel_rfl)) rfl ?_
  exact ⟨w4.heap.size, rfl, j5.out.kp (set9_kp _ _ _ _ _ _ _ _ _ _ _) (by omega), K5.out.trans (set9_kp _ _ _ _ _ _ _ _ _ _ _) (fun i hi => .inr (by have := hXX.out; omega)), (set9_kp _ _ _ _ _ _ _ _ _ _ _).heap k5.out (by omega), by have := hX.out; omega⟩
end Go.Proofs.YtcpgcjmamjjokaaGreatDoor
namespace Go.Proofs.YtcpgcjmamjjokaaGreatDoor
open Go.RowKit Go.Maps Go.Proofs.YtcpgcjmamjjokaaGreatDoorW.PrintWords Go.Proofs.YtcpgcjmamjjokaaGreatDoorW.PrintLast Go.Proofs.YtcpgcjmamjjokaaGreatDoorW.PrintMore Go.Proofs.YtcpgcjmamjjokaaGreatDoor.PTopLimits
set_option linter.unusedVariables false
set_option linter.unusedSimpArgs false
theorem pidle (a b : Value) (w : World) :
    CallsD Tryz.prog 188 #[a, b] .returning w fun e u' w' => e = .returned (.tuple #[]) ∧ u' = .returning ∧ w' = w := by
  refine callsD_of_wpS Tryz.func188 rfl fun c₀ cs hu => ?_
  apply wpS_seq
  apply wpS_region
  simp [wpOpsS, go_sem, recoverD, hu, Tryz.ntmps188, Exit.thenS]
  apply wpS_seq
  apply wpS_region
  simp [wpOpsS, go_sem, recoverD, hu, Tryz.ntmps188, Exit.thenS]
  refine wpS_cond (t := false) (by simp [Act.eval, Array.replicate]) ?_
  simp only [Bool.false_eq_true, if_false]
  refine wpS_of_wp (wp_skip ?_)
  cases c₀
  simp_all [bodyPostS, results, Tryz.results188]
set_option maxHeartbeats 6400000 in
set_option maxRecDepth 100000 in
theorem pread (A c : Nat) (w : World) (hA : BytesAt w (some ⟨A, 0, none⟩) packL) (hc : 12 ≤ c) (hT : Lib.Utf8Tabs 0 1 w) (hs2 : 5 < w.heap.size) : Calls Tryz.prog 148 #[.slice (some ⟨A, 0, none⟩) 12 c] w (RdPost w) := by
  have hI := Lib.hid pis_eq
  have hC := Lib.hid (fun w b g cap h hT => @row_check w b g cap h hT)
  have hAl : A < w.heap.size := by
    obtain ⟨ad, h1, h2⟩ := hA.cell 0 (by decide)
    injection h1 with h1
    subst h1
    rw [Addr.add_mid] at h2
    exact World.block_lt_of_cell? _ _ h2
  replace hA := Lib.hid hA
  replace hT := Lib.hid hT
  have hmf : ∀ (fn : Fn) (first cap : Array Value) (w : World), (Instr.makeFunc fn first cap).run Tryz.prog w = .ok (.func fn first cap) w := fun _ _ _ _ => rfl
  go_enter_defers Tryz.func148, Tryz.ntmps148
  go_upto_region 4 with fail
  generalize hwA : World.alloc _ _ = wA
  obtain ⟨g0, g1, BA, hsA⟩ := alloc_two hwA
  clear hwA
  obtain ⟨G, hG⟩ : ∃ G, w.heap.size = G := ⟨_, rfl⟩
  rw [hG] at g0 g1 hsA hs2 hAl
  rw [hG]
  have hTA := Utf8Tabs_below hT.out BA
  go_wp2_with fail
  generalize hwB : World.alloc wA _ = wB
  obtain ⟨j1, BB⟩ := alloc_at hwB
  clear hwB
  have e0 := blk_below g0 BB
  have e1 := blk_below g1 BB
  have B1 := below_then BA BA.size BB
  replace j1 : CS 267 wA.heap.size A packL wB := CS.made hA.out B1 j1 hc (by decide)
  have hsB : w.heap.size ≤ wB.heap.size := B1.size
  rw [hG] at hsB
  have hTB := Utf8Tabs_below hTA BB
  obtain ⟨R, hR2⟩ : ∃ R, G + 2 = R := ⟨_, rfl⟩
  have hR := hR2
  rw [hsA, hR] at j1
  rw [hR]
  clear g0 g1 BA BB hTA hsA hR
  replace hG := Lib.hid hG
  have K1 := Lib.hid (Kp.of_below B1 (· = R))
  replace e0 := Lib.hid e0
  replace e1 := Lib.hid e1
  have hw : w.heap.size ≤ G := Nat.le_of_eq hG.out
  replace hw := Lib.hid hw
  clear B1
  refine (pitem_tag R A [] wB j1 (by omega) (by omega) hTB (by omega)).mono ?_
  rintro e w3 ⟨⟨b, g, cap⟩, rfl, j3, q, hown, hg⟩
  dsimp only at hown hg ⊢
  have e03 := q.heap e0.out (by omega)
  have e13 := q.heap e1.out (by omega)
  have K3 := Lib.hid (K1.out.trans q (fun _ hi => .inl hi))
  have hT3 := q.tabs hTB (by omega) (by omega)
  have l2 := blk_lt e0.out
  have l2' := blk_lt e1.out
  have l2r := j1.lt
  clear q K1 j1 e0 e1 hTB
  have hgG : g ≠ G := by omega
  have hgG1 : g ≠ G + 1 := by omega
  have hgR : g ≠ R := by omega
  obtain ⟨gc0, gc1, gc2, gc3, gc4, gc5, gc6, gc7, gc8, gf0, gf1, gf2, gf3, gf4, gf5, gf6, gf7, gf8⟩ := blk9 e03
  have l3 := blk_lt e03
  replace j3 := Lib.hid j3
  replace e03 := Lib.hid e03
  replace e13 := Lib.hid e13
  replace hown := Lib.hid hown
  replace hT3 := Lib.hid hT3
  unfold objL
  go_upto_region 6 with fail
  generalize hw4 : World.setCell _ _ _ = w4
  obtain ⟨e04, q⟩ : w4.heap[G]? = some (.cells #[.int .i64 9, .bool false, .bool false, .string ⟨#[]⟩, .int .i64 0, .int .u64 0, .string ⟨#[116]⟩, .slice none 0 0, .slice (some ⟨g, 0, none⟩) 1 cap] 36 (0, 0)) ∧ Kp w3 w4 (· = G) := by
    rw [← hw4]
    exact ⟨set9_heap e03.out, set9_kp _ _ _ _ _ _ _ _ _ _ _⟩
  have e14 := q.heap e13.out (by omega)
  have j4 := j3.out.kp q (by omega) (by omega)
  have hown4 := q.own hown.out (fun k hk e => by simp [Value.ownBlock] at hk; omega)
  have hT4 := q.tabs hT3.out (by omega) (by omega)
  have K4 := Lib.hid (K3.out.trans q (fun _ hi => .inr (by have := hw.out; omega)))
  clear hw4 q hown hT3 K3 j3 e03 e13 gc0 gc1 gc2 gc3 gc4 gc5 gc6 gc7 gc8 gf0 gf1 gf2 gf3 gf4 gf5 gf6 gf7 gf8 l3
  have e05 := e04
  have e15 := e14
  have hown5 := hown4
  have hT5 := hT4
  have K5 := K4
  clear e04 e14 hown4 hT4 K4
  obtain ⟨o5, c5, A5, j5, _⟩ := j4
  obtain ⟨rc0, rc1, rf0, rf1⟩ := blk2 j5
  obtain ⟨gc0, gc1, gc2, gc3, gc4, gc5, gc6, gc7, gc8, gf0, gf1, gf2, gf3, gf4, gf5, gf6, gf7, gf8⟩ := blk9 e05
  have l5 := blk_lt e05
  have l5r := blk_lt j5
  replace e05 := Lib.hid e05
  replace e15 := Lib.hid e15
  replace j5 := Lib.hid j5
  have hchk := Lib.hid (row_check hown5 hT5)
  unfold readV objL at hchk
  replace hown5 := Lib.hid hown5
  replace hT5 := Lib.hid hT5
  go_wp2_with fail
  refine (hI.out _).mono ?_
  rintro e w6 ⟨rfl, rfl⟩
  go_wp2_with fail
  refine hchk.out.mono ?_
  rintro e w6 ⟨rfl, B6⟩
  have e06 := blk_below e05.out B6
  have e16 := blk_below e15.out B6
  have hown6 := (Kp.of_below B6 (fun _ => False)).own hown5.out (fun _ _ h => h)
  have K6 := Lib.hid (K5.out.below B6)
  clear B6 e05 e15 hown5 hT5 K5 j5 rc0 rc1 rf0 rf1 gc0 gc1 gc2 gc3 gc4 gc5 gc6 gc7 gc8 gf0 gf1 gf2 gf3 gf4 gf5 gf6 gf7 gf8 l5 l5r hchk
  obtain ⟨gc0, gc1, gc2, gc3, gc4, gc5, gc6, gc7, gc8, gf0, gf1, gf2, gf3, gf4, gf5, gf6, gf7, gf8⟩ := blk9 e06
  obtain ⟨qc, qf⟩ := blk1 e16
  have l6 := blk_lt e06
  have l6' := blk_lt e16
  replace e06 := Lib.hid e06
  replace e16 := Lib.hid e16
  replace hown6 := Lib.hid hown6
  go_wp2_with fail
  generalize hw7 : World.setCell _ (Addr.mk (G + 1) 0 none) _ = w7
  obtain ⟨e07, e17, q⟩ : w7.heap[G]? = some (.cells #[.int .i64 9, .bool false, .bool false, .string ⟨#[]⟩, .int .i64 0, .int .u64 0, .string ⟨#[116]⟩, .slice none 0 0, .slice (some ⟨g, 0, none⟩) 1 cap] 36 (0, 0)) ∧ w7.cell? ⟨G + 1, 0, none⟩ = some (.int .i64 0) ∧ Kp w6 w7 (fun k => k = G ∨ k = G + 1) := by
    rw [← hw7]
    refine ⟨blk_far (set9_heap e06.out) (by show G ≠ G + 1; omega) _, (blk_cell (blk_put (cs' := #[.int .i64 0]) ((set9_kp w6 G _ _ _ _ _ _ _ _ _).heap e16.out (by omega)) 0 _ rfl) 0).trans rfl, ((set9_kp w6 G _ _ _ _ _ _ _ _ _).mono (fun k hk => .inl hk)).set_ (p := ⟨G + 1, 0, none⟩) (.inl (.inr rfl)) _⟩
  have hown7 := q.own hown6.out (fun k hk e => by simp [Value.ownBlock] at hk; omega)
  have K7 := K6.out.trans q (fun _ hi => .inr (by have := hw.out; omega))
  have hfin : RdPost w (.returned (.tuple #[readV g cap, .int .i64 0])) w7 := ⟨b, g, cap, rfl, hown7, ⟨K7.os, K7.tape, K7.output, K7.size, fun k hk => K7.block k hk (by have := hw.out; have := hG.out; omega)⟩⟩
  clear hw7
  refine leaves_cons (f := 188) (args := #[.pointer (some ⟨G, 0, none⟩), .pointer (some ⟨G + 1, 0, none⟩)]) (by simp) (by simp [go_sem]) ?_
  refine (pidle _ _ _).mono ?_
  rintro e u' w'' ⟨rfl, rfl, rfl⟩
  exact ⟨_, results_two rfl _ _ G (G + 1) #[.int .i64 9, .bool false, .bool false, .string ⟨#[]⟩, .int .i64 0, .int .u64 0, .string ⟨#[116]⟩, .slice none 0 0, .slice (some ⟨g, 0, none⟩) 1 cap] (0, 0) 0 rfl rfl e07 (by kernel_rfl) e17, hfin⟩
end Go.Proofs.YtcpgcjmamjjokaaGreatDoor
namespace Go.Proofs.YtcpgcjmamjjokaaGreatDoor
open Go.RowKit Go.Maps Go.Proofs.YtcpgcjmamjjokaaGreatDoorW.PrintWords Go.Proofs.YtcpgcjmamjjokaaGreatDoorW.PrintLast Go.Proofs.YtcpgcjmamjjokaaGreatDoorW.PrintMore Go.Proofs.YtcpgcjmamjjokaaGreatDoor.PTopLimits
set_option linter.unusedVariables false
set_option linter.unusedSimpArgs false
theorem xidle (a b : Value) (w : World) :
    CallsD Tryz.prog 191 #[a, b] .returning w fun e u' w' => e = .returned (.tuple #[]) ∧ u' = .returning ∧ w' = w := by
  refine callsD_of_wpS Tryz.func191 rfl fun c₀ cs hu => ?_
  apply wpS_seq
  apply wpS_region
  simp [wpOpsS, go_sem, recoverD, hu, Tryz.ntmps191, Exit.thenS]
  apply wpS_seq
  apply wpS_region
  simp [wpOpsS, go_sem, recoverD, hu, Tryz.ntmps191, Exit.thenS]
  refine wpS_cond (t := false) (by simp [Act.eval, Array.replicate]) ?_
  simp only [Bool.false_eq_true, if_false]
  refine wpS_of_wp (wp_skip ?_)
  cases c₀
  simp_all [bodyPostS, results, Tryz.results191]
set_option maxHeartbeats 6400000 in
set_option maxRecDepth 100000 in
theorem xread (A : Option Addr) (c : Nat) (w : World) (hA : BytesAt w A xmlL) (hT : Lib.Utf8Tabs 0 1 w) (hs2 : 2 ≤ w.heap.size) : Calls Tryz.prog 149 #[.slice A 37 c] w (RdPost w) := by
  have hB := Lib.hid (fun R l w h hl => xblanks R l w h hl)
  have hI := Lib.hid xis_eq
  have hC := Lib.hid (fun w b g cap h hT => @row_check w b g cap h hT)
  replace hA := Lib.hid hA
  replace hT := Lib.hid hT
  have hmf : ∀ (fn : Fn) (first cap : Array Value) (w : World), (Instr.makeFunc fn first cap).run Tryz.prog w = .ok (.func fn first cap) w := fun _ _ _ _ => rfl
  go_enter_defers Tryz.func149, Tryz.ntmps149
  go_upto_region 4 with fail
  generalize hwA : World.alloc _ _ = wA
  obtain ⟨g0, g1, BA, hsA⟩ := alloc_two hwA
  clear hwA
  obtain ⟨G, hG⟩ : ∃ G, w.heap.size = G := ⟨_, rfl⟩
  rw [hG] at g0 g1 hsA hs2
  rw [hG]
  have hstr : (convert 65 9 (.slice A 37 c)).run Tryz.prog wA = .ok (.string ⟨xmlL.toArray⟩) wA := (hA.out.below BA).str c
  have hTA := Utf8Tabs_below hT.out BA
  go_wp2_with fail
  clear hstr
  generalize hwB : World.alloc wA _ = wB
  obtain ⟨j1, BB⟩ := alloc_at hwB
  clear hwB
  replace j1 : XR wA.heap.size ⟨xmlL.toArray⟩ wB := j1
  have e0 := blk_below g0 BB
  have e1 := blk_below g1 BB
  have B1 := below_then BA BA.size BB
  have hTB := Utf8Tabs_below hTA BB
  obtain ⟨R, hR2⟩ : ∃ R, G + 2 = R := ⟨_, rfl⟩
  have hR := hR2
  rw [hsA, hR] at j1
  rw [hR]
  clear g0 g1 BA BB hTA hsA hR
  replace hG := Lib.hid hG
  have K1 := Lib.hid (Kp.of_below B1 (· = R))
  replace e0 := Lib.hid e0
  replace e1 := Lib.hid e1
  have hw : w.heap.size ≤ G := Nat.le_of_eq hG.out
  replace hw := Lib.hid hw
  clear B1
  refine (hB.out R xmlL _ j1 (by decide +kernel)).mono ?_
  rintro e w2 ⟨rfl, j2, q⟩
  have e02 := q.heap e0.out (by omega)
  have e12 := q.heap e1.out (by omega)
  have K2 := Lib.hid (K1.out.trans q (fun _ hi => .inl hi))
  have hT2 := q.tabs hTB (by omega) (by omega)
  clear q K1 j1 e0 e1 hTB
  replace e02 := Lib.hid e02
  replace e12 := Lib.hid e12
  go_wp2_with fail
  refine (xmark_a R w2 j2 hT2 (by omega)).mono ?_
  rintro e w2b ⟨rfl, j2b, q⟩
  replace e02 := Lib.hid (q.heap e02.out (by omega))
  replace e12 := Lib.hid (q.heap e12.out (by omega))
  replace K2 := Lib.hid (K2.out.trans q (fun _ hi => .inl hi))
  replace hT2 := q.tabs hT2 (by omega) (by omega)
  clear q j2
  have j2 := j2b
  clear j2b
  go_wp2_with fail
  refine (xvalue_tag R w2b j2 hT2 (by omega)).mono ?_
  rintro e w3 ⟨g, rfl, j3, q, kd, hg⟩
  obtain ⟨cap, hcap⟩ : ∃ cap, cap = 1 := ⟨_, rfl⟩
  obtain ⟨b, hb⟩ : ∃ b, b = g := ⟨_, rfl⟩
  have hown : w3.ownsRow b 36 9 (.slice (some ⟨g, 0, none⟩) 1 1) 1 kidRow := by rw [hb]; exact kid_row kd
  clear hb kd hcap cap
  have e03 := q.heap e02.out (by omega)
  have e13 := q.heap e12.out (by omega)
  have K3 := Lib.hid (K2.out.trans q (fun _ hi => .inl hi))
  have hT3 := q.tabs hT2 (by omega) (by omega)
  have l2 := blk_lt e02.out
  have l2' := blk_lt e12.out
  have l2r := blk_lt j2
  clear q K2 j2 e02 e12 hT2
  have hgG : g ≠ G := by omega
  have hgG1 : g ≠ G + 1 := by omega
  have hgR : g ≠ R := by omega
  obtain ⟨gc0, gc1, gc2, gc3, gc4, gc5, gc6, gc7, gc8, gf0, gf1, gf2, gf3, gf4, gf5, gf6, gf7, gf8⟩ := blk9 e03
  have l3 := blk_lt e03
  replace j3 := Lib.hid j3
  replace e03 := Lib.hid e03
  replace e13 := Lib.hid e13
  replace hown := Lib.hid hown
  replace hT3 := Lib.hid hT3
  unfold objL
  go_wp2_with fail
  generalize hw4 : World.setCell _ _ _ = w4
  obtain ⟨e04, q⟩ : w4.heap[G]? = some (.cells #[.int .i64 9, .bool false, .bool false, .string ⟨#[]⟩, .int .i64 0, .int .u64 0, .string ⟨#[116]⟩, .slice none 0 0, .slice (some ⟨g, 0, none⟩) 1 1] 36 (0, 0)) ∧ Kp w3 w4 (· = G) := by
    rw [← hw4]
    exact ⟨set9_heap e03.out, set9_kp _ _ _ _ _ _ _ _ _ _ _⟩
  have e14 := q.heap e13.out (by omega)
  have j4 := j3.out.kp q (by omega)
  have hown4 := q.own hown.out (fun k hk e => by simp [Value.ownBlock] at hk; omega)
  have hT4 := q.tabs hT3.out (by omega) (by omega)
  have K4 := Lib.hid (K3.out.trans q (fun _ hi => .inr (by have := hw.out; omega)))
  clear hw4 q hown hT3 K3 j3 e03 e13 gc0 gc1 gc2 gc3 gc4 gc5 gc6 gc7 gc8 gf0 gf1 gf2 gf3 gf4 gf5 gf6 gf7 gf8 l3
  refine (hB.out R [] _ j4 (by decide +kernel)).mono ?_
  rintro e w5 ⟨rfl, j5, q⟩
  have e05 := q.heap e04 (by omega)
  have e15 := q.heap e14 (by omega)
  have hown5 := q.own hown4 (fun k hk e => by simp [Value.ownBlock] at hk; omega)
  have hT5 := q.tabs hT4 (by omega) (by omega)
  have K5 := Lib.hid (K4.out.trans q (fun _ hi => .inl hi))
  clear q e04 e14 hown4 hT4 K4 j4
  obtain ⟨rc0, rc1, rf0, rf1⟩ := blk2 j5
  obtain ⟨gc0, gc1, gc2, gc3, gc4, gc5, gc6, gc7, gc8, gf0, gf1, gf2, gf3, gf4, gf5, gf6, gf7, gf8⟩ := blk9 e05
  have l5 := blk_lt e05
  have l5r := blk_lt j5
  replace e05 := Lib.hid e05
  replace e15 := Lib.hid e15
  replace j5 := Lib.hid j5
  have hchk := Lib.hid (row_check hown5 hT5)
  unfold readV objL at hchk
  replace hown5 := Lib.hid hown5
  replace hT5 := Lib.hid hT5
  go_wp2_with fail
  refine (hI.out _).mono ?_
  rintro e w6 ⟨rfl, rfl⟩
  go_wp2_with fail
  refine hchk.out.mono ?_
  rintro e w6 ⟨rfl, B6⟩
  have e06 := blk_below e05.out B6
  have e16 := blk_below e15.out B6
  have hown6 := (Kp.of_below B6 (fun _ => False)).own hown5.out (fun _ _ h => h)
  have K6 := Lib.hid (K5.out.below B6)
  clear B6 e05 e15 hown5 hT5 K5 j5 rc0 rc1 rf0 rf1 gc0 gc1 gc2 gc3 gc4 gc5 gc6 gc7 gc8 gf0 gf1 gf2 gf3 gf4 gf5 gf6 gf7 gf8 l5 l5r hchk
  obtain ⟨gc0, gc1, gc2, gc3, gc4, gc5, gc6, gc7, gc8, gf0, gf1, gf2, gf3, gf4, gf5, gf6, gf7, gf8⟩ := blk9 e06
  obtain ⟨qc, qf⟩ := blk1 e16
  have l6 := blk_lt e06
  have l6' := blk_lt e16
  replace e06 := Lib.hid e06
  replace e16 := Lib.hid e16
  replace hown6 := Lib.hid hown6
  go_wp2_with fail
  generalize hw7 : World.setCell _ (Addr.mk (G + 1) 0 none) _ = w7
  obtain ⟨e07, e17, q⟩ : w7.heap[G]? = some (.cells #[.int .i64 9, .bool false, .bool false, .string ⟨#[]⟩, .int .i64 0, .int .u64 0, .string ⟨#[116]⟩, .slice none 0 0, .slice (some ⟨g, 0, none⟩) 1 1] 36 (0, 0)) ∧ w7.cell? ⟨G + 1, 0, none⟩ = some (.int .i64 0) ∧ Kp w6 w7 (fun k => k = G ∨ k = G + 1) := by
    rw [← hw7]
    refine ⟨blk_far (set9_heap e06.out) (by show G ≠ G + 1; omega) _, (blk_cell (blk_put (cs' := #[.int .i64 0]) ((set9_kp w6 G _ _ _ _ _ _ _ _ _).heap e16.out (by omega)) 0 _ rfl) 0).trans rfl, ((set9_kp w6 G _ _ _ _ _ _ _ _ _).mono (fun k hk => .inl hk)).set_ (p := ⟨G + 1, 0, none⟩) (.inl (.inr rfl)) _⟩
  have hown7 := q.own hown6.out (fun k hk e => by simp [Value.ownBlock] at hk; omega)
  have K7 := K6.out.trans q (fun _ hi => .inr (by have := hw.out; omega))
  have hfin : RdPost w (.returned (.tuple #[readV g 1, .int .i64 0])) w7 := ⟨b, g, 1, rfl, hown7, ⟨K7.os, K7.tape, K7.output, K7.size, fun k hk => K7.block k hk (by have := hw.out; have := hG.out; omega)⟩⟩
  clear hw7
  refine leaves_cons (f := 191) (args := #[.pointer (some ⟨G, 0, none⟩), .pointer (some ⟨G + 1, 0, none⟩)]) (by simp) (by simp [go_sem]) ?_
  refine (xidle _ _ _).mono ?_
  rintro e u' w'' ⟨rfl, rfl, rfl⟩
  exact ⟨_, results_two rfl _ _ G (G + 1) #[.int .i64 9, .bool false, .bool false, .string ⟨#[]⟩, .int .i64 0, .int .u64 0, .string ⟨#[116]⟩, .slice none 0 0, .slice (some ⟨g, 0, none⟩) 1 1] (0, 0) 0 rfl rfl e07 (by kernel_rfl) e17, hfin⟩
end Go.Proofs.YtcpgcjmamjjokaaGreatDoor
