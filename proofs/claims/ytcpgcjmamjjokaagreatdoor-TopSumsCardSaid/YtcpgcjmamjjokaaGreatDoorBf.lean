/- code.Back, at one node that is but one word. Written by gen_bf.py. -/
import Derived.Test.YtcpgcjmamjjokaaGreatDoorBe
namespace Go.Proofs.YtcpgcjmamjjokaaGreatDoor
open Go.RowKit Go.Proofs.YtcpgcjmamjjokaaGreatDoorW.PrintWords Go.Proofs.YtcpgcjmamjjokaaGreatDoorW.PrintMore
set_option linter.unusedVariables false
set_option linter.unusedSimpArgs false
def BackPost2 (op : Int) (w : World) (e : Ending) (w' : World) : Prop := e = .returned (.tuple #[.agg #[.int .i64 op, .string ⟨#[]⟩, .slice none 0 0, .slice none 0 0, .int .i64 0, .bool false, .bool false, .string ⟨#[]⟩, .int .i64 0, .int .u64 0, .string ⟨#[]⟩, .slice none 0 0, .slice none 0 0], .int .i64 0]) ∧ Below w.heap.size w w'
set_option maxHeartbeats 4000000 in
set_option maxRecDepth 100000 in
theorem Back_ex (op : Int) (hop : op = 10 ∨ op = 11) (g cap B : Nat) (w : World) (hN : NodeAt op g cap B w) :
    Calls Tryz.prog 27 #[.slice (some ⟨g, 0, none⟩) 1 cap] w (BackPost2 op w) := by
  have hC := fun w => check_ex op hop w
  have hB := fun w h => back_ex op g cap B w h
  unfold exV at hC
  replace hC := Lib.hid hC
  replace hB := Lib.hid hB
  replace hN := Lib.hid hN
  go_enter Tryz.func27, Tryz.ntmps27
  obtain ⟨G, hG⟩ : ∃ G, w.heap.size = G := ⟨_, rfl⟩
  go_wp2_with fail
  generalize hw1 : World.alloc w _ = w1
  obtain ⟨r1, B1, s1⟩ : w1.heap[G]? = some (.cells (exC 0) 38 (0, 0)) ∧ Below w.heap.size w w1 ∧ G + 1 ≤ w1.heap.size := by
    subst hw1 hG
    exact ⟨heap_alloc_new _ _, below_alloc (Below.refl _ _) _, Nat.le_of_eq (Array.size_push _).symm⟩
  clear hw1
  refine (hB.out w1 ((Kp.of_below B1 (fun _ => False)).own hN.out (fun _ _ h => h))).mono ?_
  rintro e w2 ⟨A, rfl, B2⟩
  replace r1 := blk_below r1 B2
  have s2 := Nat.le_trans s1 B2.size
  replace B2 := below_then B1 B1.size B2
  clear hN B1 s1
  unfold exV
  go_upto_region 4 with fail
  generalize hw3 : World.alloc w2 _ = w3
  obtain ⟨E, hE⟩ : ∃ E, w2.heap.size = E := ⟨_, rfl⟩
  rw [hE]
  obtain ⟨r3, b3, B3⟩ : w3.heap[G]? = some (.cells (exC 0) 38 (0, 0)) ∧ w3.heap[E]? = some (.cells (exC op) 38 (0, 0)) ∧ Below w.heap.size w w3 := by
    subst hw3 hE
    exact ⟨blk_alloc r1 _, heap_alloc_new _ _, below_alloc B2 _⟩
  rw [hE] at s2
  clear hw3 r1 B2 hE
  obtain ⟨e0, e1, e2, e3, e4, e5, e6, e7, e8, e9, e10, e11, e12⟩ := ex_cells b3
  replace r3 := Lib.hid r3
  replace b3 := Lib.hid b3
  replace B3 := Lib.hid B3
  replace s2 := Lib.hid s2
  replace hG := Lib.hid hG
  go_wp2_with fail
  refine (hC.out _).mono ?_
  rintro e w4 ⟨rfl, B4⟩
  have r4 := blk_below r3.out B4
  have b4 := blk_below b3.out B4
  replace B4 := Lib.hid (below_then B3.out B3.out.size B4)
  clear e0 e1 e2 e3 e4 e5 e6 e7 e8 e9 e10 e11 e12 r3 b3 B3
  obtain ⟨e0, e1, e2, e3, e4, e5, e6, e7, e8, e9, e10, e11, e12⟩ := ex_cells b4
  obtain ⟨q0, q1, q2, q3, q4, q5, q6, q7, q8, q9, q10, q11, q12⟩ := ex_cells r4
  obtain ⟨t0, t1, t2, t3, t4, t5, t6, t7, t8, t9, t10, t11, t12⟩ := ex_frz r4
  have hl4 := blk_lt r4
  have hne : E ≠ G := by have := s2.out; omega
  replace r4 := Lib.hid r4
  replace b4 := Lib.hid b4
  go_wp2_with fail
  generalize hw6 : World.setCell _ _ _ = w6
  have hwG : w.heap.size ≤ G := by have := hG.out; omega
  obtain ⟨r6, C6⟩ : w6.heap[G]? = some (.cells (exC op) 38 (0, 0)) ∧ Below w.heap.size w w6 := by
    subst hw6
    refine ⟨?_, ?_⟩
    · exact (blk_put (cs' := #[.int .i64 op, .string ⟨#[]⟩, .slice none 0 0, .slice none 0 0, .int .i64 0, .bool false, .bool false, .string ⟨#[]⟩, .int .i64 0, .int .u64 0, .string ⟨#[]⟩, .slice none 0 0, .slice none 0 0]) (blk_put (cs' := #[.int .i64 op, .string ⟨#[]⟩, .slice none 0 0, .slice none 0 0, .int .i64 0, .bool false, .bool false, .string ⟨#[]⟩, .int .i64 0, .int .u64 0, .string ⟨#[]⟩, .slice none 0 0, .slice none 0 0]) (blk_put (cs' := #[.int .i64 op, .string ⟨#[]⟩, .slice none 0 0, .slice none 0 0, .int .i64 0, .bool false, .bool false, .string ⟨#[]⟩, .int .i64 0, .int .u64 0, .string ⟨#[]⟩, .slice none 0 0, .slice none 0 0]) (blk_put (cs' := #[.int .i64 op, .string ⟨#[]⟩, .slice none 0 0, .slice none 0 0, .int .i64 0, .bool false, .bool false, .string ⟨#[]⟩, .int .i64 0, .int .u64 0, .string ⟨#[]⟩, .slice none 0 0, .slice none 0 0]) (blk_put (cs' := #[.int .i64 op, .string ⟨#[]⟩, .slice none 0 0, .slice none 0 0, .int .i64 0, .bool false, .bool false, .string ⟨#[]⟩, .int .i64 0, .int .u64 0, .string ⟨#[]⟩, .slice none 0 0, .slice none 0 0]) (blk_put (cs' := #[.int .i64 op, .string ⟨#[]⟩, .slice none 0 0, .slice none 0 0, .int .i64 0, .bool false, .bool false, .string ⟨#[]⟩, .int .i64 0, .int .u64 0, .string ⟨#[]⟩, .slice none 0 0, .slice none 0 0]) (blk_put (cs' := #[.int .i64 op, .string ⟨#[]⟩, .slice none 0 0, .slice none 0 0, .int .i64 0, .bool false, .bool false, .string ⟨#[]⟩, .int .i64 0, .int .u64 0, .string ⟨#[]⟩, .slice none 0 0, .slice none 0 0]) (blk_put (cs' := #[.int .i64 op, .string ⟨#[]⟩, .slice none 0 0, .slice none 0 0, .int .i64 0, .bool false, .bool false, .string ⟨#[]⟩, .int .i64 0, .int .u64 0, .string ⟨#[]⟩, .slice none 0 0, .slice none 0 0]) (blk_put (cs' := #[.int .i64 op, .string ⟨#[]⟩, .slice none 0 0, .slice none 0 0, .int .i64 0, .bool false, .bool false, .string ⟨#[]⟩, .int .i64 0, .int .u64 0, .string ⟨#[]⟩, .slice none 0 0, .slice none 0 0]) (blk_put (cs' := #[.int .i64 op, .string ⟨#[]⟩, .slice none 0 0, .slice none 0 0, .int .i64 0, .bool false, .bool false, .string ⟨#[]⟩, .int .i64 0, .int .u64 0, .string ⟨#[]⟩, .slice none 0 0, .slice none 0 0]) (blk_put (cs' := #[.int .i64 op, .string ⟨#[]⟩, .slice none 0 0, .slice none 0 0, .int .i64 0, .bool false, .bool false, .string ⟨#[]⟩, .int .i64 0, .int .u64 0, .string ⟨#[]⟩, .slice none 0 0, .slice none 0 0]) (blk_put (cs' := #[.int .i64 op, .string ⟨#[]⟩, .slice none 0 0, .slice none 0 0, .int .i64 0, .bool false, .bool false, .string ⟨#[]⟩, .int .i64 0, .int .u64 0, .string ⟨#[]⟩, .slice none 0 0, .slice none 0 0]) (blk_put (cs' := #[.int .i64 op, .string ⟨#[]⟩, .slice none 0 0, .slice none 0 0, .int .i64 0, .bool false, .bool false, .string ⟨#[]⟩, .int .i64 0, .int .u64 0, .string ⟨#[]⟩, .slice none 0 0, .slice none 0 0]) r4.out 0 _ rfl) 1 _ rfl) 2 _ rfl) 3 _ rfl) 4 _ rfl) 5 _ rfl) 6 _ rfl) 7 _ rfl) 8 _ rfl) 9 _ rfl) 10 _ rfl) 11 _ rfl) 12 _ rfl)
    · exact (below_set (below_set (below_set (below_set (below_set (below_set (below_set (below_set (below_set (below_set (below_set (below_set (below_set B4.out hwG) hwG) hwG) hwG) hwG) hwG) hwG) hwG) hwG) hwG) hwG) hwG) hwG)
  clear hw6
  obtain ⟨z0, z1, z2, z3, z4, z5, z6, z7, z8, z9, z10, z11, z12⟩ := ex_cells r6
  exact bodyPost_ret (v := .tuple #[.agg #[.int .i64 op, .string ⟨#[]⟩, .slice none 0 0, .slice none 0 0, .int .i64 0, .bool false, .bool false, .string ⟨#[]⟩, .int .i64 0, .int .u64 0, .string ⟨#[]⟩, .slice none 0 0, .slice none 0 0], .int .i64 0]) (by simp [results, Tryz.results27, go_sem, z0, z1, z2, z3, z4, z5, z6, z7, z8, z9, z10, z11, z12]) rfl ⟨rfl, C6⟩
end Go.Proofs.YtcpgcjmamjjokaaGreatDoor
