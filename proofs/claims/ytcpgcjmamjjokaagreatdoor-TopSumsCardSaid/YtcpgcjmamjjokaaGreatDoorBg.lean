/- run.of, run.New, at the sum and at the count. Written by gen_bg.py. -/
import Derived.Test.YtcpgcjmamjjokaaGreatDoorBf
import Derived.Test.YtcpgcjmamjjokaaGreatDoorDf
import Derived.Test.YtcpgcjmamjjokaaGreatDoorDe
namespace Go.Proofs.YtcpgcjmamjjokaaGreatDoor
open Go.RowKit Go.Proofs.YtcpgcjmamjjokaaGreatDoorW.PrintWords Go.Proofs.YtcpgcjmamjjokaaGreatDoorW.PrintMore
set_option linter.unusedVariables false
set_option linter.unusedSimpArgs false
def OfPost (op : Int) (M : Nat) (w : World) (e : Ending) (w' : World) : Prop := ∃ F, e = .returned (.iface 125 (.pointer (some ⟨F, 0, none⟩))) ∧ w.heap.size ≤ F ∧ w'.heap[F]? = some (fB (outV M) 0 op false ⟨#[48]⟩ 0 0) ∧ Below w.heap.size w w'
set_option maxHeartbeats 4000000 in
set_option maxRecDepth 100000 in
theorem of_10 (g cap B M : Nat) (w : World) (hN : NodeAt 10 g cap B w) :
    Calls Tryz.prog 29 #[.slice (some ⟨g, 0, none⟩) 1 cap, .int .i64 0, .func (.func 30) #[.pointer (some ⟨M, 0, none⟩)] #[]] w (OfPost 10 M w) := by
  have hmf : ∀ (fn : Fn) (first cap : Array Value) (w : World), (Instr.makeFunc fn first cap).run Tryz.prog w = .ok (.func fn first cap) w := fun _ _ _ _ => rfl
  replace hN := Lib.hid hN
  go_enter Tryz.func29, Tryz.ntmps29
  obtain ⟨G, hG⟩ : ∃ G, w.heap.size = G := ⟨_, rfl⟩
  go_upto_region 1 with fail
  generalize hw1 : World.alloc _ _ = w1
  obtain ⟨x1, y1, B1, s1⟩ : w1.heap[G]? = some (.cells #[.slice (some ⟨g, 0, none⟩) 1 cap] 23 (0, 0)) ∧ w1.heap[G + 1]? = some (.cells #[.func (.func 30) #[.pointer (some ⟨M, 0, none⟩)] #[]] 111 (0, 0)) ∧ Below w.heap.size w w1 ∧ w1.heap.size = G + 1 + 1 := by
    subst hw1 hG
    refine ⟨blk_alloc (heap_alloc_new _ _) _, alloc2 _ _ _, below_alloc (below_alloc (Below.refl _ _) _) _, ?_⟩
    exact (Array.size_push _).trans (congrArg (· + 1) (Array.size_push _))
  clear hw1
  obtain ⟨hbg, hgl, g0, g1, g2, g3, g4, g5, g6, g7, g8, g9, g10, g11, g12⟩ := node_cells ((Kp.of_below B1 (fun _ => False)).own hN.out (fun _ _ h => h))
  obtain ⟨xx, xy⟩ := blk1 x1
  replace x1 := Lib.hid x1
  replace y1 := Lib.hid y1
  replace B1 := Lib.hid B1
  replace s1 := Lib.hid s1
  replace hG := Lib.hid hG
  go_upto_region 2 with fail
  generalize hw2 : World.alloc w1 _ = w2
  rw [s1.out]
  obtain ⟨x2, y2, n2, B2, s2⟩ : w2.heap[G]? = some (.cells #[.slice (some ⟨g, 0, none⟩) 1 cap] 23 (0, 0)) ∧ w2.heap[G + 1]? = some (.cells #[.func (.func 30) #[.pointer (some ⟨M, 0, none⟩)] #[]] 111 (0, 0)) ∧ w2.heap[G + 1 + 1]? = some (.cells (exC 10) 73 (0, 0)) ∧ Below w.heap.size w w2 ∧ w2.heap.size = G + 1 + 1 + 1 := by
    subst hw2
    refine ⟨blk_alloc x1.out _, blk_alloc y1.out _, ?_, below_alloc B1.out _, ?_⟩
    · rw [← s1.out]
      exact heap_alloc_new _ _
    · exact (Array.size_push _).trans (congrArg (· + 1) s1.out)
  clear hw2 x1 y1 B1 s1 g0 g1 g2 g3 g4 g5 g6 g7 g8 g9 g10 g11 g12 xx xy hgl hbg
  obtain ⟨yx, yy⟩ := blk1 y2
  replace x2 := Lib.hid x2
  replace y2 := Lib.hid y2
  replace n2 := Lib.hid n2
  replace B2 := Lib.hid B2
  replace s2 := Lib.hid s2
  go_upto_region 3 with fail
  generalize hw3 : World.alloc w2 _ = w3
  rw [s2.out]
  obtain ⟨n3, p3, B3, s3⟩ : w3.heap[G + 1 + 1]? = some (.cells (exC 10) 73 (0, 0)) ∧ w3.heap[G + 1 + 1 + 1]? = some (.cells #[.func (.func 30) #[.pointer (some ⟨M, 0, none⟩)] #[], .int .i64 0] 113 (0, 0)) ∧ Below w.heap.size w w3 ∧ w3.heap.size = G + 1 + 1 + 1 + 1 := by
    subst hw3
    refine ⟨blk_alloc n2.out _, ?_, below_alloc B2.out _, ?_⟩
    · rw [← s2.out]
      exact heap_alloc_new _ _
    · exact (Array.size_push _).trans (congrArg (· + 1) s2.out)
  clear hw3 x2 y2 n2 B2 s2 yx yy
  replace n3 := Lib.hid n3
  replace p3 := Lib.hid p3
  replace B3 := Lib.hid B3
  replace s3 := Lib.hid s3
  go_upto_region 4 with fail
  generalize hw4 : World.alloc w3 _ = w4
  obtain ⟨n4, p4, B4⟩ : w4.heap[G + 1 + 1]? = some (.cells (exC 10) 73 (0, 0)) ∧ w4.heap[G + 1 + 1 + 1]? = some (.cells #[.func (.func 30) #[.pointer (some ⟨M, 0, none⟩)] #[], .int .i64 0] 113 (0, 0)) ∧ Below w.heap.size w w4 := by
    subst hw4
    exact ⟨blk_alloc n3.out _, blk_alloc p3.out _, below_alloc B3.out _⟩
  clear hw4 n3 p3 B3 s3
  obtain ⟨e0, e1, e2, e3, e4, e5, e6, e7, e8, e9, e10, e11, e12⟩ := ex_cells n4
  obtain ⟨p0, p1, q0, q1⟩ := blk2 p4
  have hl4 := blk_lt n4
  have hl5 := blk_lt p4
  replace n4 := Lib.hid n4
  replace p4 := Lib.hid p4
  replace B4 := Lib.hid B4
  go_wp2_with fail
  go_ret
  exact ⟨w4.heap.size, rfl, B4.out.size, heap_alloc_new _ _, below_alloc B4.out _⟩
set_option maxHeartbeats 4000000 in
set_option maxRecDepth 100000 in
theorem of_11 (g cap B M : Nat) (w : World) (hN : NodeAt 11 g cap B w) :
    Calls Tryz.prog 29 #[.slice (some ⟨g, 0, none⟩) 1 cap, .int .i64 0, .func (.func 30) #[.pointer (some ⟨M, 0, none⟩)] #[]] w (OfPost 11 M w) := by
  have hmf : ∀ (fn : Fn) (first cap : Array Value) (w : World), (Instr.makeFunc fn first cap).run Tryz.prog w = .ok (.func fn first cap) w := fun _ _ _ _ => rfl
  replace hN := Lib.hid hN
  go_enter Tryz.func29, Tryz.ntmps29
  obtain ⟨G, hG⟩ : ∃ G, w.heap.size = G := ⟨_, rfl⟩
  go_upto_region 1 with fail
  generalize hw1 : World.alloc _ _ = w1
  obtain ⟨x1, y1, B1, s1⟩ : w1.heap[G]? = some (.cells #[.slice (some ⟨g, 0, none⟩) 1 cap] 23 (0, 0)) ∧ w1.heap[G + 1]? = some (.cells #[.func (.func 30) #[.pointer (some ⟨M, 0, none⟩)] #[]] 111 (0, 0)) ∧ Below w.heap.size w w1 ∧ w1.heap.size = G + 1 + 1 := by
    subst hw1 hG
    refine ⟨blk_alloc (heap_alloc_new _ _) _, alloc2 _ _ _, below_alloc (below_alloc (Below.refl _ _) _) _, ?_⟩
    exact (Array.size_push _).trans (congrArg (· + 1) (Array.size_push _))
  clear hw1
  obtain ⟨hbg, hgl, g0, g1, g2, g3, g4, g5, g6, g7, g8, g9, g10, g11, g12⟩ := node_cells ((Kp.of_below B1 (fun _ => False)).own hN.out (fun _ _ h => h))
  obtain ⟨xx, xy⟩ := blk1 x1
  replace x1 := Lib.hid x1
  replace y1 := Lib.hid y1
  replace B1 := Lib.hid B1
  replace s1 := Lib.hid s1
  replace hG := Lib.hid hG
  go_upto_region 2 with fail
  generalize hw2 : World.alloc w1 _ = w2
  rw [s1.out]
  obtain ⟨x2, y2, n2, B2, s2⟩ : w2.heap[G]? = some (.cells #[.slice (some ⟨g, 0, none⟩) 1 cap] 23 (0, 0)) ∧ w2.heap[G + 1]? = some (.cells #[.func (.func 30) #[.pointer (some ⟨M, 0, none⟩)] #[]] 111 (0, 0)) ∧ w2.heap[G + 1 + 1]? = some (.cells (exC 11) 73 (0, 0)) ∧ Below w.heap.size w w2 ∧ w2.heap.size = G + 1 + 1 + 1 := by
    subst hw2
    refine ⟨blk_alloc x1.out _, blk_alloc y1.out _, ?_, below_alloc B1.out _, ?_⟩
    · rw [← s1.out]
      exact heap_alloc_new _ _
    · exact (Array.size_push _).trans (congrArg (· + 1) s1.out)
  clear hw2 x1 y1 B1 s1 g0 g1 g2 g3 g4 g5 g6 g7 g8 g9 g10 g11 g12 xx xy hgl hbg
  obtain ⟨yx, yy⟩ := blk1 y2
  replace x2 := Lib.hid x2
  replace y2 := Lib.hid y2
  replace n2 := Lib.hid n2
  replace B2 := Lib.hid B2
  replace s2 := Lib.hid s2
  go_upto_region 3 with fail
  generalize hw3 : World.alloc w2 _ = w3
  rw [s2.out]
  obtain ⟨n3, p3, B3, s3⟩ : w3.heap[G + 1 + 1]? = some (.cells (exC 11) 73 (0, 0)) ∧ w3.heap[G + 1 + 1 + 1]? = some (.cells #[.func (.func 30) #[.pointer (some ⟨M, 0, none⟩)] #[], .int .i64 0] 113 (0, 0)) ∧ Below w.heap.size w w3 ∧ w3.heap.size = G + 1 + 1 + 1 + 1 := by
    subst hw3
    refine ⟨blk_alloc n2.out _, ?_, below_alloc B2.out _, ?_⟩
    · rw [← s2.out]
      exact heap_alloc_new _ _
    · exact (Array.size_push _).trans (congrArg (· + 1) s2.out)
  clear hw3 x2 y2 n2 B2 s2 yx yy
  replace n3 := Lib.hid n3
  replace p3 := Lib.hid p3
  replace B3 := Lib.hid B3
  replace s3 := Lib.hid s3
  go_upto_region 4 with fail
  generalize hw4 : World.alloc w3 _ = w4
  obtain ⟨n4, p4, B4⟩ : w4.heap[G + 1 + 1]? = some (.cells (exC 11) 73 (0, 0)) ∧ w4.heap[G + 1 + 1 + 1]? = some (.cells #[.func (.func 30) #[.pointer (some ⟨M, 0, none⟩)] #[], .int .i64 0] 113 (0, 0)) ∧ Below w.heap.size w w4 := by
    subst hw4
    exact ⟨blk_alloc n3.out _, blk_alloc p3.out _, below_alloc B3.out _⟩
  clear hw4 n3 p3 B3 s3
  obtain ⟨e0, e1, e2, e3, e4, e5, e6, e7, e8, e9, e10, e11, e12⟩ := ex_cells n4
  obtain ⟨p0, p1, q0, q1⟩ := blk2 p4
  have hl4 := blk_lt n4
  have hl5 := blk_lt p4
  replace n4 := Lib.hid n4
  replace p4 := Lib.hid p4
  replace B4 := Lib.hid B4
  go_wp2_with fail
  go_ret
  exact ⟨w4.heap.size, rfl, B4.out.size, heap_alloc_new _ _, below_alloc B4.out _⟩
theorem of_ex (op : Int) (hop : op = 10 ∨ op = 11) (g cap B M : Nat) (w : World) (hN : NodeAt op g cap B w) :
    Calls Tryz.prog 29 #[.slice (some ⟨g, 0, none⟩) 1 cap, .int .i64 0, .func (.func 30) #[.pointer (some ⟨M, 0, none⟩)] #[]] w (OfPost op M w) := by
  rcases hop with rfl | rfl
  · exact of_10 g cap B M w hN
  · exact of_11 g cap B M w hN
end Go.Proofs.YtcpgcjmamjjokaaGreatDoor
