/- run.New, at the sum and at the count. -/
import Derived.Test.YtcpgcjmamjjokaaGreatDoorBg
namespace Go.Proofs.YtcpgcjmamjjokaaGreatDoor
open Go.RowKit Go.Proofs.YtcpgcjmamjjokaaGreatDoorW.PrintWords Go.Proofs.YtcpgcjmamjjokaaGreatDoorW.PrintMore
set_option linter.unusedVariables false
set_option linter.unusedSimpArgs false
/-- A machine, new. -/
structure Mach (op : Int) (M C F B : Nat) (w : World) : Prop where
  m : w.heap[M]? = some (mB (.iface 125 (.pointer (some ⟨F, 0, none⟩))) (.pointer (some ⟨C, 0, none⟩)) (.slice none 0 0) 0)
  c : w.heap[C]? = some (.cells #[.slice none 0 0, .bool false, .bool false] 110 (0, 0))
  f : w.heap[F]? = some (fB (outV M) 0 op false ⟨#[48]⟩ 0 0)
  bc : B ≤ C
  cm : C < M
  mf : M < F
def NewPost (op : Int) (w : World) (e : Ending) (w' : World) : Prop := ∃ M C F, e = .returned (.tuple #[.pointer (some ⟨M, 0, none⟩), .int .i64 0]) ∧ Mach op M C F w.heap.size w' ∧ Below w.heap.size w w'
set_option maxHeartbeats 4000000 in
set_option maxRecDepth 100000 in
theorem New_ex (op : Int) (hop : op = 10 ∨ op = 11) (g cap B : Nat) (w : World) (hN : NodeAt op g cap B w) :
    Calls Tryz.prog 7 #[.slice (some ⟨g, 0, none⟩) 1 cap] w (NewPost op w) := by
  have hmf : ∀ (fn : Fn) (first cap : Array Value) (w : World), (Instr.makeFunc fn first cap).run Tryz.prog w = .ok (.func fn first cap) w := fun _ _ _ _ => rfl
  have hB := fun w h => Back_ex op hop g cap B w h
  have hC := fun w => compile_ex op hop w
  have hO := fun g cap B M w h => of_ex op hop g cap B M w h
  unfold exV at hC
  replace hB := Lib.hid hB
  replace hC := Lib.hid hC
  replace hO := Lib.hid hO
  replace hN := Lib.hid hN
  go_enter Tryz.func7, Tryz.ntmps7
  go_wp2_with fail
  refine (hB.out w hN.out).mono ?_
  rintro e w1 ⟨rfl, B1⟩
  go_upto_region 2 with fail
  generalize hw2 : World.alloc w1 _ = w2
  obtain ⟨E, hE⟩ : ∃ E, w1.heap.size = E := ⟨_, rfl⟩
  rw [hE]
  obtain ⟨b2, B2⟩ : w2.heap[E]? = some (.cells (exC op) 38 (0, 0)) ∧ Below w.heap.size w w2 := by
    subst hw2 hE
    exact ⟨heap_alloc_new _ _, below_alloc B1 _⟩
  clear hw2 B1 hE hN hB
  obtain ⟨e0, e1, e2, e3, e4, e5, e6, e7, e8, e9, e10, e11, e12⟩ := ex_cells b2
  replace b2 := Lib.hid b2
  replace B2 := Lib.hid B2
  go_wp2_with fail
  refine (hC.out _).mono ?_
  rintro e w3 ⟨g2, cap2, rfl, hg2, hN3, B3⟩
  clear e0 e1 e2 e3 e4 e5 e6 e7 e8 e9 e10 e11 e12 b2
  replace B3 := Lib.hid (below_then B2.out B2.out.size B3)
  replace hN3 := Lib.hid hN3
  replace hg2 := Lib.hid hg2
  clear B2
  go_wp2_with fail
  refine (new_any _).mono ?_
  rintro e w4 ⟨rfl, hw4⟩
  obtain ⟨C, hCe⟩ : ∃ C, w3.heap.size = C := ⟨_, rfl⟩
  rw [hCe]
  obtain ⟨k4, N4, B4, s4⟩ : w4.heap[C]? = some (.cells #[.slice none 0 0, .bool false, .bool false] 110 (0, 0)) ∧ NodeAt op g2 cap2 w2.heap.size w4 ∧ Below w.heap.size w w4 ∧ w4.heap.size = C + 1 := by
    subst hw4 hCe
    exact ⟨heap_alloc_new _ _, (Kp.of_below (below_alloc (Below.refl _ _) _) (fun _ => False)).own hN3.out (fun _ _ h => h), below_alloc B3.out _, Array.size_push _⟩
  have hwC : w.heap.size ≤ C := by rw [← hCe]; exact B3.out.size
  clear hw4 hCe hN3 B3
  replace k4 := Lib.hid k4
  replace N4 := Lib.hid N4
  replace B4 := Lib.hid B4
  replace s4 := Lib.hid s4
  replace hwC := Lib.hid hwC
  go_upto_region 8 with fail
  generalize hw5 : World.alloc w4 _ = w5
  rw [s4.out]
  obtain ⟨k5, m5, N5, B5⟩ : w5.heap[C]? = some (.cells #[.slice none 0 0, .bool false, .bool false] 110 (0, 0)) ∧ w5.heap[C + 1]? = some (mB .nilIface (.pointer (some ⟨C, 0, none⟩)) (.slice none 0 0) 0) ∧ NodeAt op g2 cap2 w2.heap.size w5 ∧ Below w.heap.size w w5 := by
    subst hw5
    refine ⟨blk_alloc k4.out _, ?_, (Kp.of_below (below_alloc (Below.refl _ _) _) (fun _ => False)).own N4.out (fun _ _ h => h), below_alloc B4.out _⟩
    rw [← s4.out]
    exact heap_alloc_new _ _
  clear hw5 k4 N4 B4 s4
  replace k5 := Lib.hid k5
  replace m5 := Lib.hid m5
  replace N5 := Lib.hid N5
  replace B5 := Lib.hid B5
  go_wp2_with fail
  refine (hO.out g2 cap2 _ (C + 1) w5 N5.out).mono ?_
  rintro e w6 ⟨F, rfl, hF, f6, B6⟩
  have m6 := blk_below m5.out B6
  have k6 := blk_below k5.out B6
  have hF2 : C + 1 < F := Nat.lt_of_lt_of_le (blk_lt m5.out) hF
  replace B6 := Lib.hid (below_then B5.out B5.out.size B6)
  clear m5 k5 N5 B5 hF
  unfold mB at m6
  obtain ⟨c0, c1, c2, c3, c4, z0, z1, z2, z3, z4⟩ := blk5 m6
  have hlm := blk_lt m6
  replace m6 := Lib.hid m6
  replace k6 := Lib.hid k6
  replace f6 := Lib.hid f6
  replace hF2 := Lib.hid hF2
  go_wp2_with fail
  refine bodyPost_ret (results_tmp2 rfl _ _ _) rfl ?_
  refine ⟨C + 1, C, F, rfl, ⟨blk_put m6.out 0 _ rfl, blk_far (p := ⟨C + 1, 0, none⟩) k6.out (by simp) _, blk_far (p := ⟨C + 1, 0, none⟩) f6.out (by have := hF2.out; show F ≠ C + 1; omega) _, hwC.out, Nat.lt_succ_self C, hF2.out⟩, below_set B6.out (by have := hwC.out; show w.heap.size ≤ C + 1; omega)⟩
end Go.Proofs.YtcpgcjmamjjokaaGreatDoor
