/- code.Compile, at a mapping that is but one word. -/
import Derived.Test.YtcpgcjmamjjokaaGreatDoorBc
import Derived.Deep.Cut
import Derived.Laws.EntriesVeiled
namespace Go.Proofs.YtcpgcjmamjjokaaGreatDoor
open Go.RowKit Go.Proofs.YtcpgcjmamjjokaaGreatDoorW.PrintWords Go.Proofs.YtcpgcjmamjjokaaGreatDoorW.PrintMore
set_option linter.unusedVariables false
set_option linter.unusedSimpArgs false
theorem own_lower {w : World} {B B' : Nat} {e : TypeId} {size n : Nat} {v : Value} {xs : List Value} (hB : B' ≤ B) (h : w.ownsRow B e size v n xs) : w.ownsRow B' e size v n xs := by
  refine ⟨h.1, ?_⟩
  rcases h.2 with hc | ⟨g, cap, cur, rfl, hb, r⟩
  · exact .inl hc
  · exact .inr ⟨g, cap, cur, rfl, Nat.le_trans hB hb, r⟩
/-- The list of the one node. -/
def NodeAt (op : Int) (g cap B : Nat) (w : World) : Prop := w.ownsRow B 73 13 (.slice (some ⟨g, 0, none⟩) 1 cap) 1 (nodeC op)
def CompPost (op : Int) (w : World) (e : Ending) (w' : World) : Prop :=
  ∃ g cap, e = .returned (.tuple #[.slice (some ⟨g, 0, none⟩) 1 cap, .int .i64 0]) ∧ w.heap.size ≤ g ∧ NodeAt op g cap w.heap.size w' ∧ Below w.heap.size w w'
set_option maxHeartbeats 1600000 in
set_option maxRecDepth 100000 in
theorem compile_ex (op : Int) (hop : op = 10 ∨ op = 11) (w : World) : Calls Tryz.prog 6 #[exV op] w (CompPost op w) := by
  have hC := fun w => check_ex op hop w
  have hl := fun L Y w h => lay_ex op L Y w h
  unfold exV at *
  replace hC := Lib.hid hC
  replace hl := Lib.hid hl
  have hmf : ∀ (fn : Fn) (first cap : Array Value) (w : World), (Instr.makeFunc fn first cap).run Tryz.prog w = .ok (.func fn first cap) w := fun _ _ _ _ => rfl
  go_enter Tryz.func6, Tryz.ntmps6
  obtain ⟨G, hG⟩ : ∃ G, w.heap.size = G := ⟨_, rfl⟩
  go_wp2_with fail
  generalize hw1 : World.alloc w _ = w1
  obtain ⟨b1, B1⟩ : w1.heap[G]? = some (.cells (exC op) 38 (0, 0)) ∧ Below w.heap.size w w1 := by
    subst hw1 hG
    exact ⟨heap_alloc_new _ _, below_alloc (Below.refl _ _) _⟩
  clear hw1
  replace hG := Lib.hid hG
  refine (hC.out _).mono ?_
  rintro e w2 ⟨rfl, B2⟩
  replace b1 := blk_below b1 B2
  replace B2 := Lib.hid (below_then B1 B1.size B2)
  obtain ⟨c0, c1, c2, c3, c4, c5, c6, c7, c8, c9, c10, c11, c12⟩ := ex_cells b1
  have hlt := blk_lt b1
  replace b1 := Lib.hid b1
  clear B1
  go_upto_region 6 with fail
  generalize hw3 : World.alloc _ _ = w3
  obtain ⟨L, hL⟩ : ∃ L, w2.heap.size = L := ⟨_, rfl⟩
  obtain ⟨l3, y3, b3, B3⟩ : w3.heap[L]? = some (.cells #[.slice none 0 0] 23 (0, 0)) ∧ w3.heap[L + 1]? = some (.cells #[.nilFunc] 69 (0, 0)) ∧ w3.heap[G]? = some (.cells (exC op) 38 (0, 0)) ∧ Below w.heap.size w w3 := by
    subst hw3 hL
    exact ⟨blk_alloc (heap_alloc_new _ _) _, alloc2 _ _ _, blk_alloc (blk_alloc b1.out _) _, below_alloc (below_alloc B2.out _) _⟩
  clear hw3
  rw [hL]
  have hwL : w.heap.size ≤ L := by rw [← hL]; exact B2.out.size
  obtain ⟨y0, z0⟩ := blk1 y3
  replace hL := Lib.hid hL
  replace hwL := Lib.hid hwL
  clear B2 b1 c0 c1 c2 c3 c4 c5 c6 c7 c8 c9 c10 c11 c12 hlt
  obtain ⟨c0, c1, c2, c3, c4, c5, c6, c7, c8, c9, c10, c11, c12⟩ := ex_cells b3
  have hlt := blk_lt b3
  have hlt2 := blk_lt l3
  have hlt3 := blk_lt y3
  have hGL : G ≠ L + 1 := by have := hwL.out; have := hG.out; omega
  replace b3 := Lib.hid b3
  replace l3 := Lib.hid l3
  replace y3 := Lib.hid y3
  replace B3 := Lib.hid B3
  go_wp2_with fail
  generalize hw4 : World.setCell w3 _ _ = w4
  obtain ⟨l4, B4⟩ : w4.heap[L]? = some (.cells #[.slice none 0 0] 23 (0, 0)) ∧ Below w.heap.size w w4 := by
    subst hw4
    exact ⟨blk_far (p := ⟨L + 1, 0, none⟩) l3.out (by simp) _, below_set B3.out (by have := hwL.out; show w.heap.size ≤ L + 1; omega)⟩
  clear hw4 l3 y3 y0 z0 b3 c0 c1 c2 c3 c4 c5 c6 c7 c8 c9 c10 c11 c12 B3 hlt hlt2 hlt3
  refine (hl.out L (L + 1) w4 l4).mono ?_
  rintro e w5 ⟨rfl, g, cap, hgL, hg, hL5, hown, K5⟩
  obtain ⟨x5, _⟩ := blk1 hL5
  have B5 := Lib.hid (K5.toBelow B4 B4.size (fun k hk => by have := hwL.out; have h1 : k = L := hk; omega))
  have hown5 := Lib.hid (own_lower B4.size hown)
  have hg5 := Lib.hid (Nat.le_trans B4.size hg)
  clear l4 B4 hgL hg hL5 hown K5
  go_wp2_with fail
  refine bodyPost_ret (results_tmp2 rfl _ _ _) rfl ?_
  exact ⟨g, cap, rfl, hg5.out, hown5.out, B5.out⟩
end Go.Proofs.YtcpgcjmamjjokaaGreatDoor
