/- The Checker of events: takes within a list, and at its end. -/
import Derived.Test.YtcpgcjmamjjokaaGreatDoorCa
namespace Go.Proofs.YtcpgcjmamjjokaaGreatDoor
open Go.RowKit Go.Proofs.YtcpgcjmamjjokaaGreatDoorW.PrintWords Go.Proofs.YtcpgcjmamjjokaaGreatDoorW.PrintMore
set_option linter.unusedVariables false
set_option linter.unusedSimpArgs false
theorem kp_set {w w1 : World} {S : Nat → Prop} (h : Kp w w1 S) (g j : Nat) (hp : S g ∨ w.heap.size ≤ g) (u : Value) : Kp w (w1.setCell ⟨g, j, none⟩ u) S := h.set_ (p := ⟨g, j, none⟩) hp u
theorem mid_end {w w1 : World} {B C R F cap M nq : Nat} {many : Int} (hc1 : w1.heap[C]? = some (.cells #[.slice (some ⟨R, 0, none⟩) 1 cap, .bool false, .bool false] 110 (0, 0)))
    (hf1 : w1.heap[F]? = some (.cells #[.int .i64 7, .int .i64 many, .bool false, .map (some M)] 178 (0, 0))) (hr1 : w1.cell? ⟨R, 0, none⟩ = some (.pointer (some ⟨F, 0, none⟩))) (B1 : Below w.heap.size w w1)
    (b1 : B ≤ C) (b2 : B ≤ R) (b3 : B ≤ F) (n1 : C ≠ R) (n2 : C ≠ F) (n3 : R ≠ F) :
    Chk B C R F (many + 1) ((((w1.drewN nq).setCell ⟨F, 1, none⟩ (.int .i64 (many + 1))).setCell ⟨F, 2, none⟩ (.bool false)).setCell ⟨C, 1, none⟩ (.bool false)) ∧
      Kp w ((((w1.drewN nq).setCell ⟨F, 1, none⟩ (.int .i64 (many + 1))).setCell ⟨F, 2, none⟩ (.bool false)).setCell ⟨C, 1, none⟩ (.bool false)) (fun k => k = C ∨ k = F) := by
  refine ⟨⟨⟨cap, ?_⟩, ?_, ⟨M, ?_⟩, b1, b2, b3, n1, n2, n3⟩, ?_⟩
  · exact blk_put (blk_far (blk_far (blk_drewN hc1 nq) (p := ⟨F, 1, none⟩) n2 _) (p := ⟨F, 2, none⟩) n2 _) 1 _ rfl
  · have k : Kp w1 ((((w1.drewN nq).setCell ⟨F, 1, none⟩ (.int .i64 (many + 1))).setCell ⟨F, 2, none⟩ (.bool false)).setCell ⟨C, 1, none⟩ (.bool false)) (fun k => k = C ∨ k = F) :=
      kp_set (kp_set (kp_set ((Kp.refl _ _).drewN nq) F 1 (.inl (.inr rfl)) _) F 2 (.inl (.inr rfl)) _) C 1 (.inl (.inl rfl)) _
    exact k.cell hr1 (by rintro (h | h); exact n1 h.symm; exact n3 h)
  · exact blk_far (blk_put (cs' := #[.int .i64 7, .int .i64 (many + 1), .bool false, .map (some M)]) (blk_put (cs' := #[.int .i64 7, .int .i64 (many + 1), .bool false, .map (some M)]) (blk_drewN hf1 nq) 1 _ rfl) 2 _ rfl) (p := ⟨C, 1, none⟩) n2.symm _
  · exact kp_set (kp_set (kp_set ((Kp.of_below B1 _).drewN nq) F 1 (.inl (.inr rfl)) _) F 2 (.inl (.inr rfl)) _) C 1 (.inl (.inl rfl)) _
set_option maxHeartbeats 1600000 in
set_option maxRecDepth 100000 in
theorem takes_mid1 (neg : Bool) (d : ByteArray) (x : Int) (B C R F : Nat) (many : Nat) (hm : many < 1000000) (w : World) (hC : Chk B C R F many w) :
    Calls Tryz.prog 64 #[.pointer (some ⟨C, 0, none⟩), ev 1 neg d x] w fun e w' => e = .returned (.bool true) ∧ Chk B C R F (many + 1 : Nat) w' ∧ Kp w w' (fun k => k = C ∨ k = F) := by
  unfold ev
  obtain ⟨⟨cap, hc⟩, hr, ⟨M, hf⟩, b1, b2, b3, n1, n2, n3⟩ := hC
  obtain ⟨c0, c1, c2, f0, f1, f2⟩ := blk3 hc
  obtain ⟨d0, d1, d2, d3, g0, g1, g2, g3⟩ := blk4 hf
  have hlt := blk_lt hc
  have hltF := blk_lt hf
  have hltR := World.block_lt_of_cell? w _ hr
  simp only [] at hltR
  replace hc := Lib.hid hc
  replace hf := Lib.hid hf
  go_enter Tryz.func64, Tryz.ntmps64
  go_wp2_with fail
  generalize hw1 : World.alloc w _ = w1
  obtain ⟨d0', B1⟩ : w1.heap[w.heap.size]? = some (.cells #[.int .i64 1, .bool false, .bool neg, .string d, .int .i64 x, .int .u64 0, .string ⟨#[]⟩] 47 (0, 0)) ∧ Below w.heap.size w w1 := by
    subst hw1
    exact ⟨heap_alloc_new _ _, below_alloc (Below.refl _ _) _⟩
  have hc1 := blk_below hc.out B1
  have hf1 := blk_below hf.out B1
  have hr1 := (B1.cell (p := ⟨R, 0, none⟩) hltR).trans hr
  obtain ⟨c0, c1, c2, f0, f1, f2⟩ := blk3 hc1
  obtain ⟨d0, d1, d2, d3, g0, g1, g2, g3⟩ := blk4 hf1
  obtain ⟨e0, e1, e2, e3, e4, e5, e6, _, _, _, _, _, _, _⟩ := blk7 d0'
  have hne1 : w.heap.size ≠ C := by omega
  have hne2 : w.heap.size ≠ F := by omega
  clear hw1
  have HE := Lib.hid (fun nq => mid_end (nq := nq) hc1 hf1 hr1 B1 b1 b2 b3 n1 n2 n3)
  replace hc1 := Lib.hid hc1
  replace hf1 := Lib.hid hf1
  replace d0' := Lib.hid d0'
  replace B1 := Lib.hid B1
  go_quiet (fail)
  go_wp2_with fail
  go_ret
  exact ⟨rfl, HE.out _⟩
set_option maxHeartbeats 1600000 in
set_option maxRecDepth 100000 in
theorem takes_mid3 (neg : Bool) (d : ByteArray) (x : Int) (B C R F : Nat) (many : Nat) (hm : many < 1000000) (w : World) (hC : Chk B C R F many w) :
    Calls Tryz.prog 64 #[.pointer (some ⟨C, 0, none⟩), ev 3 neg d x] w fun e w' => e = .returned (.bool true) ∧ Chk B C R F (many + 1 : Nat) w' ∧ Kp w w' (fun k => k = C ∨ k = F) := by
  unfold ev
  obtain ⟨⟨cap, hc⟩, hr, ⟨M, hf⟩, b1, b2, b3, n1, n2, n3⟩ := hC
  obtain ⟨c0, c1, c2, f0, f1, f2⟩ := blk3 hc
  obtain ⟨d0, d1, d2, d3, g0, g1, g2, g3⟩ := blk4 hf
  have hlt := blk_lt hc
  have hltF := blk_lt hf
  have hltR := World.block_lt_of_cell? w _ hr
  simp only [] at hltR
  replace hc := Lib.hid hc
  replace hf := Lib.hid hf
  go_enter Tryz.func64, Tryz.ntmps64
  go_wp2_with fail
  generalize hw1 : World.alloc w _ = w1
  obtain ⟨d0', B1⟩ : w1.heap[w.heap.size]? = some (.cells #[.int .i64 3, .bool false, .bool neg, .string d, .int .i64 x, .int .u64 0, .string ⟨#[]⟩] 47 (0, 0)) ∧ Below w.heap.size w w1 := by
    subst hw1
    exact ⟨heap_alloc_new _ _, below_alloc (Below.refl _ _) _⟩
  have hc1 := blk_below hc.out B1
  have hf1 := blk_below hf.out B1
  have hr1 := (B1.cell (p := ⟨R, 0, none⟩) hltR).trans hr
  obtain ⟨c0, c1, c2, f0, f1, f2⟩ := blk3 hc1
  obtain ⟨d0, d1, d2, d3, g0, g1, g2, g3⟩ := blk4 hf1
  obtain ⟨e0, e1, e2, e3, e4, e5, e6, _, _, _, _, _, _, _⟩ := blk7 d0'
  have hne1 : w.heap.size ≠ C := by omega
  have hne2 : w.heap.size ≠ F := by omega
  clear hw1
  have HE := Lib.hid (fun nq => mid_end (nq := nq) hc1 hf1 hr1 B1 b1 b2 b3 n1 n2 n3)
  replace hc1 := Lib.hid hc1
  replace hf1 := Lib.hid hf1
  replace d0' := Lib.hid d0'
  replace B1 := Lib.hid B1
  go_quiet (fail)
  go_wp2_with fail
  go_ret
  exact ⟨rfl, HE.out _⟩
set_option maxHeartbeats 1600000 in
set_option maxRecDepth 100000 in
theorem takes_end (neg : Bool) (d : ByteArray) (x : Int) (B C R F : Nat) (many : Nat) (w : World) (hC : Chk B C R F many w) :
    Calls Tryz.prog 64 #[.pointer (some ⟨C, 0, none⟩), ev 11 neg d x] w fun e w' => e = .returned (.bool true) ∧ (∃ cap, w'.heap[C]? = some (.cells #[.slice (some ⟨R, 0, none⟩) 0 cap, .bool true, .bool false] 110 (0, 0))) ∧ Kp w w' (fun k => k = C) := by
  unfold ev
  obtain ⟨⟨cap, hc⟩, hr, ⟨M, hf⟩, b1, b2, b3, n1, n2, n3⟩ := hC
  obtain ⟨c0, c1, c2, f0, f1, f2⟩ := blk3 hc
  obtain ⟨d0, d1, d2, d3, g0, g1, g2, g3⟩ := blk4 hf
  have hlt := blk_lt hc
  have hltF := blk_lt hf
  have hltR := World.block_lt_of_cell? w _ hr
  simp only [] at hltR
  replace hc := Lib.hid hc
  replace hf := Lib.hid hf
  go_enter Tryz.func64, Tryz.ntmps64
  go_wp2_with fail
  generalize hw1 : World.alloc w _ = w1
  obtain ⟨d0', B1⟩ : w1.heap[w.heap.size]? = some (.cells #[.int .i64 11, .bool false, .bool neg, .string d, .int .i64 x, .int .u64 0, .string ⟨#[]⟩] 47 (0, 0)) ∧ Below w.heap.size w w1 := by
    subst hw1
    exact ⟨heap_alloc_new _ _, below_alloc (Below.refl _ _) _⟩
  have hc1 := blk_below hc.out B1
  have hf1 := blk_below hf.out B1
  have hr1 := (B1.cell (p := ⟨R, 0, none⟩) hltR).trans hr
  obtain ⟨c0, c1, c2, f0, f1, f2⟩ := blk3 hc1
  obtain ⟨d0, d1, d2, d3, g0, g1, g2, g3⟩ := blk4 hf1
  obtain ⟨e0, e1, e2, e3, e4, e5, e6, _, _, _, _, _, _, _⟩ := blk7 d0'
  have hne1 : w.heap.size ≠ C := by omega
  have hne2 : w.heap.size ≠ F := by omega
  clear hw1
  replace hc1 := Lib.hid hc1
  replace hf1 := Lib.hid hf1
  replace d0' := Lib.hid d0'
  replace B1 := Lib.hid B1
  go_quiet (fail)
  go_wp2_with fail
  go_region
  go_wp2_with fail
  go_ret
  exact ⟨rfl, ⟨cap, blk_put (blk_put (cs' := #[.slice (some ⟨R, 0, none⟩) 0 cap, .bool false, .bool false]) (blk_drewN hc1.out _) 0 _ rfl) 1 _ rfl⟩, kp_set (kp_set ((Kp.of_below B1.out (fun k => k = C)).drewN _) C 0 (.inl rfl) _) C 1 (.inl rfl) _⟩
end Go.Proofs.YtcpgcjmamjjokaaGreatDoor
