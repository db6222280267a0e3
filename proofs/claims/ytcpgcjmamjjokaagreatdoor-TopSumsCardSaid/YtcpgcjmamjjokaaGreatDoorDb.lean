/- The machine's step: fold. -/
import Derived.Test.YtcpgcjmamjjokaaGreatDoorDa
namespace Go.Proofs.YtcpgcjmamjjokaaGreatDoor
open Go.RowKit Go.Proofs.YtcpgcjmamjjokaaGreatDoorW.PrintWords Go.Proofs.YtcpgcjmamjjokaaGreatDoorW.PrintMore
set_option linter.unusedVariables false
set_option linter.unusedSimpArgs false
/-- The fold's block. -/
def fB (out : Value) (deep op : Int) (neg : Bool) (d : ByteArray) (x n : Int) : Obj := .cells #[out, .int .i64 deep, .int .i64 op, .bool neg, .string d, .int .i64 x, .int .i64 n] 127 (0, 0)
theorem bcell {W w1 : World} (hb : Below W.heap.size W w1) : (∀ b o, b < W.heap.size → w1.cell? ⟨b, o, none⟩ = W.cell? ⟨b, o, none⟩) ∧ (∀ b o, b < W.heap.size → w1.frozen? ⟨b, o, none⟩ = W.frozen? ⟨b, o, none⟩) :=
  ⟨fun b o h => hb.cell (p := ⟨b, o, none⟩) h, fun b o h => hb.frozen (p := ⟨b, o, none⟩) h⟩
theorem num_end {w w2 w3 : World} {F : Nat} {out : Value} {neg : Bool} {d : ByteArray} {x : Int} {neg3 : Bool} {d3 : ByteArray} {x3 n : Int} (hF2 : w2.heap[F]? = some (fB out 1 10 neg d x n)) (K2 : Kp w w2 (fun k => k = F)) (B3 : Below w2.heap.size w2 w3) :
    (((w3.setCell ⟨F, 3, none⟩ (.bool neg3)).setCell ⟨F, 4, none⟩ (.string d3)).setCell ⟨F, 5, none⟩ (.int .i64 x3)).heap[F]? = some (fB out 1 10 neg3 d3 x3 n) ∧
      Kp w (((w3.setCell ⟨F, 3, none⟩ (.bool neg3)).setCell ⟨F, 4, none⟩ (.string d3)).setCell ⟨F, 5, none⟩ (.int .i64 x3)) (fun k => k = F) := by
  have h := blk_below hF2 B3
  unfold fB at h
  refine ⟨blk_put (blk_put (cs' := #[out, .int .i64 1, .int .i64 10, .bool neg3, .string d3, .int .i64 x, .int .i64 n]) (blk_put (cs' := #[out, .int .i64 1, .int .i64 10, .bool neg3, .string d, .int .i64 x, .int .i64 n]) h 3 _ rfl) 4 _ rfl) 5 _ rfl, ?_⟩
  exact kp_set (S := fun k => k = F) (kp_set (S := fun k => k = F) (kp_set (S := fun k => k = F) (K2.below B3) F 3 (.inl rfl) _) F 4 (.inl rfl) _) F 5 (.inl rfl) _
theorem num_drew {w w3 : World} (h : Below w.drew.drew.heap.size w.drew.drew w3) : Below w.heap.size w w3 := ⟨h.os, h.tape, h.output, h.size, h.block⟩
theorem num_box {w2 w3 : World} {o : Obj} {a b c : Value} (h : Below (w2.alloc o).drew.drew.heap.size (w2.alloc o).drew.drew w3) : Below w2.heap.size w2 (((w3.setCell ⟨w2.heap.size, 0, none⟩ a).setCell ⟨w2.heap.size, 1, none⟩ b).setCell ⟨w2.heap.size, 2, none⟩ c) :=
  below_set (below_set (below_set (below_then (below_alloc (Below.refl _ _) o).drew.drew (below_alloc (Below.refl _ _) o).size h) (Nat.le_refl _)) (Nat.le_refl _)) (Nat.le_refl _)
set_option maxHeartbeats 6400000 in
set_option maxRecDepth 100000 in
theorem fold_list (F : Nat) (out : Value) (op : Int) (neg : Bool) (d : ByteArray) (x n : Int) (w : World) (hF : w.heap[F]? = some (fB out 0 op neg d x n)) :
    Calls Tryz.prog 323 #[.pointer (some ⟨F, 0, none⟩), ev 7 false ⟨#[]⟩ 0] w fun e w' => e = .returned (.bool false) ∧ w'.heap[F]? = some (fB out 1 op neg d x n) ∧ Kp w w' (fun k => k = F) := by
  have hg := fun w => goes_list F w
  unfold ev at *
  have hF0 := hF
  unfold fB at hF
  have hlt := blk_lt hF
  obtain ⟨c0, c1, c2, c3, c4, c5, c6, f0, f1, f2, f3, f4, f5, f6⟩ := blk7 hF
  replace hF := Lib.hid hF
  replace hF0 := Lib.hid hF0
  replace hg := Lib.hid hg
  go_enter Tryz.func323, Tryz.ntmps323
  go_wp2_with (go_at_call 32; (with_reducible refine (is_true _ _).mono ?_); rintro e w' ⟨rfl, rfl⟩)
  generalize hw1 : World.alloc w _ = w1
  obtain ⟨d0, B1⟩ : w1.heap[w.heap.size]? = some (.cells #[.int .i64 7, .bool false, .bool false, .string ⟨#[]⟩, .int .i64 0, .int .u64 0, .string ⟨#[]⟩] 47 (0, 0)) ∧ Below w.heap.size w w1 := by
    subst hw1
    exact ⟨heap_alloc_new _ _, below_alloc (Below.refl _ _) _⟩
  have hF1 := blk_below hF.out B1
  obtain ⟨c0, c1, c2, c3, c4, c5, c6, f0, f1, f2, f3, f4, f5, f6⟩ := blk7 hF1
  obtain ⟨e0, e1, e2, e3, e4, e5, e6, _, _, _, _, _, _, _⟩ := blk7 d0
  have hne : w.heap.size ≠ F := by omega
  have hlt1 := blk_lt hF1
  have hlt2 := blk_lt d0
  clear hw1
  have G := hg.out w1.drew c1 f1
  replace G := Lib.hid G
  replace hF1 := Lib.hid hF1
  replace d0 := Lib.hid d0
  replace B1 := Lib.hid B1
  clear hg
  go_region_with ((with_reducible refine G.out.mono ?_); rintro e w' ⟨rfl, rfl⟩)
  all_goals (
    generalize hw2 : World.alloc _ _ = w2
    have hF2 : w2.heap[F]? = some (fB out 1 op neg d x n) := by
      subst hw2
      exact blk_alloc (blk_put (g := F) hF1.out 1 _ rfl) _
    have dz : w2.heap[w.heap.size]? = some (.cells #[.int .i64 7, .bool false, .bool false, .string ⟨#[]⟩, .int .i64 0, .int .u64 0, .string ⟨#[]⟩] 47 (0, 0)) := by
      subst hw2
      exact blk_alloc (blk_far (p := ⟨F, 1, none⟩) d0.out hne _) _
    have K2 : Kp w w2 (fun k => k = F) := by
      subst hw2
      exact (kp_set (S := fun k => k = F) (Kp.of_below B1.out (fun k => k = F)) F 1 (.inl rfl) _).alloc _
    clear hw2
    unfold fB at hF2
    obtain ⟨c0, c1, c2, c3, c4, c5, c6, f0, f1, f2, f3, f4, f5, f6⟩ := blk7 hF2
    obtain ⟨e0, e1, e2, e3, e4, e5, e6, _, _, _, _, _, _, _⟩ := blk7 dz
    have hlt4 := blk_lt hF2
    have hlt5 := blk_lt dz
    have hlt6 : F < w2.heap.size + 1 := by omega
    have hlt7 : w.heap.size < w2.heap.size + 1 := by omega
    replace hF2 := Lib.hid hF2
    replace dz := Lib.hid dz
    replace K2 := Lib.hid K2
    go_wp2_with fail
    go_ret
    exact ⟨rfl, hF2.out, K2.out.drew⟩)
set_option maxHeartbeats 6400000 in
set_option maxRecDepth 100000 in
theorem fold_null (F : Nat) (out : Value) (neg : Bool) (d : ByteArray) (x n : Int) (hn : 0 ≤ n ∧ n < 1000) (w : World) (hF : w.heap[F]? = some (fB out 1 11 neg d x n)) :
    Calls Tryz.prog 323 #[.pointer (some ⟨F, 0, none⟩), ev 1 false ⟨#[]⟩ 0] w fun e w' => e = .returned (.bool false) ∧ w'.heap[F]? = some (fB out 1 11 neg d x (n + 1)) ∧ Kp w w' (fun k => k = F) := by
  obtain ⟨hn0, hn1⟩ := hn
  have hg := fun w => goes_mid 1 (by decide) false ⟨#[]⟩ 0 F w
  unfold ev at *
  have hF0 := hF
  unfold fB at hF
  have hlt := blk_lt hF
  obtain ⟨c0, c1, c2, c3, c4, c5, c6, f0, f1, f2, f3, f4, f5, f6⟩ := blk7 hF
  replace hF := Lib.hid hF
  replace hF0 := Lib.hid hF0
  replace hg := Lib.hid hg
  go_enter Tryz.func323, Tryz.ntmps323
  go_wp2_with (go_at_call 32; (with_reducible refine (is_true _ _).mono ?_); rintro e w' ⟨rfl, rfl⟩)
  generalize hw1 : World.alloc w _ = w1
  obtain ⟨d0, B1⟩ : w1.heap[w.heap.size]? = some (.cells #[.int .i64 1, .bool false, .bool false, .string ⟨#[]⟩, .int .i64 0, .int .u64 0, .string ⟨#[]⟩] 47 (0, 0)) ∧ Below w.heap.size w w1 := by
    subst hw1
    exact ⟨heap_alloc_new _ _, below_alloc (Below.refl _ _) _⟩
  have hF1 := blk_below hF.out B1
  obtain ⟨c0, c1, c2, c3, c4, c5, c6, f0, f1, f2, f3, f4, f5, f6⟩ := blk7 hF1
  obtain ⟨e0, e1, e2, e3, e4, e5, e6, _, _, _, _, _, _, _⟩ := blk7 d0
  have hne : w.heap.size ≠ F := by omega
  have hlt1 := blk_lt hF1
  have hlt2 := blk_lt d0
  clear hw1
  have G := hg.out w1.drew c1
  replace G := Lib.hid G
  replace hF1 := Lib.hid hF1
  replace d0 := Lib.hid d0
  replace B1 := Lib.hid B1
  clear hg
  go_region_with ((with_reducible refine G.out.mono ?_); rintro e w' ⟨rfl, rfl⟩)
  all_goals (
    generalize hw2 : World.alloc _ _ = w2
    have hF2 : w2.heap[F]? = some (fB out 1 11 neg d x n) := by
      subst hw2
      exact blk_alloc hF1.out _
    have dz : w2.heap[w.heap.size]? = some (.cells #[.int .i64 1, .bool false, .bool false, .string ⟨#[]⟩, .int .i64 0, .int .u64 0, .string ⟨#[]⟩] 47 (0, 0)) := by
      subst hw2
      exact blk_alloc d0.out _
    have K2 : Kp w w2 (fun k => k = F) := by
      subst hw2
      exact (Kp.of_below B1.out (fun k => k = F)).alloc _
    clear hw2
    unfold fB at hF2
    obtain ⟨c0, c1, c2, c3, c4, c5, c6, f0, f1, f2, f3, f4, f5, f6⟩ := blk7 hF2
    obtain ⟨e0, e1, e2, e3, e4, e5, e6, _, _, _, _, _, _, _⟩ := blk7 dz
    have hlt4 := blk_lt hF2
    have hlt5 := blk_lt dz
    have hlt6 : F < w2.heap.size + 1 := by omega
    have hlt7 : w.heap.size < w2.heap.size + 1 := by omega
    replace hF2 := Lib.hid hF2
    replace dz := Lib.hid dz
    replace K2 := Lib.hid K2
    go_wp2_with fail
    go_ret
    exact ⟨rfl, blk_put hF2.out 6 _ rfl, (kp_set (S := fun k => k = F) K2.out F 6 (.inl rfl) _).drew⟩)
set_option maxHeartbeats 6400000 in
set_option maxRecDepth 100000 in
theorem fold_num (F : Nat) (out : Value) (neg : Bool) (d : ByteArray) (x : Int) (neg2 : Bool) (d2 : ByteArray) (x2 : Int) (neg3 : Bool) (d3 : ByteArray) (x3 : Int) (n : Int)
    (hA : ∀ w, Calls Tryz.prog 80 #[.agg #[.bool neg, .string d, .int .i64 x], .agg #[.bool neg2, .string d2, .int .i64 x2]] w fun e w' => e = .returned (.tuple #[.agg #[.bool neg3, .string d3, .int .i64 x3], .int .i64 0]) ∧ Below w.heap.size w w')
    (w : World) (hF : w.heap[F]? = some (fB out 1 10 neg d x n)) :
    Calls Tryz.prog 323 #[.pointer (some ⟨F, 0, none⟩), ev 3 neg2 d2 x2] w fun e w' => e = .returned (.bool false) ∧ w'.heap[F]? = some (fB out 1 10 neg3 d3 x3 n) ∧ Kp w w' (fun k => k = F) := by
  replace hA := Lib.hid hA
  have hg := fun w => goes_mid 3 (by decide) neg2 d2 x2 F w
  unfold ev at *
  have hF0 := hF
  unfold fB at hF
  have hlt := blk_lt hF
  obtain ⟨c0, c1, c2, c3, c4, c5, c6, f0, f1, f2, f3, f4, f5, f6⟩ := blk7 hF
  replace hF := Lib.hid hF
  replace hF0 := Lib.hid hF0
  replace hg := Lib.hid hg
  go_enter Tryz.func323, Tryz.ntmps323
  go_wp2_with (go_at_call 32; (with_reducible refine (is_true _ _).mono ?_); rintro e w' ⟨rfl, rfl⟩)
  generalize hw1 : World.alloc w _ = w1
  obtain ⟨d0, B1⟩ : w1.heap[w.heap.size]? = some (.cells #[.int .i64 3, .bool false, .bool neg2, .string d2, .int .i64 x2, .int .u64 0, .string ⟨#[]⟩] 47 (0, 0)) ∧ Below w.heap.size w w1 := by
    subst hw1
    exact ⟨heap_alloc_new _ _, below_alloc (Below.refl _ _) _⟩
  have hF1 := blk_below hF.out B1
  obtain ⟨c0, c1, c2, c3, c4, c5, c6, f0, f1, f2, f3, f4, f5, f6⟩ := blk7 hF1
  obtain ⟨e0, e1, e2, e3, e4, e5, e6, _, _, _, _, _, _, _⟩ := blk7 d0
  have hne : w.heap.size ≠ F := by omega
  have hlt1 := blk_lt hF1
  have hlt2 := blk_lt d0
  clear hw1
  have G := hg.out w1.drew c1
  replace G := Lib.hid G
  replace hF1 := Lib.hid hF1
  replace d0 := Lib.hid d0
  replace B1 := Lib.hid B1
  clear hg
  go_region_with ((with_reducible refine G.out.mono ?_); rintro e w' ⟨rfl, rfl⟩)
  all_goals (
    generalize hw2 : World.alloc _ _ = w2
    have hF2 : w2.heap[F]? = some (fB out 1 10 neg d x n) := by
      subst hw2
      exact blk_alloc hF1.out _
    have dz : w2.heap[w.heap.size]? = some (.cells #[.int .i64 3, .bool false, .bool neg2, .string d2, .int .i64 x2, .int .u64 0, .string ⟨#[]⟩] 47 (0, 0)) := by
      subst hw2
      exact blk_alloc d0.out _
    have K2 : Kp w w2 (fun k => k = F) := by
      subst hw2
      exact (Kp.of_below B1.out (fun k => k = F)).alloc _
    clear hw2
    unfold fB at hF2
    obtain ⟨c0, c1, c2, c3, c4, c5, c6, f0, f1, f2, f3, f4, f5, f6⟩ := blk7 hF2
    obtain ⟨e0, e1, e2, e3, e4, e5, e6, _, _, _, _, _, _, _⟩ := blk7 dz
    have hlt4 := blk_lt hF2
    have hlt5 := blk_lt dz
    have hlt6 : F < w2.heap.size + 1 := by omega
    have hlt7 : w.heap.size < w2.heap.size + 1 := by omega
    replace hF2 := Lib.hid hF2
    replace dz := Lib.hid dz
    replace K2 := Lib.hid K2
    go_wp2_with (go_at_call 32; (with_reducible refine (is_true _ _).mono ?_); rintro e w' ⟨rfl, rfl⟩)
    go_region_with ((with_reducible refine (hA.out _).mono ?_); rintro e w3 ⟨rfl, B3⟩; obtain ⟨hkc, hkf⟩ := bcell B3; have hlt8 : F < w3.heap.size := (by have h8 := B3.size; simp at h8; omega); have hF3 : w3.heap[F]? = some (.cells #[out, .int .i64 1, .int .i64 10, .bool neg, .string d, .int .i64 x, .int .i64 n] 127 (0, 0)) := (by first | exact (B3.block F (by simp; omega)).trans hF2.out | exact (B3.block F (by simp; omega)).trans (blk_alloc hF2.out _)); obtain ⟨p0, p1, p2, p3, p4, p5, p6, r0, r1, r2, r3, r4, r5, r6⟩ := blk7 hF3; replace hF3 := Lib.hid hF3)
    all_goals (go_wp2_with (go_at_call 32; (with_reducible refine (is_true _ _).mono ?_); rintro e w' ⟨rfl, rfl⟩))
    all_goals go_ret
    all_goals first
      | exact ⟨rfl, blk_alloc (num_end hF2.out K2.out (num_drew B3)).1 _, (num_end hF2.out K2.out (num_drew B3)).2.alloc _⟩
      | exact ⟨rfl, (num_end hF2.out K2.out (num_box B3)).1, (num_end hF2.out K2.out (num_box B3)).2⟩)
end Go.Proofs.YtcpgcjmamjjokaaGreatDoor
