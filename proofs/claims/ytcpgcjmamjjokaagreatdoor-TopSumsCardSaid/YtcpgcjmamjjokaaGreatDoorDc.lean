/- The machine's step: fold, at the end of the list. -/
import Derived.Test.YtcpgcjmamjjokaaGreatDoorDb
namespace Go.Proofs.YtcpgcjmamjjokaaGreatDoor
open Go.RowKit Go.Proofs.YtcpgcjmamjjokaaGreatDoorW.PrintWords Go.Proofs.YtcpgcjmamjjokaaGreatDoorW.PrintMore
set_option linter.unusedVariables false
set_option linter.unusedSimpArgs false
/-- The machine's own tell. -/
def outV (M : Nat) : Value := .func (.func 30) #[.pointer (some ⟨M, 0, none⟩)] #[]
theorem Told.mono {M : Nat} {a b : Value} {k : Int} {neg : Bool} {d : ByteArray} {x : Int} {B B' : Nat} {w : World} (h : Told M a b k neg d x B w) (hB : B' ≤ B) : Told M a b k neg d x B' w := by
  obtain ⟨g, cap, h1, h2, h3⟩ := h.t
  exact ⟨g, cap, h1, Nat.le_trans hB h2, h3⟩
theorem num_drew1 {w w3 : World} (h : Below w.drew.heap.size w.drew w3) : Below w.heap.size w w3 := ⟨h.os, h.tape, h.output, h.size, h.block⟩
theorem end_told {w w2 w3 : World} {F M : Nat} {o : Obj} {u v : Value} {k : Int} {neg : Bool} {d : ByteArray} {x : Int} (hF2 : w2.heap[F]? = some o) (hne : M ≠ F) (K2 : Kp w w2 (fun k => k = F)) (T1 : Told M u v k neg d x w2.heap.size w3) (T2 : Kp w2 w3 (fun k => k = M)) :
    w3.heap[F]? = some o ∧ Told M u v k neg d x w.heap.size w3 ∧ Kp w w3 (fun k => k = F ∨ k = M) :=
  ⟨T2.heap hF2 (fun h => hne h.symm), T1.mono K2.size, (K2.mono (fun _ h => .inl h)).trans T2 (fun _ h => .inl (.inr h))⟩
set_option maxHeartbeats 6400000 in
set_option maxRecDepth 100000 in
theorem fold_end_sum (F M : Nat) (hne0 : M ≠ F) (u v : Value) (neg : Bool) (d : ByteArray) (x n : Int) (w : World) (hF : w.heap[F]? = some (fB (outV M) 1 10 neg d x n)) (hM : w.heap[M]? = some (mB u v (.slice none 0 0) 0)) :
    Calls Tryz.prog 323 #[.pointer (some ⟨F, 0, none⟩), ev 11 false ⟨#[]⟩ 0] w fun e w' => e = .returned (.bool true) ∧ w'.heap[F]? = some (fB (outV M) 0 10 neg d x n) ∧ Told M u v 3 neg d x w.heap.size w' ∧ Kp w w' (fun k => k = F ∨ k = M) := by
  have hT := fun w => tell_any 3 neg d x M u v w
  unfold ev at hT
  replace hT := Lib.hid hT
  have hM0 := Lib.hid hM
  clear hM
  unfold outV at hF ⊢
  have hg := fun w => goes_end F w
  unfold ev at *
  have hF0 := hF
  unfold fB at hF
  have hlt := blk_lt hF
  obtain ⟨c0, c1, c2, c3, c4, c5, c6, f0, f1, f2, f3, f4, f5, f6⟩ := blk7 hF
  replace hF := Lib.hid hF
  replace hF0 := Lib.hid hF0
  replace hg := Lib.hid hg
  go_enter Tryz.func323, Tryz.ntmps323
  go_wp2_with (go_at_call 32; (with_reducible refine (is_true _ _).mono ?_); rintro e w' ⟨rfl, rfl⟩)
  generalize hw1 : World.alloc w _ = w1
  obtain ⟨d0, B1⟩ : w1.heap[w.heap.size]? = some (.cells #[.int .i64 11, .bool false, .bool false, .string ⟨#[]⟩, .int .i64 0, .int .u64 0, .string ⟨#[]⟩] 47 (0, 0)) ∧ Below w.heap.size w w1 := by
    subst hw1
    exact ⟨heap_alloc_new _ _, below_alloc (Below.refl _ _) _⟩
  have hF1 := blk_below hF.out B1
  obtain ⟨c0, c1, c2, c3, c4, c5, c6, f0, f1, f2, f3, f4, f5, f6⟩ := blk7 hF1
  obtain ⟨e0, e1, e2, e3, e4, e5, e6, _, _, _, _, _, _, _⟩ := blk7 d0
  have hne : w.heap.size ≠ F := by omega
  have hlt1 := blk_lt hF1
  have hlt2 := blk_lt d0
  clear hw1
  have G := hg.out w1.drew c1 f1
  replace G := Lib.hid G
  replace hF1 := Lib.hid hF1
  replace d0 := Lib.hid d0
  replace B1 := Lib.hid B1
  clear hg
  go_region_with ((with_reducible refine G.out.mono ?_); rintro e w' ⟨rfl, rfl⟩)
  all_goals (
    generalize hw2 : World.alloc _ _ = w2
    have hF2 : w2.heap[F]? = some (fB (.func (.func 30) #[.pointer (some ⟨M, 0, none⟩)] #[]) 0 10 neg d x n) := by
      subst hw2
      exact blk_alloc (blk_put (g := F) hF1.out 1 _ rfl) _
    have dz : w2.heap[w.heap.size]? = some (.cells #[.int .i64 11, .bool false, .bool false, .string ⟨#[]⟩, .int .i64 0, .int .u64 0, .string ⟨#[]⟩] 47 (0, 0)) := by
      subst hw2
      exact blk_alloc (blk_far (p := ⟨F, 1, none⟩) d0.out hne _) _
    have K2 : Kp w w2 (fun k => k = F) := by
      subst hw2
      exact (kp_set (S := fun k => k = F) (Kp.of_below B1.out (fun k => k = F)) F 1 (.inl rfl) _).alloc _
    have hM2 : w2.heap[M]? = some (mB u v (.slice none 0 0) 0) := K2.heap hM0.out hne0
    clear hw2
    unfold fB at hF2
    obtain ⟨c0, c1, c2, c3, c4, c5, c6, f0, f1, f2, f3, f4, f5, f6⟩ := blk7 hF2
    obtain ⟨e0, e1, e2, e3, e4, e5, e6, _, _, _, _, _, _, _⟩ := blk7 dz
    have hlt4 := blk_lt hF2
    have hlt5 := blk_lt dz
    have hlt6 : F < w2.heap.size + 1 := by omega
    have hlt7 : w.heap.size < w2.heap.size + 1 := by omega
    replace hF2 := Lib.hid hF2
    replace dz := Lib.hid dz
    replace K2 := Lib.hid K2
    have T := hT.out w2.drew.drew hM2
    replace T := Lib.hid T
    replace hM2 := Lib.hid hM2
    go_wp2_with fail
    go_region_with ((with_reducible refine T.out.mono ?_); rintro e w3 ⟨rfl, T1, T2⟩)
    all_goals (
      have E := Lib.hid (end_told (F := F) (w2 := w2.drew.drew) hF2.out hne0 K2.out.drew.drew T1 T2)
      clear T1 T2
      go_wp2_with fail
      go_ret
      exact ⟨rfl, E.out⟩))
set_option maxHeartbeats 6400000 in
set_option maxRecDepth 100000 in
theorem fold_end_count (F M : Nat) (hne0 : M ≠ F) (u v : Value) (neg : Bool) (d : ByteArray) (x : Int) (hI : ∀ w, Calls Tryz.prog 84 #[.int .i64 1] w fun e w' => e = .returned (.string ⟨#[49]⟩) ∧ Below w.heap.size w w')
    (hP : ∀ w, Calls Tryz.prog 83 #[.string ⟨#[49]⟩] w fun e w' => e = .returned (.tuple #[.agg #[.bool false, .string ⟨#[49]⟩, .int .i64 0], .int .i64 0]) ∧ Below w.heap.size w w')
    (w : World) (hF : w.heap[F]? = some (fB (outV M) 1 11 neg d x 1)) (hM : w.heap[M]? = some (mB u v (.slice none 0 0) 0)) :
    Calls Tryz.prog 323 #[.pointer (some ⟨F, 0, none⟩), ev 11 false ⟨#[]⟩ 0] w fun e w' => e = .returned (.bool true) ∧ w'.heap[F]? = some (fB (outV M) 0 11 neg d x 1) ∧ Told M u v 3 false ⟨#[49]⟩ 0 w.heap.size w' ∧ Kp w w' (fun k => k = F ∨ k = M) := by
  have hT := fun w => tell_any 3 false ⟨#[49]⟩ 0 M u v w
  unfold ev at hT
  replace hT := Lib.hid hT
  have hM0 := Lib.hid hM
  clear hM
  unfold outV at hF ⊢
  replace hI := Lib.hid hI
  replace hP := Lib.hid hP
  have hg := fun w => goes_end F w
  unfold ev at *
  have hF0 := hF
  unfold fB at hF
  have hlt := blk_lt hF
  obtain ⟨c0, c1, c2, c3, c4, c5, c6, f0, f1, f2, f3, f4, f5, f6⟩ := blk7 hF
  replace hF := Lib.hid hF
  replace hF0 := Lib.hid hF0
  replace hg := Lib.hid hg
  go_enter Tryz.func323, Tryz.ntmps323
  go_wp2_with (go_at_call 32; (with_reducible refine (is_true _ _).mono ?_); rintro e w' ⟨rfl, rfl⟩)
  generalize hw1 : World.alloc w _ = w1
  obtain ⟨d0, B1⟩ : w1.heap[w.heap.size]? = some (.cells #[.int .i64 11, .bool false, .bool false, .string ⟨#[]⟩, .int .i64 0, .int .u64 0, .string ⟨#[]⟩] 47 (0, 0)) ∧ Below w.heap.size w w1 := by
    subst hw1
    exact ⟨heap_alloc_new _ _, below_alloc (Below.refl _ _) _⟩
  have hF1 := blk_below hF.out B1
  obtain ⟨c0, c1, c2, c3, c4, c5, c6, f0, f1, f2, f3, f4, f5, f6⟩ := blk7 hF1
  obtain ⟨e0, e1, e2, e3, e4, e5, e6, _, _, _, _, _, _, _⟩ := blk7 d0
  have hne : w.heap.size ≠ F := by omega
  have hlt1 := blk_lt hF1
  have hlt2 := blk_lt d0
  clear hw1
  have G := hg.out w1.drew c1 f1
  replace G := Lib.hid G
  replace hF1 := Lib.hid hF1
  replace d0 := Lib.hid d0
  replace B1 := Lib.hid B1
  clear hg
  go_region_with ((with_reducible refine G.out.mono ?_); rintro e w' ⟨rfl, rfl⟩)
  all_goals (
    generalize hw2 : World.alloc _ _ = w2
    have hF2 : w2.heap[F]? = some (fB (.func (.func 30) #[.pointer (some ⟨M, 0, none⟩)] #[]) 0 11 neg d x 1) := by
      subst hw2
      exact blk_alloc (blk_put (g := F) hF1.out 1 _ rfl) _
    have dz : w2.heap[w.heap.size]? = some (.cells #[.int .i64 11, .bool false, .bool false, .string ⟨#[]⟩, .int .i64 0, .int .u64 0, .string ⟨#[]⟩] 47 (0, 0)) := by
      subst hw2
      exact blk_alloc (blk_far (p := ⟨F, 1, none⟩) d0.out hne _) _
    have K2 : Kp w w2 (fun k => k = F) := by
      subst hw2
      exact (kp_set (S := fun k => k = F) (Kp.of_below B1.out (fun k => k = F)) F 1 (.inl rfl) _).alloc _
    have hM2 : w2.heap[M]? = some (mB u v (.slice none 0 0) 0) := K2.heap hM0.out hne0
    clear hw2
    unfold fB at hF2
    obtain ⟨c0, c1, c2, c3, c4, c5, c6, f0, f1, f2, f3, f4, f5, f6⟩ := blk7 hF2
    obtain ⟨e0, e1, e2, e3, e4, e5, e6, _, _, _, _, _, _, _⟩ := blk7 dz
    have hlt4 := blk_lt hF2
    have hlt5 := blk_lt dz
    have hlt6 : F < w2.heap.size + 1 := by omega
    have hlt7 : w.heap.size < w2.heap.size + 1 := by omega
    replace hF2 := Lib.hid hF2
    replace dz := Lib.hid dz
    replace K2 := Lib.hid K2
    replace hM2 := Lib.hid hM2
    go_wp2_with fail
    refine (hI.out _).mono ?_
    rintro e w3 ⟨rfl, B3⟩
    go_wp2_with fail
    refine (hP.out _).mono ?_
    rintro e w4 ⟨rfl, B4⟩
    have B5 := below_then (num_drew1 B3) (num_drew1 B3).size B4
    clear B3 B4
    have hF4 := blk_below hF2.out B5
    have hM4 := blk_below hM2.out B5
    have K4 := K2.out.below B5
    clear c0 c1 c2 c3 c4 c5 c6 f0 f1 f2 f3 f4 f5 f6
    obtain ⟨c0, c1, c2, c3, c4, c5, c6, f0, f1, f2, f3, f4, f5, f6⟩ := blk7 hF4
    have hltF4 := blk_lt hF4
    replace hF4 := Lib.hid hF4
    replace hM4 := Lib.hid hM4
    replace K4 := Lib.hid K4
    replace B5 := Lib.hid B5
    have T := hT.out (w4.alloc (.cells #[.bool false, .string ⟨#[49]⟩, .int .i64 0] 32 (0, 0))).drew (blk_alloc hM4.out _)
    replace T := Lib.hid T
    go_wp2_with fail
    go_region_with ((with_reducible refine T.out.mono ?_); rintro e w5 ⟨rfl, T1, T2⟩)
    all_goals (
      have E := Lib.hid (end_told (F := F) (w2 := (w4.alloc (.cells #[.bool false, .string ⟨#[49]⟩, .int .i64 0] 32 (0, 0))).drew) (blk_alloc hF4.out (.cells #[.bool false, .string ⟨#[49]⟩, .int .i64 0] 32 (0, 0))) hne0 (K4.out.alloc (.cells #[.bool false, .string ⟨#[49]⟩, .int .i64 0] 32 (0, 0))).drew T1 T2)
      clear T1 T2
      go_wp2_with fail
      go_ret
      exact ⟨rfl, E.out⟩))
end Go.Proofs.YtcpgcjmamjjokaaGreatDoor
