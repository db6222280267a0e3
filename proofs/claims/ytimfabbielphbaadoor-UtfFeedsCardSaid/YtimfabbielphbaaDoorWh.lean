/- The Checker. -/
import Derived.Test.YtimfabbielphbaaDoorWg
import Derived.Test.YtimfabbielphbaaDoorKt
namespace Go.Proofs.YtimfabbielphbaaDoor
open Go.RowKit Go.Lib Go.Proofs.YtimfabbielphbaaDoorW.PrintWords Go.Proofs.YtimfabbielphbaaDoorW.PrintMore
set_option linter.unusedVariables false
set_option linter.unusedSimpArgs false

/-- A Checker's own block. -/
def ChkB (w : World) (g : Nat) (a b c d : Nat) (n : Nat) (bad : Bool) : Prop :=
  w.heap[g]? = some (.cells #[.int .u8 a, .int .u8 b, .int .u8 c, .int .u8 d, .int .i64 n, .bool bad] 55 (0, 0))
theorem ChkB.cells {w : World} {g a b c d n : Nat} {bad : Bool} (h : ChkB w g a b c d n bad) :
    w.cell? ⟨g, 0, none⟩ = some (.int .u8 a) ∧ w.cell? ⟨g, 1, none⟩ = some (.int .u8 b) ∧ w.cell? ⟨g, 2, none⟩ = some (.int .u8 c) ∧ w.cell? ⟨g, 3, none⟩ = some (.int .u8 d) ∧
    w.cell? ⟨g, 4, none⟩ = some (.int .i64 n) ∧ w.cell? ⟨g, 5, none⟩ = some (.bool bad) ∧ (∀ j, w.frozen? ⟨g, j, none⟩ = false) :=
  ⟨(blk_cell h 0).trans rfl, (blk_cell h 1).trans rfl, (blk_cell h 2).trans rfl, (blk_cell h 3).trans rfl, (blk_cell h 4).trans rfl, (blk_cell h 5).trans rfl, fun j => blk_frozen h j⟩
theorem ChkB.below {w w' : World} {g a b c d n : Nat} {bad : Bool} (h : ChkB w g a b c d n bad) (hb : Below w.heap.size w w') : ChkB w' g a b c d n bad := blk_below h hb
theorem ChkB.lt {w : World} {g a b c d n : Nat} {bad : Bool} (h : ChkB w g a b c d n bad) : g < w.heap.size := blk_lt h
theorem ChkB.set0 {w : World} {g a b c d n : Nat} {bad : Bool} (h : ChkB w g a b c d n bad) (x : Nat) : ChkB (w.setCell ⟨g, 0, none⟩ (.int .u8 x)) g x b c d n bad := by simpa [ChkB] using blk_set h 0 (.int .u8 x)
theorem ChkB.set1 {w : World} {g a b c d n : Nat} {bad : Bool} (h : ChkB w g a b c d n bad) (x : Nat) : ChkB (w.setCell ⟨g, 1, none⟩ (.int .u8 x)) g a x c d n bad := by simpa [ChkB] using blk_set h 1 (.int .u8 x)
theorem ChkB.set2 {w : World} {g a b c d n : Nat} {bad : Bool} (h : ChkB w g a b c d n bad) (x : Nat) : ChkB (w.setCell ⟨g, 2, none⟩ (.int .u8 x)) g a b x d n bad := by simpa [ChkB] using blk_set h 2 (.int .u8 x)
theorem ChkB.set3 {w : World} {g a b c d n : Nat} {bad : Bool} (h : ChkB w g a b c d n bad) (x : Nat) : ChkB (w.setCell ⟨g, 3, none⟩ (.int .u8 x)) g a b c x n bad := by simpa [ChkB] using blk_set h 3 (.int .u8 x)
theorem ChkB.setn {w : World} {g a b c d n : Nat} {bad : Bool} (h : ChkB w g a b c d n bad) (m : Nat) : ChkB (w.setCell ⟨g, 4, none⟩ (.int .i64 m)) g a b c d m bad := by simpa [ChkB] using blk_set h 4 (.int .i64 m)
theorem ChkB.setb {w : World} {g a b c d n : Nat} {bad : Bool} (h : ChkB w g a b c d n bad) (z : Bool) : ChkB (w.setCell ⟨g, 5, none⟩ (.bool z)) g a b c d n z := by simpa [ChkB] using blk_set h 5 (.bool z)

set_option maxHeartbeats 1000000 in
set_option maxRecDepth 1000000 in
theorem new_any (w : World) : Calls Tryd.prog 18 #[] w fun e w' => e = .returned (.pointer (some ⟨w.heap.size, 0, none⟩)) ∧ ChkB w' w.heap.size 0 0 0 0 0 false ∧ Below w.heap.size w w' := by
  go_enter Tryd.func18, Tryd.ntmps18
  go_wp2
  go_ret
  exact ⟨rfl, heap_alloc_new w _, (Below.refl _ _).alloc (Nat.le_refl _) _⟩
set_option maxHeartbeats 1000000 in
set_option maxRecDepth 1000000 in
theorem feed_nil (w : World) (v : Value) : Calls Tryd.prog 19 #[.pointer none, v] w fun e w' => e = .returned (.int .i64 3) ∧ w' = w := by
  go_enter Tryd.func19, Tryd.ntmps19
  go_wp2
  go_ret
  exact ⟨rfl, rfl⟩
set_option maxRecDepth 1000000 in
theorem end_nil (w : World) : Calls Tryd.prog 21 #[.pointer none] w fun e w' => e = .returned (.int .i64 3) ∧ w' = w := by
  go_enter Tryd.func21, Tryd.ntmps21
  go_wp2
  go_ret
  exact ⟨rfl, rfl⟩
/-- What End answers. -/
def endE (n : Nat) (bad : Bool) : Nat := if bad then 30 else if n = 0 then 0 else 31
set_option maxHeartbeats 1000000 in
set_option maxRecDepth 1000000 in
theorem end_any (w : World) (g a b c d n : Nat) (bad : Bool) (h : ChkB w g a b c d n bad) :
    Calls Tryd.prog 21 #[.pointer (some ⟨g, 0, none⟩)] w fun e w' => e = .returned (.int .i64 (endE n bad)) ∧ w' = w := by
  obtain ⟨k0, k1, k2, k3, k4, k5, kf⟩ := h.cells
  clear h
  cases bad
  · by_cases hn : n = 0
    · subst hn
      go_enter Tryd.func21, Tryd.ntmps21
      go_wp2
      go_ret
      exact ⟨rfl, rfl⟩
    · have hd : decide ((n : Int) > 0) = true := decide_eq_true (by omega)
      have hd2 : (0 : Int) < (n : Int) := by omega
      have he : endE n false = 31 := by unfold endE; rw [if_neg (by decide), if_neg hn]
      rw [he]
      go_enter Tryd.func21, Tryd.ntmps21
      go_wp2
      go_ret
      exact ⟨rfl, rfl⟩
  · go_enter Tryd.func21, Tryd.ntmps21
    go_wp2
    go_ret
    exact ⟨rfl, rfl⟩
end Go.Proofs.YtimfabbielphbaaDoor
