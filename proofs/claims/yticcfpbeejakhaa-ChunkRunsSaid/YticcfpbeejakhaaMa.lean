/- The contracts of chunk's own methods that only read. -/
import Derived.Test.YticcfpbeejakhaaKt
namespace Go.Proofs.Yticcfpbeejakhaa
open Go.RowKit Go.Proofs.YticcfpbeejakhaaW.PrintWords
set_option linter.unusedVariables false
set_option linter.unusedSimpArgs false

/-- A Source's own block. -/
def SrcB (w : World) (g : Nat) (v : Value) (pos once gone limit : Int) : Prop :=
  w.heap[g]? = some (.cells #[v, .int .i64 pos, .int .i64 once, .int .i64 gone, .int .i64 limit] 48 (0, 0))

theorem SrcB.cells {w : World} {g : Nat} {v : Value} {pos once gone limit : Int} (h : SrcB w g v pos once gone limit) :
    w.cell? ⟨g, 0, none⟩ = some v ∧ w.cell? ⟨g, 1, none⟩ = some (.int .i64 pos) ∧ w.cell? ⟨g, 2, none⟩ = some (.int .i64 once) ∧
    w.cell? ⟨g, 3, none⟩ = some (.int .i64 gone) ∧ w.cell? ⟨g, 4, none⟩ = some (.int .i64 limit) ∧
    (∀ j, w.frozen? ⟨g, j, none⟩ = false) := by
  refine ⟨(blk_cell h 0).trans rfl, (blk_cell h 1).trans rfl, (blk_cell h 2).trans rfl, (blk_cell h 3).trans rfl, (blk_cell h 4).trans rfl, fun j => blk_frozen h j⟩

theorem SrcB.below {w w' : World} {g : Nat} {v : Value} {pos once gone limit : Int} (h : SrcB w g v pos once gone limit) (hb : Below w.heap.size w w') : SrcB w' g v pos once gone limit := (hb.block g (blk_lt h)).trans h

section
variable {w : World} {g : Nat} {v : Value} {pos once gone limit : Int}
theorem SrcB.set0 (h : SrcB w g v pos once gone limit) (x : Value) : SrcB (w.setCell ⟨g, 0, none⟩ x) g x pos once gone limit := by simpa [SrcB] using blk_set h 0 x
theorem SrcB.set1 (h : SrcB w g v pos once gone limit) (x : Int) : SrcB (w.setCell ⟨g, 1, none⟩ (.int .i64 x)) g v x once gone limit := by simpa [SrcB] using blk_set h 1 (.int .i64 x)
theorem SrcB.set2 (h : SrcB w g v pos once gone limit) (x : Int) : SrcB (w.setCell ⟨g, 2, none⟩ (.int .i64 x)) g v pos x gone limit := by simpa [SrcB] using blk_set h 2 (.int .i64 x)
theorem SrcB.set3 (h : SrcB w g v pos once gone limit) (x : Int) : SrcB (w.setCell ⟨g, 3, none⟩ (.int .i64 x)) g v pos once x limit := by simpa [SrcB] using blk_set h 3 (.int .i64 x)
end

theorem SrcB.ne {w : World} {g base n : Nat} {u v : Value} {pos once gone limit : Int} {xs : List Value} (h : SrcB w g v pos once gone limit) (ho : w.ownsRow base 5 1 u n xs) : some g ≠ u.ownBlock :=
  own_ne (t := 48) ho (show w.heap[g]? = some _ from h) (by decide)
theorem SrcB.keep {w : World} {g base n : Nat} {u v : Value} {pos once gone limit : Int} {xs : List Value} (h : SrcB w g v pos once gone limit) (ho : w.ownsRow base 5 1 u n xs) (j : Nat) (x : Value) : (w.setCell ⟨g, j, none⟩ x).ownsRow base 5 1 u n xs :=
  own_setCell (p := ⟨g, j, none⟩) ho (h.ne ho) x

theorem Try.info5 : (Try.prog.info? 5).map (fun i => (i.zero, i.size, i.bytes)) = some (some (.int .u8 0), 1, 1) := by kernel_rfl
theorem Try.size5 : (Try.prog.info? 5).map (·.size) = some 1 := by kernel_rfl

set_option maxHeartbeats 400000 in
set_option maxRecDepth 100000 in
theorem total_nil (w : World) : Calls Try.prog 16 #[.pointer none] w fun e w' => e = .returned (.int .i64 0) ∧ w = w' := by
  go_enter Try.func16, Try.ntmps16
  go_wp2
  go_ret
  exact ⟨rfl, rfl⟩

set_option maxHeartbeats 400000 in
set_option maxRecDepth 100000 in
theorem left_nil (w : World) : Calls Try.prog 15 #[.pointer none] w fun e w' => e = .returned (.int .i64 0) ∧ w = w' := by
  go_enter Try.func15, Try.ntmps15
  go_wp2
  go_ret
  exact ⟨rfl, rfl⟩

set_option maxHeartbeats 400000 in
set_option maxRecDepth 100000 in
theorem total_any (w : World) (g : Nat) (A : Option Addr) (n c : Nat) (pos once gone limit : Int) (h : SrcB w g (.slice A n c) pos once gone limit)
    (h0 : 0 ≤ gone) (h1 : gone ≤ 1000000) (h2 : n ≤ 1000000) :
    Calls Try.prog 16 #[.pointer (some ⟨g, 0, none⟩)] w fun e w' => e = .returned (.int .i64 (gone + n)) ∧ ∃ k, w' = w.drewN k := by
  obtain ⟨k0, k1, k2, k3, k4, kf⟩ := h.cells
  clear h
  have e1 : IntKind.i64.wrap (gone + (n : Int)) = gone + n := IntWalk.i64_in _ (by omega)
  go_enter Try.func16, Try.ntmps16
  go_wp2
  go_quiet (fail)
  go_wp2
  go_ret
  exact ⟨rfl, _, rfl⟩

set_option maxHeartbeats 400000 in
set_option maxRecDepth 100000 in
theorem left_any (w : World) (g : Nat) (A : Option Addr) (n c : Nat) (pos once gone limit : Int) (h : SrcB w g (.slice A n c) pos once gone limit)
    (h0 : 0 ≤ pos) (h1 : pos ≤ 1000000) (h2 : n ≤ 1000000) :
    Calls Try.prog 15 #[.pointer (some ⟨g, 0, none⟩)] w fun e w' => e = .returned (.int .i64 (n - pos)) ∧ ∃ k, w' = w.drewN k := by
  obtain ⟨k0, k1, k2, k3, k4, kf⟩ := h.cells
  clear h
  have e1 : IntKind.i64.wrap ((n : Int) - pos) = (n : Int) - pos := IntWalk.i64_in _ (by omega)
  go_enter Try.func15, Try.ntmps15
  go_wp2
  go_quiet (fail)
  go_wp2
  go_ret
  exact ⟨rfl, _, rfl⟩

theorem fill_all (l : List Int) (m : Nat) : l.take m ++ (List.replicate m (0 : Int)).drop m = l.take m := by simp

theorem drewN_below (w : World) (k : Nat) : Below w.heap.size w (w.drewN k) := pw_below_drewN (Below.refl _ _) k

set_option maxHeartbeats 400000 in
set_option maxRecDepth 100000 in
theorem peek_nil (w : World) (m : Int) : Calls Try.prog 17 #[.pointer none, .int .i64 m] w fun e w' => e = .returned (.tuple #[.slice none 0 0, .bool false]) ∧ w = w' := by
  go_enter Try.func17, Try.ntmps17
  go_wp2
  go_ret2
  exact ⟨rfl, rfl⟩

set_option maxHeartbeats 400000 in
set_option maxRecDepth 100000 in
/-- Peek, where so many are not left. -/
theorem peek_no (w : World) (g : Nat) (A : Option Addr) (n c : Nat) (pos once gone limit : Int) (h : SrcB w g (.slice A n c) pos once gone limit)
    (h0 : 0 ≤ pos) (h1 : pos ≤ 1000000) (h2 : n ≤ 1000000) (m : Int) (hm : m < 0 ∨ (n : Int) - pos < m) :
    Calls Try.prog 17 #[.pointer (some ⟨g, 0, none⟩), .int .i64 m] w fun e w' => e = .returned (.tuple #[.slice none 0 0, .bool false]) ∧ Below w.heap.size w w' := by
  by_cases hm0 : m < 0
  · clear hm
    have hd : decide (m < 0) = true := decide_eq_true hm0
    go_enter Try.func17, Try.ntmps17
    go_wp2
    go_ret2
    exact ⟨rfl, Below.refl _ _⟩
  · have hm1 : (n : Int) - pos < m := by omega
    clear hm
    have hd : decide (m < 0) = false := decide_eq_false hm0
    have hd1 : decide ((n : Int) - pos < m) = true := decide_eq_true hm1
    go_enter Try.func17, Try.ntmps17
    go_wp2_with (go_at_call 15; refine (left_any _ _ _ _ _ _ _ _ _ h h0 h1 h2).mono ?_; rintro e w' ⟨rfl, k, rfl⟩)
    go_ret2
    exact ⟨rfl, drewN_below _ _⟩

set_option maxHeartbeats 400000 in
set_option maxRecDepth 100000 in
/-- Peek, where so many are left. -/
theorem peek_yes (w : World) (g : Nat) (A : Option Addr) (n c : Nat) (pos once gone limit : Int) (h : SrcB w g (.slice A n c) pos once gone limit)
    (h0 : 0 ≤ pos) (h1 : pos ≤ n) (h2 : n ≤ 1000000) (xs : List Int) (hx : ReadsInt w .u8 A n xs) (hc : n ≤ c) (m : Int) (hm0 : 0 ≤ m) (hm : m ≤ (n : Int) - pos) :
    Calls Try.prog 17 #[.pointer (some ⟨g, 0, none⟩), .int .i64 m] w fun e w' => ∃ gb : Nat, e = .returned (.tuple #[.slice (some ⟨gb, 0, none⟩) m.toNat m.toNat, .bool true]) ∧
      w'.ownsRow w.heap.size 5 1 (.slice (some ⟨gb, 0, none⟩) m.toNat m.toNat) m.toNat (nums .u8 ((xs.drop pos.toNat).take m.toNat)) ∧ Below w.heap.size w w' := by
  obtain ⟨m, rfl⟩ := Int.eq_ofNat_of_zero_le hm0
  obtain ⟨p, rfl⟩ := Int.eq_ofNat_of_zero_le h0
  rw [Int.toNat_natCast, Int.toNat_natCast]
  have hd : decide ((m : Int) < 0) = false := decide_eq_false (by omega)
  have hd1 : decide ((n : Int) - p < m) = false := decide_eq_false (by omega)
  have hmk := print_make (P := Try.prog) 33 5 .u8 1 Try.underlying33 Try.info5 (by omega) m (by omega)
  obtain ⟨i0, hi0, hsz⟩ := Option.map_eq_some_iff.1 Try.size5
  obtain ⟨A1, hcut, hA1⟩ := print_cut (P := Try.prog) 33 5 .i64 Try.underlying33 hi0 hsz A n c p (by omega)
  have hpn : (p : Int) ≤ (n : Int) := h1
  go_enter Try.func17, Try.ntmps17
  go_wp2_with (go_at_call 15; refine (left_any _ _ _ _ _ _ _ _ _ h h0 (by omega) h2).mono ?_; rintro e w1 ⟨rfl, k, hk⟩)
  have HB : Below w.heap.size w ((w.drewN k).alloc (.cells (madeCells #[.int .u8 0] m) 5)) := (drewN_below w k).alloc (Nat.le_refl _) _
  have HO : ((w.drewN k).alloc (.cells (madeCells #[.int .u8 0] m) 5)).ownsRow w.heap.size 5 1 (.slice (some ⟨w.heap.size, 0, none⟩) m m) m (nums .u8 (List.replicate m 0)) := own_made (w.drewN k) w.heap.size 5 .u8 m (Nat.le_refl _) (by omega)
  have HS := SrcB.below h HB
  have HR := hA1 _ _ _ hc (hx.below HB)
  have Hsz : w.heap.size + 1 = ((w.drewN k).alloc (.cells (madeCells #[.int .u8 0] m) 5)).heap.size := by rw [World.size_alloc]; rfl
  clear hk hmk h hx hA1
  generalize ((w.drewN k).alloc (.cells (madeCells #[.int .u8 0] m) 5)) = W2 at *
  obtain ⟨k0, k1, k2, k3, k4, kf⟩ := HS.cells
  go_region_law (refine step_copy_read rfl (.tmp 21) (.tmp 30) 33 33 5 .u8 rfl Try.underlying33 Try.size5 w.heap.size w.heap.size m m (List.replicate m 0) (xs.drop p) A1 (n - p) (c - p) m (by omega) (by simp [Act.eval, Act.put]) (by simp [Act.eval, Act.put]) HO HR ?_; intro w3 h3 g3)
  all_goals
    go_wp2
    go_ret2
    exact ⟨_, rfl, by rwa [fill_all] at h3, HB.drew.grown g3 (by show _ ≤ W2.heap.size; omega) (fun k hk => by injection hk with hk; omega)⟩
end Go.Proofs.Yticcfpbeejakhaa
