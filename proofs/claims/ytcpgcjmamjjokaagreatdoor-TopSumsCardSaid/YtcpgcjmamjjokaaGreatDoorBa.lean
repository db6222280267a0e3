/- lang.Check at the sum and at the count. -/
import Derived.Test.YtcpgcjmamjjokaaGreatDoorCz
namespace Go.Proofs.YtcpgcjmamjjokaaGreatDoor
open Go.RowKit Go.Proofs.YtcpgcjmamjjokaaGreatDoorW.PrintWords Go.Proofs.YtcpgcjmamjjokaaGreatDoorW.PrintMore
set_option linter.unusedVariables false
set_option linter.unusedSimpArgs false
set_option maxRecDepth 100000 in
theorem eq_strs (w : World) : Calls Tryz.prog 150 #[.slice none 0 0, .slice none 0 0] w fun e w' => e = .returned (.bool true) ∧ w = w' := by
  go_enter Tryz.func150, Tryz.ntmps150
  go_wp2_with fail
  go_loop [13] (fun v => v = .int .i64 0) (fun _ => 0)
  case atStart => rfl
  case round =>
    obtain rfl := hrel
    go_wp2_with fail
    go_ret
    exact ⟨rfl, rfl⟩
set_option maxRecDepth 100000 in
theorem eq_vals (f : Value) (w : World) : Calls Tryz.prog 151 #[.slice none 0 0, .slice none 0 0, f] w fun e w' => e = .returned (.bool true) ∧ w = w' := by
  go_enter Tryz.func151, Tryz.ntmps151
  go_wp2_with fail
  go_loop [17] (fun v => v = .int .i64 0) (fun _ => 0)
  case atStart => rfl
  case round =>
    obtain rfl := hrel
    go_wp2_with fail
    go_ret
    exact ⟨rfl, rfl⟩
set_option maxRecDepth 100000 in
theorem ix_exprs (f : Value) (w : World) : Calls Tryz.prog 152 #[.slice none 0 0, f] w fun e w' => e = .returned (.int .i64 (-1)) ∧ w = w' := by
  go_enter Tryz.func152, Tryz.ntmps152
  go_wp2_with fail
  go_loop [8] (fun v => v = .int .i64 0) (fun _ => 0)
  case atStart => rfl
  case round =>
    obtain rfl := hrel
    go_wp2_with fail
    go_ret
    exact ⟨rfl, rfl⟩
set_option maxRecDepth 100000 in
theorem ix_strs (f : Value) (w : World) : Calls Tryz.prog 126 #[.slice none 0 0, f] w fun e w' => e = .returned (.int .i64 (-1)) ∧ w = w' := by
  go_enter Tryz.func126, Tryz.ntmps126
  go_wp2_with fail
  go_loop [8] (fun v => v = .int .i64 0) (fun _ => 0)
  case atStart => rfl
  case round =>
    obtain rfl := hrel
    go_wp2_with fail
    go_ret
    exact ⟨rfl, rfl⟩
set_option maxRecDepth 100000 in
theorem cf_exprs (f : Value) (w : World) : Calls Tryz.prog 107 #[.slice none 0 0, f] w fun e w' => e = .returned (.bool false) ∧ w = w' := by
  go_enter Tryz.func107, Tryz.ntmps107
  go_wp2_with fail
  refine (ix_exprs _ _).mono ?_
  rintro e w1 ⟨rfl, rfl⟩
  go_wp2_with fail
  go_ret
  exact ⟨rfl, rfl⟩
set_option maxRecDepth 100000 in
theorem cf_strs (f : Value) (w : World) : Calls Tryz.prog 95 #[.slice none 0 0, f] w fun e w' => e = .returned (.bool false) ∧ w = w' := by
  go_enter Tryz.func95, Tryz.ntmps95
  go_wp2_with fail
  refine (ix_strs _ _).mono ?_
  rintro e w1 ⟨rfl, rfl⟩
  go_wp2_with fail
  go_ret
  exact ⟨rfl, rfl⟩
/-- The zero value. -/
def v0 : Value := .agg #[.int .i64 0, .bool false, .bool false, .string ⟨#[]⟩, .int .i64 0, .int .u64 0, .string ⟨#[]⟩, .slice none 0 0, .slice none 0 0]
set_option maxHeartbeats 800000 in
set_option maxRecDepth 100000 in
theorem equal_zero (w : World) : Calls Tryz.prog 106 #[v0, v0] w fun e w' => e = .returned (.bool true) ∧ Below w.heap.size w w' := by
  unfold v0
  go_enter Tryz.func106, Tryz.ntmps106
  go_wp2_with fail
  refine (eq_strs _).mono ?_
  rintro e w1 ⟨rfl, rfl⟩
  go_wp2_with fail
  refine (eq_vals _ _).mono ?_
  rintro e w1 ⟨rfl, rfl⟩
  go_wp2_with fail
  go_ret
  exact ⟨rfl, below_alloc (below_alloc (Below.refl _ _) _) _⟩
/-- The mapping that is but one word. -/
def exC (op : Int) : Array Value := #[.int .i64 op, .string ⟨#[]⟩, .slice none 0 0, .slice none 0 0, .int .i64 0, .bool false, .bool false, .string ⟨#[]⟩, .int .i64 0, .int .u64 0, .string ⟨#[]⟩, .slice none 0 0, .slice none 0 0]
def exV (op : Int) : Value := .agg #[.int .i64 op, .string ⟨#[]⟩, .slice none 0 0, .slice none 0 0, .int .i64 0, .bool false, .bool false, .string ⟨#[]⟩, .int .i64 0, .int .u64 0, .string ⟨#[]⟩, .slice none 0 0, .slice none 0 0]
theorem ex_cells {w : World} {g : Nat} {op : Int} {t : TypeId} (h : w.heap[g]? = some (.cells (exC op) t (0, 0))) : w.cell? ⟨g, 0, none⟩ = some (.int .i64 op) ∧ w.cell? ⟨g, 1, none⟩ = some (.string ⟨#[]⟩) ∧ w.cell? ⟨g, 2, none⟩ = some (.slice none 0 0) ∧ w.cell? ⟨g, 3, none⟩ = some (.slice none 0 0) ∧ w.cell? ⟨g, 4, none⟩ = some (.int .i64 0) ∧ w.cell? ⟨g, 5, none⟩ = some (.bool false) ∧ w.cell? ⟨g, 6, none⟩ = some (.bool false) ∧ w.cell? ⟨g, 7, none⟩ = some (.string ⟨#[]⟩) ∧ w.cell? ⟨g, 8, none⟩ = some (.int .i64 0) ∧ w.cell? ⟨g, 9, none⟩ = some (.int .u64 0) ∧ w.cell? ⟨g, 10, none⟩ = some (.string ⟨#[]⟩) ∧ w.cell? ⟨g, 11, none⟩ = some (.slice none 0 0) ∧ w.cell? ⟨g, 12, none⟩ = some (.slice none 0 0) :=
  ⟨(blk_cell h 0).trans rfl, (blk_cell h 1).trans rfl, (blk_cell h 2).trans rfl, (blk_cell h 3).trans rfl, (blk_cell h 4).trans rfl, (blk_cell h 5).trans rfl, (blk_cell h 6).trans rfl, (blk_cell h 7).trans rfl, (blk_cell h 8).trans rfl, (blk_cell h 9).trans rfl, (blk_cell h 10).trans rfl, (blk_cell h 11).trans rfl, (blk_cell h 12).trans rfl⟩
set_option maxHeartbeats 1600000 in
set_option maxRecDepth 100000 in
theorem formed_ex (op : Int) (hop : op = 10 ∨ op = 11) (w : World) : Calls Tryz.prog 55 #[exV op] w fun e w' => e = .returned (.bool true) ∧ Below w.heap.size w w' := by
  have hE := fun w => equal_zero w
  unfold v0 at hE
  unfold exV
  rcases hop with rfl | rfl
  · go_enter Tryz.func55, Tryz.ntmps55
    obtain ⟨G, hG⟩ : ∃ G, w.heap.size = G := ⟨_, rfl⟩
    go_wp2_with fail
    generalize hw1 : World.alloc w _ = w1
    obtain ⟨b1, B1⟩ : w1.heap[G]? = some (.cells (exC 10) 38 (0, 0)) ∧ Below w.heap.size w w1 := by
      subst hw1 hG
      exact ⟨heap_alloc_new _ _, below_alloc (Below.refl _ _) _⟩
    clear hw1
    refine (hE _).mono ?_
    rintro e w2 ⟨rfl, B2⟩
    have b2 := blk_below b1 B2
    replace B2 := Lib.hid (below_then B1 B1.size B2)
    obtain ⟨c0, c1, c2, c3, c4, c5, c6, c7, c8, c9, c10, c11, c12⟩ := ex_cells b2
    clear b1 b2 B1
    go_wp2_with fail
    refine (cf_exprs _ _).mono ?_
    rintro e w3 ⟨rfl, rfl⟩
    go_wp2_with fail
    go_ret
    exact ⟨rfl, B2.out⟩
  · go_enter Tryz.func55, Tryz.ntmps55
    obtain ⟨G, hG⟩ : ∃ G, w.heap.size = G := ⟨_, rfl⟩
    go_wp2_with fail
    generalize hw1 : World.alloc w _ = w1
    obtain ⟨b1, B1⟩ : w1.heap[G]? = some (.cells (exC 11) 38 (0, 0)) ∧ Below w.heap.size w w1 := by
      subst hw1 hG
      exact ⟨heap_alloc_new _ _, below_alloc (Below.refl _ _) _⟩
    clear hw1
    refine (hE _).mono ?_
    rintro e w2 ⟨rfl, B2⟩
    have b2 := blk_below b1 B2
    replace B2 := Lib.hid (below_then B1 B1.size B2)
    obtain ⟨c0, c1, c2, c3, c4, c5, c6, c7, c8, c9, c10, c11, c12⟩ := ex_cells b2
    clear b1 b2 B1
    go_wp2_with fail
    refine (cf_exprs _ _).mono ?_
    rintro e w3 ⟨rfl, rfl⟩
    go_wp2_with fail
    go_ret
    exact ⟨rfl, B2.out⟩
set_option maxRecDepth 100000 in
theorem long_no (w : World) : Calls Tryz.prog 109 #[.string ⟨#[]⟩] w fun e w' => e = .returned (.bool false) ∧ w = w' := by
  go_enter Tryz.func109, Tryz.ntmps109
  go_wp2_with fail
  go_ret
  exact ⟨rfl, rfl⟩
set_option maxHeartbeats 1600000 in
set_option maxRecDepth 100000 in
theorem span_ex (op : Int) (w : World) : Calls Tryz.prog 56 #[exV op] w fun e w' => e = .returned (.tuple #[.int .i64 1, .int .i64 1, .bool true]) ∧ Below w.heap.size w w' := by
  unfold exV
  go_enter Tryz.func56, Tryz.ntmps56
  go_wp2_with fail
  refine (long_no _).mono ?_
  rintro e w1 ⟨rfl, rfl⟩
  go_wp2_with fail
  refine (cf_strs _ _).mono ?_
  rintro e w1 ⟨rfl, rfl⟩
  go_wp2_with fail
  go_loop [2, 3, 4, 39] (fun a b c v => a = .int .i64 0 ∧ b = .int .i64 1 ∧ c = .bool true ∧ v = .int .i64 0) (fun _ _ _ _ => 0)
  case atStart => exact ⟨rfl, rfl, rfl, rfl⟩
  case round =>
    obtain ⟨rfl, rfl, rfl, rfl⟩ := hrel
    go_wp2_with fail
    go_ret3
    exact ⟨rfl, below_alloc (Below.refl _ _) _⟩
set_option maxHeartbeats 1600000 in
set_option maxRecDepth 100000 in
theorem check_ex (op : Int) (hop : op = 10 ∨ op = 11) (w : World) : Calls Tryz.prog 23 #[exV op] w fun e w' => e = .returned (.int .i64 0) ∧ Below w.heap.size w w' := by
  have hF := fun w => formed_ex op hop w
  have hS := fun w => span_ex op w
  unfold exV at *
  go_enter Tryz.func23, Tryz.ntmps23
  go_wp2_with fail
  generalize hw1 : World.alloc w _ = w1
  obtain ⟨b1, B1⟩ : w1.heap[w.heap.size]? = some (.cells (exC op) 38 (0, 0)) ∧ Below w.heap.size w w1 := by
    subst hw1
    exact ⟨heap_alloc_new _ _, below_alloc (Below.refl _ _) _⟩
  clear hw1
  refine (hF _).mono ?_
  rintro e w2 ⟨rfl, B2⟩
  have b2 := blk_below b1 B2
  replace B2 := Lib.hid (below_then B1 B1.size B2)
  obtain ⟨c0, c1, c2, c3, c4, c5, c6, c7, c8, c9, c10, c11, c12⟩ := ex_cells b2
  clear b1 b2 B1
  go_wp2_with fail
  refine (hS _).mono ?_
  rintro e w3 ⟨rfl, B3⟩
  replace B3 := Lib.hid (below_then B2.out B2.out.size B3)
  go_wp2_with fail
  go_ret
  exact ⟨rfl, B3.out⟩
end Go.Proofs.YtcpgcjmamjjokaaGreatDoor
