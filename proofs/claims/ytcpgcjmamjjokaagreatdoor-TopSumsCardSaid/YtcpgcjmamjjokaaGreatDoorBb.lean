/- code.Compile at the sum and at the count. -/
import Derived.Test.YtcpgcjmamjjokaaGreatDoorBx
import Derived.Deep.RegionHeld3
namespace Go.Proofs.YtcpgcjmamjjokaaGreatDoor
open Go.RowKit Go.Proofs.YtcpgcjmamjjokaaGreatDoorW.PrintWords Go.Proofs.YtcpgcjmamjjokaaGreatDoorW.PrintMore
set_option linter.unusedVariables false
set_option linter.unusedSimpArgs false
set_option maxRecDepth 100000 in
theorem clone_strs (w : World) : Calls Tryz.prog 25 #[.slice none 0 0] w fun e w' => e = .returned (.slice none 0 0) ∧ w = w' := by
  have q := fun (w : World) => Lib.run_eql_slice_nil (P := Tryz.prog) w 28 _ none 0 0 0 0 Tryz.underlying28
  go_enter Tryz.func25, Tryz.ntmps25
  go_wp2_with fail
  go_ret
  exact ⟨rfl, rfl⟩
set_option maxRecDepth 100000 in
theorem clone_vals (w : World) : Calls Tryz.prog 57 #[.slice none 0 0] w fun e w' => e = .returned (.slice none 0 0) ∧ w = w' := by
  have q := fun (w : World) => Lib.run_eql_slice_nil (P := Tryz.prog) w 34 _ none 0 0 0 0 Tryz.underlying34
  go_enter Tryz.func57, Tryz.ntmps57
  go_wp2_with fail
  go_ret
  exact ⟨rfl, rfl⟩
set_option maxHeartbeats 800000 in
set_option maxRecDepth 100000 in
theorem own_zero (w : World) : Calls Tryz.prog 26 #[v0] w fun e w' => e = .returned v0 ∧ Below w.heap.size w w' := by
  unfold v0
  go_enter Tryz.func26, Tryz.ntmps26
  go_wp2_with (first | (go_at_call 25; (with_reducible refine (clone_strs _).mono ?_); rintro e w1 ⟨rfl, rfl⟩) | (go_at_call 57; (with_reducible refine (clone_vals _).mono ?_); rintro e w1 ⟨rfl, rfl⟩))
  refine bodyPost_ret (results_cell_row rfl _ _ (w.heap.size + 1) 36 #[.int .i64 0, .bool false, .bool false, .string ⟨#[]⟩, .int .i64 0, .int .u64 0, .string ⟨#[]⟩, .slice none 0 0, .slice none 0 0] (0, 0) _ rfl (alloc2 _ _ _) Tryz.underlying36 rfl (by kernel_rfl)) rfl ?_
  exact ⟨rfl, below_alloc (below_alloc (Below.refl _ _) _) _⟩
theorem info73 : (Tryz.prog.info? 73).map (fun i => (i.zero, i.size, i.bytes)) = some (some (.agg #[.int .i64 0, .string ⟨#[]⟩, .slice none 0 0, .slice none 0 0, .int .i64 0, .bool false, .bool false, .string ⟨#[]⟩, .int .i64 0, .int .u64 0, .string ⟨#[]⟩, .slice none 0 0, .slice none 0 0]), 13, 192) := by kernel_rfl
theorem num_drew1' {w w3 : World} (h : Below w.drew.heap.size w.drew w3) : Below w.heap.size w w3 := ⟨h.os, h.tape, h.output, h.size, h.block⟩
theorem row_grow {w w2 : World} {g : Nat} {o : Obj} (h : w.heap[g]? = some o) (hg : w.grownBy w2 (Value.slice none 0 0).ownBlock) : w2.heap[g]? = some o := (hg.block g (blk_lt h) (by simp [Value.ownBlock])).trans h
theorem lay_keep {x : World} {L G : Nat} {op : Int} (h1 : x.heap[L]? = some (.cells #[.slice none 0 0] 23 (0, 0))) (h2 : x.heap[G]? = some (.cells (exC op) 38 (0, 0))) : x.cell? ⟨L, 0, none⟩ = some (.slice none 0 0) ∧ x.frozen? ⟨L, 0, none⟩ = false ∧ x.cell? ⟨G, 0, none⟩ = some (.int .i64 op) ∧ x.cell? ⟨G, 1, none⟩ = some (.string ⟨#[]⟩) ∧ x.cell? ⟨G, 2, none⟩ = some (.slice none 0 0) ∧ x.cell? ⟨G, 3, none⟩ = some (.slice none 0 0) ∧ x.cell? ⟨G, 4, none⟩ = some (.int .i64 0) ∧ x.cell? ⟨G, 5, none⟩ = some (.bool false) ∧ x.cell? ⟨G, 6, none⟩ = some (.bool false) ∧ x.cell? ⟨G, 7, none⟩ = some (.string ⟨#[]⟩) ∧ x.cell? ⟨G, 8, none⟩ = some (.int .i64 0) ∧ x.cell? ⟨G, 9, none⟩ = some (.int .u64 0) ∧ x.cell? ⟨G, 10, none⟩ = some (.string ⟨#[]⟩) ∧ x.cell? ⟨G, 11, none⟩ = some (.slice none 0 0) ∧ x.cell? ⟨G, 12, none⟩ = some (.slice none 0 0) :=
  ⟨(blk1 h1).1, (blk1 h1).2, ex_cells h2⟩
end Go.Proofs.YtcpgcjmamjjokaaGreatDoor
