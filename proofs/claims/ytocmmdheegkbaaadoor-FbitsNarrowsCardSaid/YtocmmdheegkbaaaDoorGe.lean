/- fbits.Widen16, Widen32. -/
import Derived.Test.YtocmmdheegkbaaaDoorGd
namespace Go.Proofs.YtocmmdheegkbaaaDoor
open Go.RowKit Go.Proofs.YtocmmdheegkbaaaDoorW.PrintWords Go.Proofs.YtocmmdheegkbaaaDoorW.PrintMore
set_option linter.unusedVariables false
set_option linter.unusedSimpArgs false
attribute [local go_sem] ext28 ext36 ext40 andNot_sign emod_tn

/-- The two shapes lie in memory. -/
structure Shapes (w : World) : Prop where
  h0 : w.cell? ⟨0, 0, none⟩ = some (.int .i64 5)
  h1 : w.cell? ⟨0, 1, none⟩ = some (.int .i64 10)
  s0 : w.cell? ⟨1, 0, none⟩ = some (.int .i64 8)
  s1 : w.cell? ⟨1, 1, none⟩ = some (.int .i64 23)
theorem Shapes.below {w w' : World} (h : Shapes w) (hb : Below w.heap.size w w') : Shapes w' :=
  ⟨cell_later hb h.h0, cell_later hb h.h1, cell_later hb h.s0, cell_later hb h.s1⟩

set_option maxHeartbeats 1000000 in
set_option maxRecDepth 1000000 in
theorem Widen16_any (h : Nat) (hh : h < 65536) (w : World) (hS : Shapes w) : Calls Tryd.prog 10 #[.int .u16 (h : Int)] w fun e w' => e = .returned (.int .u64 (W16 h)) ∧ Below w.heap.size w w' := by
  obtain ⟨a, b, c, d⟩ := hS
  go_enter Tryd.func10, Tryd.ntmps10
  go_wp2_with fail
  refine (widen_half h hh _).mono ?_
  rintro e w1 ⟨rfl, B1⟩
  go_wp2
  go_ret
  exact ⟨rfl, B1⟩
set_option maxHeartbeats 1000000 in
set_option maxRecDepth 1000000 in
theorem Widen32_any (h : Nat) (hh : h < 4294967296) (w : World) (hS : Shapes w) : Calls Tryd.prog 12 #[.int .u32 (h : Int)] w fun e w' => e = .returned (.int .u64 (W32 h)) ∧ Below w.heap.size w w' := by
  obtain ⟨a, b, c, d⟩ := hS
  go_enter Tryd.func12, Tryd.ntmps12
  go_wp2_with fail
  refine (widen_single h hh _).mono ?_
  rintro e w1 ⟨rfl, B1⟩
  go_wp2
  go_ret
  exact ⟨rfl, B1⟩
end Go.Proofs.YtocmmdheegkbaaaDoor
