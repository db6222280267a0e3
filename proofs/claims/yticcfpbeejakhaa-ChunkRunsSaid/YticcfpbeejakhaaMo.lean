/- ChunkNil, walked. -/
import Derived.Test.YticcfpbeejakhaaMm
namespace Go.Proofs.Yticcfpbeejakhaa
open Go.ChangeShapes Go.WideShapes Go.ChangeAt Go.RowKit Go.Proofs.YticcfpbeejakhaaW.PrintWords Go.Proofs.YticcfpbeejakhaaW.PrintMore
set_option linter.unusedVariables false
set_option linter.unusedSimpArgs false

theorem ops_one (w : World) (bx : Nat) (o : OpV) (h : w.heap[bx]? = some (.cells #[.int .i64 o.kind, .int .i64 o.n, .slice o.A o.len o.cap] 35 (0, 0))) (hr : ReadsInt w .u8 o.A o.len o.l) (hf : o.len ≤ 140737488351232) :
    OpsRead w (some ⟨bx, 0, none⟩) 1 (fun _ => o) := by
  intro i hi
  obtain rfl : i = 0 := by omega
  refine ⟨⟨bx, 0, none⟩, rfl, ?_, ?_, ?_, hr, hf⟩
  · exact (blk_cell h 0).trans rfl
  · exact (blk_cell h 1).trans rfl
  · exact (blk_cell h 2).trans rfl

set_option maxHeartbeats 1000000 in
set_option maxRecDepth 100000 in
theorem nil_walk (w : World) (o : OpV) (hr : ReadsInt w .u8 o.A o.len o.l) (hf : o.len ≤ 140737488351232) :
    Calls Try.prog 5 #[.agg #[.int .i64 o.kind, .int .i64 o.n, .slice o.A o.len o.cap]] w fun e w' => e = .returned (.bool true) ∧ Below w.heap.size w w' := by
  have HO := fun (w2 : World) (hb : Below w.heap.size w w2) (bx : Nat) (hx : w2.heap[bx]? = some (.cells #[.int .i64 o.kind, .int .i64 o.n, .slice o.A o.len o.cap] 35 (0, 0))) => ops_one w2 bx o hx (hr.below hb) hf
  clear hr hf
  have HOh := Lib.hid HO
  clear HO
  go_enter Try.func5, Try.ntmps5
  go_wp2_with fail
  have B1 : Below w.heap.size w ((w.alloc (.cells #[.int .i64 o.kind, .int .i64 o.n, .slice o.A o.len o.cap] 35)).alloc (.cells #[.int .i64 o.kind, .int .i64 o.n, .slice o.A o.len o.cap] 35)) := ((Below.refl _ w).alloc (Nat.le_refl _) _).alloc (by simp) _
  have BX : ((w.alloc (.cells #[.int .i64 o.kind, .int .i64 o.n, .slice o.A o.len o.cap] 35)).alloc (.cells #[.int .i64 o.kind, .int .i64 o.n, .slice o.A o.len o.cap] 35)).heap[w.heap.size]? = some (.cells #[.int .i64 o.kind, .int .i64 o.n, .slice o.A o.len o.cap] 35 (0, 0)) :=
    (Below.heap_alloc _ _ _ (by simp)).trans (heap_alloc_new w _)
  have BY : ((w.alloc (.cells #[.int .i64 o.kind, .int .i64 o.n, .slice o.A o.len o.cap] 35)).alloc (.cells #[.int .i64 o.kind, .int .i64 o.n, .slice o.A o.len o.cap] 35)).heap[w.heap.size + 1]? = some (.cells #[.int .i64 o.kind, .int .i64 o.n, .slice o.A o.len o.cap] 35 (0, 0)) := by
    have := heap_alloc_new (w.alloc (.cells #[.int .i64 o.kind, .int .i64 o.n, .slice o.A o.len o.cap] 35)) (.cells #[.int .i64 o.kind, .int .i64 o.n, .slice o.A o.len o.cap] 35)
    rwa [World.size_alloc] at this
  have hL := HOh.out _ B1 _ BY
  have hsx : w.heap.size < ((w.alloc (.cells #[.int .i64 o.kind, .int .i64 o.n, .slice o.A o.len o.cap] 35)).alloc (.cells #[.int .i64 o.kind, .int .i64 o.n, .slice o.A o.len o.cap] 35)).heap.size := by simp; omega
  clear BY HOh
  generalize ((w.alloc (.cells #[.int .i64 o.kind, .int .i64 o.n, .slice o.A o.len o.cap] 35)).alloc (.cells #[.int .i64 o.kind, .int .i64 o.n, .slice o.A o.len o.cap] 35)) = W1 at *
  refine (large_any W1 _ 1 1 _ hL (by omega)).mono ?_
  rintro e w1 ⟨⟨r, rfl, _⟩, rfl⟩
  clear hL
  obtain ⟨k0, k1, k2⟩ : W1.cell? ⟨w.heap.size, 0, none⟩ = some (.int .i64 o.kind) ∧ W1.cell? ⟨w.heap.size, 1, none⟩ = some (.int .i64 o.n) ∧ W1.cell? ⟨w.heap.size, 2, none⟩ = some (.slice o.A o.len o.cap) := ⟨(blk_cell BX 0).trans rfl, (blk_cell BX 1).trans rfl, (blk_cell BX 2).trans rfl⟩
  cases r with
  | true =>
    go_wp2_with fail
    go_ret
    exact ⟨rfl, B1⟩
  | false =>
    go_wp2_with fail
    refine (take_nil _ _).mono ?_
    rintro e w2 ⟨rfl, rfl⟩
    go_wp2_with fail
    refine (peek_nil _ _).mono ?_
    rintro e w2 ⟨rfl, rfl⟩
    go_wp2_with fail
    refine (awake_true _).mono ?_
    rintro e w2 ⟨rfl, B2⟩
    have BX2 := (B2.block _ hsx).trans BX
    have B3 := below_then B1 B1.size B2
    clear k0 k1 k2 BX B1 B2 hsx
    obtain ⟨k0, k1, k2⟩ : w2.cell? ⟨w.heap.size, 0, none⟩ = some (.int .i64 o.kind) ∧ w2.cell? ⟨w.heap.size, 1, none⟩ = some (.int .i64 o.n) ∧ w2.cell? ⟨w.heap.size, 2, none⟩ = some (.slice o.A o.len o.cap) := ⟨(blk_cell BX2 0).trans rfl, (blk_cell BX2 1).trans rfl, (blk_cell BX2 2).trans rfl⟩
    go_wp2_with fail
    refine (feed_nil _ _ _ _).mono ?_
    rintro e w3 ⟨rfl, rfl⟩
    go_wp2_with fail
    refine (back_nil _ _).mono ?_
    rintro e w3 ⟨rfl, rfl⟩
    go_wp2_with fail
    refine (left_nil _).mono ?_
    rintro e w3 ⟨rfl, rfl⟩
    go_wp2_with fail
    refine (total_nil _).mono ?_
    rintro e w3 ⟨rfl, rfl⟩
    go_wp2_with fail
    go_ret
    exact ⟨rfl, B3⟩

theorem agg_cells (cs : Array Value) : (Value.agg cs).cells.toList = cs.toList := by simp [Value.cells]

theorem open_op_val {H : Type} {enc : TypeId × Value → H} {W : World} {r : Reach} {b0 : Nat} {v : Value} {d : DataW H} {ps : List MemPlace} (hv : Value.okWide Try.prog W r b0 35 v)
    (h : DataW.Trod enc Try.prog W 0 (fun _ => true) true 35 v d ps) (hw : ∀ q ∈ d.weights Try.prog 35, q ≤ reachBytes) :
    ∃ o : OpV, v = .agg #[.int .i64 o.kind, .int .i64 o.n, .slice o.A o.len o.cap] ∧ ReadsInt W .u8 o.A o.len o.l ∧ o.len ≤ 140737488351232 := by
  obtain ⟨cs, rfl, hsz⟩ := okWide_struct Try.underlying35 hv
  obtain ⟨fuel, hf⟩ := h
  obtain ⟨o, ho⟩ := open_op hf hw
  have hc := ho.cells
  rw [agg_cells] at hc
  refine ⟨o, ?_, ho.reads, ho.fits⟩
  rw [show cs = #[.int .i64 o.kind, .int .i64 o.n, .slice o.A o.len o.cap] from Array.toList_inj.1 hc]

theorem weights_of {H : Type} {P : Program} {ts : List TypeId} {ds : List (DataW H)} (h : (DataW.weightsEach P ts ds).all (· ≤ reachBytes) = true) {j : Nat} {t : TypeId} {d : DataW H} (ht : ts[j]? = some t) (hd : ds[j]? = some d) : ∀ q ∈ d.weights P t, q ≤ reachBytes := fun q hq => by
  have := List.all_eq_true.1 h q (DataW.weights_mem_each ht hd q hq)
  simpa using this
end Go.Proofs.Yticcfpbeejakhaa
