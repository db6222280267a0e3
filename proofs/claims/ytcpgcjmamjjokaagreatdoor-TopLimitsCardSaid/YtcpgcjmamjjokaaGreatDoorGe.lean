/- json's reader: an element of a list. -/
import Derived.Test.YtcpgcjmamjjokaaGreatDoorGd
namespace Go.Proofs.YtcpgcjmamjjokaaGreatDoor
open Go.RowKit Go.Maps Go.Proofs.YtcpgcjmamjjokaaGreatDoorW.PrintWords Go.Proofs.YtcpgcjmamjjokaaGreatDoorW.PrintLast Go.Proofs.YtcpgcjmamjjokaaGreatDoorW.PrintMore Go.Proofs.YtcpgcjmamjjokaaGreatDoor.PTopLimits
set_option linter.unusedVariables false
set_option linter.unusedSimpArgs false
theorem info36 : (Tryz.prog.info? 36).map (fun i => (i.zero, i.size, i.bytes)) = some (some (.agg #[.int .i64 0, .bool false, .bool false, .string ⟨#[]⟩, .int .i64 0, .int .u64 0, .string ⟨#[]⟩, .slice none 0 0, .slice none 0 0]), 9, 120) := by kernel_rfl
section
variable {P : Program} {ops : Array Oper} {Q : Exit → Act → World → Prop} {md : Region.Mode} {S : World → Prop} {ds : List Nat}
/-- Two stores that may come up in either order; nothing is shown behind the first. -/
theorem twoL_ {i j : Nat} {Ni Nj : Option Tmp} {oi oj : Oper} {fuel : Nat} {l : Array Bool} {a : Act} {w : World} (li lj : Array Bool) (hi : ops[i]? = some oi) (hj : ops[j]? = some oj) (hNi : oi.dst = Ni) (hNj : oj.dst = Nj)
    (hc : (Region.ready md ops l == [i, j] && l.setIfInBounds i true == li && l.setIfInBounds j true == lj) = true) (hdi : i ∈ ds) (hdj : j ∈ ds)
    (h1 : ∀ K : Act → World → Prop, Shut (∀ a' w', wpAnyLast P md ops Q S ds fuel li a' w' → K a' w') → if Region.wanted oi (yielded ops a.tmps) = true then Oper.wp P oi a w K Q else K (a.put Ni undef) w)
    (h2 : ∀ K : Act → World → Prop, Shut (∀ a' w', wpAnyLast P md ops Q S ds fuel lj a' w' → K a' w') → if Region.wanted oj (yielded ops a.tmps) = true then Oper.wp P oj a w K Q else K (a.put Nj undef) w) :
    wpAnyLast P md ops Q S ds (fuel + 1) l a w := by
  subst hNi
  subst hNj
  simp only [Bool.and_eq_true, beq_iff_eq] at hc
  obtain ⟨⟨h3, h4⟩, h5⟩ := hc
  subst h4
  subst h5
  exact wpAnyLast_ready h3 (by simp) (AllReadyL.cons_last hi hdi (fun K hK => h1 K hK) (AllReadyL.cons_last hj hdj (fun K hK => h2 K hK) AllReadyL.nil))
end
theorem info36s : (Tryz.prog.info? 36).map (·.size) = some 9 := by kernel_rfl
theorem Kp.undrew {w w' : World} {S : Nat → Prop} (h : Kp w.drew w' S) : Kp w w' S := ⟨h.os, h.tape, h.output, h.size, h.block⟩
theorem alloc1 (w : World) (o : Obj) : (w.alloc o).heap[w.heap.size]? = some o := by
  show (w.heap.push o)[w.heap.size]? = _
  simp
theorem there_set {w : World} {g o n : Nat} (h : w.there g o n) (p : Nat × Nat) (v : Value) : (w.setCell ⟨p.1, p.2, none⟩ v).there g o n := World.there_setCells h p.1 p.2 [v]
theorem there9 {w : World} {g o : Nat} {x0 x1 x2 x3 x4 x5 x6 x7 x8 : Value} (h0 : w.cell? ⟨g, o + 0, none⟩ = some x0) (h1 : w.cell? ⟨g, o + 1, none⟩ = some x1) (h2 : w.cell? ⟨g, o + 2, none⟩ = some x2) (h3 : w.cell? ⟨g, o + 3, none⟩ = some x3) (h4 : w.cell? ⟨g, o + 4, none⟩ = some x4) (h5 : w.cell? ⟨g, o + 5, none⟩ = some x5) (h6 : w.cell? ⟨g, o + 6, none⟩ = some x6) (h7 : w.cell? ⟨g, o + 7, none⟩ = some x7) (h8 : w.cell? ⟨g, o + 8, none⟩ = some x8) (f0 : w.frozen? ⟨g, o + 0, none⟩ = false) (f1 : w.frozen? ⟨g, o + 1, none⟩ = false) (f2 : w.frozen? ⟨g, o + 2, none⟩ = false) (f3 : w.frozen? ⟨g, o + 3, none⟩ = false) (f4 : w.frozen? ⟨g, o + 4, none⟩ = false) (f5 : w.frozen? ⟨g, o + 5, none⟩ = false) (f6 : w.frozen? ⟨g, o + 6, none⟩ = false) (f7 : w.frozen? ⟨g, o + 7, none⟩ = false) (f8 : w.frozen? ⟨g, o + 8, none⟩ = false) : w.there g o 9 := by
  intro j hj
  rcases j with _ | _ | _ | _ | _ | _ | _ | _ | _ | j
  · exact ⟨Option.isSome_iff_exists.2 ⟨_, h0⟩, f0⟩
  · exact ⟨Option.isSome_iff_exists.2 ⟨_, h1⟩, f1⟩
  · exact ⟨Option.isSome_iff_exists.2 ⟨_, h2⟩, f2⟩
  · exact ⟨Option.isSome_iff_exists.2 ⟨_, h3⟩, f3⟩
  · exact ⟨Option.isSome_iff_exists.2 ⟨_, h4⟩, f4⟩
  · exact ⟨Option.isSome_iff_exists.2 ⟨_, h5⟩, f5⟩
  · exact ⟨Option.isSome_iff_exists.2 ⟨_, h6⟩, f6⟩
  · exact ⟨Option.isSome_iff_exists.2 ⟨_, h7⟩, f7⟩
  · exact ⟨Option.isSome_iff_exists.2 ⟨_, h8⟩, f8⟩
  · omega
/-- A call that hands back nine cells, and moves the reader on. -/
def Val {Z : Type} (R : Nat) (l' : List UInt8) (us : Z → List Value) (Q : Z → World → Prop) (W : World) : Prop :=
  Calls Tryz.prog 183 #[.pointer (some ⟨R, 0, none⟩)] W fun e W' => ∃ z, e = .returned (.agg (us z).toArray) ∧ JR R l' W' ∧ Kp W W' (· = R) ∧ Q z W'
theorem row_grow {w w' : World} {g : Nat} {o : Obj} {row : Option Nat} (h : w.heap[g]? = some o) (hg : w.grownBy w' row) (hn : some g ≠ row) : w'.heap[g]? = some o := (hg.block g (blk_lt h) hn).trans h
theorem Kp.grown_ {w w' : World} {row : Option Nat} (hg : w.grownBy w' row) : Kp w w' (fun k => some k = row) := ⟨hg.os, hg.tape, hg.output, hg.size, fun k hk hn => hg.block k hk (fun e => hn e)⟩
theorem row_nine0 {w : World} {b g cap : Nat} (h : w.ownsRow b 36 9 (.slice (some ⟨g, 0, none⟩) (0 + 1) cap) (0 + 1) ([] ++ [.int .i64 0, .bool false, .bool false, .string ⟨#[]⟩, .int .i64 0, .int .u64 0, .string ⟨#[]⟩, .slice none 0 0, .slice none 0 0])) : w.cell? ⟨g, 0, none⟩ = some (.int .i64 0) ∧ w.cell? ⟨g, 1, none⟩ = some (.bool false) ∧ w.cell? ⟨g, 2, none⟩ = some (.bool false) ∧ w.cell? ⟨g, 3, none⟩ = some (.string ⟨#[]⟩) ∧ w.cell? ⟨g, 4, none⟩ = some (.int .i64 0) ∧ w.cell? ⟨g, 5, none⟩ = some (.int .u64 0) ∧ w.cell? ⟨g, 6, none⟩ = some (.string ⟨#[]⟩) ∧ w.cell? ⟨g, 7, none⟩ = some (.slice none 0 0) ∧ w.cell? ⟨g, 8, none⟩ = some (.slice none 0 0) ∧ w.frozen? ⟨g, 0, none⟩ = false ∧ w.frozen? ⟨g, 1, none⟩ = false ∧ w.frozen? ⟨g, 2, none⟩ = false ∧ w.frozen? ⟨g, 3, none⟩ = false ∧ w.frozen? ⟨g, 4, none⟩ = false ∧ w.frozen? ⟨g, 5, none⟩ = false ∧ w.frozen? ⟨g, 6, none⟩ = false ∧ w.frozen? ⟨g, 7, none⟩ = false ∧ w.frozen? ⟨g, 8, none⟩ = false :=
  ⟨(World.ownsRow.cellAt h 0 (by decide)).trans rfl, (World.ownsRow.cellAt h 1 (by decide)).trans rfl, (World.ownsRow.cellAt h 2 (by decide)).trans rfl, (World.ownsRow.cellAt h 3 (by decide)).trans rfl, (World.ownsRow.cellAt h 4 (by decide)).trans rfl, (World.ownsRow.cellAt h 5 (by decide)).trans rfl, (World.ownsRow.cellAt h 6 (by decide)).trans rfl, (World.ownsRow.cellAt h 7 (by decide)).trans rfl, (World.ownsRow.cellAt h 8 (by decide)).trans rfl, World.ownsRow.frozenAt h 0, World.ownsRow.frozenAt h 1, World.ownsRow.frozenAt h 2, World.ownsRow.frozenAt h 3, World.ownsRow.frozenAt h 4, World.ownsRow.frozenAt h 5, World.ownsRow.frozenAt h 6, World.ownsRow.frozenAt h 7, World.ownsRow.frozenAt h 8⟩
theorem row_nine1 {w : World} {b g cap : Nat} {t0 t1 t2 t3 t4 t5 t6 t7 t8 : Value} (h : w.ownsRow b 36 9 (.slice (some ⟨g, 0, none⟩) (1 + 1) cap) (1 + 1) ([t0, t1, t2, t3, t4, t5, t6, t7, t8] ++ [.int .i64 0, .bool false, .bool false, .string ⟨#[]⟩, .int .i64 0, .int .u64 0, .string ⟨#[]⟩, .slice none 0 0, .slice none 0 0])) : w.cell? ⟨g, 9, none⟩ = some (.int .i64 0) ∧ w.cell? ⟨g, 10, none⟩ = some (.bool false) ∧ w.cell? ⟨g, 11, none⟩ = some (.bool false) ∧ w.cell? ⟨g, 12, none⟩ = some (.string ⟨#[]⟩) ∧ w.cell? ⟨g, 13, none⟩ = some (.int .i64 0) ∧ w.cell? ⟨g, 14, none⟩ = some (.int .u64 0) ∧ w.cell? ⟨g, 15, none⟩ = some (.string ⟨#[]⟩) ∧ w.cell? ⟨g, 16, none⟩ = some (.slice none 0 0) ∧ w.cell? ⟨g, 17, none⟩ = some (.slice none 0 0) ∧ w.frozen? ⟨g, 9, none⟩ = false ∧ w.frozen? ⟨g, 10, none⟩ = false ∧ w.frozen? ⟨g, 11, none⟩ = false ∧ w.frozen? ⟨g, 12, none⟩ = false ∧ w.frozen? ⟨g, 13, none⟩ = false ∧ w.frozen? ⟨g, 14, none⟩ = false ∧ w.frozen? ⟨g, 15, none⟩ = false ∧ w.frozen? ⟨g, 16, none⟩ = false ∧ w.frozen? ⟨g, 17, none⟩ = false :=
  ⟨(World.ownsRow.cellAt h 9 (by decide)).trans rfl, (World.ownsRow.cellAt h 10 (by decide)).trans rfl, (World.ownsRow.cellAt h 11 (by decide)).trans rfl, (World.ownsRow.cellAt h 12 (by decide)).trans rfl, (World.ownsRow.cellAt h 13 (by decide)).trans rfl, (World.ownsRow.cellAt h 14 (by decide)).trans rfl, (World.ownsRow.cellAt h 15 (by decide)).trans rfl, (World.ownsRow.cellAt h 16 (by decide)).trans rfl, (World.ownsRow.cellAt h 17 (by decide)).trans rfl, World.ownsRow.frozenAt h 9, World.ownsRow.frozenAt h 10, World.ownsRow.frozenAt h 11, World.ownsRow.frozenAt h 12, World.ownsRow.frozenAt h 13, World.ownsRow.frozenAt h 14, World.ownsRow.frozenAt h 15, World.ownsRow.frozenAt h 16, World.ownsRow.frozenAt h 17⟩
theorem own_far {w : World} {b e size n g cap : Nat} {xs : List Value} (h : w.ownsRow b e size (.slice (some ⟨g, 0, none⟩) n cap) n xs) {V j : Nat} (hg : g ≠ V) (u : Value) : (w.setCell ⟨V, j, none⟩ u).ownsRow b e size (.slice (some ⟨g, 0, none⟩) n cap) n xs :=
  own_setCell h (p := ⟨V, j, none⟩) (fun e => hg (by simpa [Value.ownBlock] using e.symm)) u
/-- Behind the element's append. -/
def ElemPost0 (R V b lc : Nat) (LA : Option Addr) (l' : List UInt8) (v0 v1 v2 v3 v4 v5 v6 v7 u0 u1 u2 u3 u4 u5 u6 u7 u8 : Value) (Q : World → Prop) (w w' : World) : Prop :=
  ∃ g cap, w'.heap[V]? = some (.cells #[v0, v1, v2, v3, v4, v5, v6, v7, .slice (some ⟨g, 0, none⟩) (0 + 1) cap] 36 (0, 0)) ∧ w'.ownsRow b 36 9 (.slice (some ⟨g, 0, none⟩) (0 + 1) cap) (0 + 1) ([] ++ [u0, u1, u2, u3, u4, u5, u6, u7, u8]) ∧ JR R l' w' ∧ Q w' ∧ Kp w w' (fun k => k = R ∨ k = V ∨ some k = (Value.slice LA 0 lc).ownBlock) ∧ ((Value.slice LA 0 lc).ownBlock = some g ∨ w.heap.size ≤ g) ∧ g ≠ V ∧ g ≠ R
theorem elem_row0 {w : World} {b g cap : Nat} {u0 u1 u2 u3 u4 u5 u6 u7 u8 : Value} (hown : w.ownsRow b 36 9 (.slice (some ⟨g, 0, none⟩) (0 + 1) cap) (0 + 1) ([] ++ [.int .i64 0, .bool false, .bool false, .string ⟨#[]⟩, .int .i64 0, .int .u64 0, .string ⟨#[]⟩, .slice none 0 0, .slice none 0 0])) :
    (((((((((w.setCell ⟨g, 0, none⟩ u0).setCell ⟨g, 1, none⟩ u1).setCell ⟨g, 2, none⟩ u2).setCell ⟨g, 3, none⟩ u3).setCell ⟨g, 4, none⟩ u4).setCell ⟨g, 5, none⟩ u5).setCell ⟨g, 6, none⟩ u6).setCell ⟨g, 7, none⟩ u7).setCell ⟨g, 8, none⟩ u8).ownsRow b 36 9 (.slice (some ⟨g, 0, none⟩) (0 + 1) cap) (0 + 1) ([] ++ [u0, u1, u2, u3, u4, u5, u6, u7, u8]) := by
  have h0 := hown
  have h1 := (World.ownsRow.stored h0 0 u0).1
  have h2 := (World.ownsRow.stored h1 1 u1).1
  have h3 := (World.ownsRow.stored h2 2 u2).1
  have h4 := (World.ownsRow.stored h3 3 u3).1
  have h5 := (World.ownsRow.stored h4 4 u4).1
  have h6 := (World.ownsRow.stored h5 5 u5).1
  have h7 := (World.ownsRow.stored h6 6 u6).1
  have h8 := (World.ownsRow.stored h7 7 u7).1
  have h9 := (World.ownsRow.stored h8 8 u8).1
  exact h9
theorem elem_post0 {R V b lc g cap : Nat} {LA : Option Addr} {l' : List UInt8} {v0 v1 v2 v3 v4 v5 v6 v7 : Value} {Q : World → Prop} {w w4 w5 : World}
    (hown5 : w5.ownsRow b 36 9 (.slice (some ⟨g, 0, none⟩) (0 + 1) cap) (0 + 1) ([] ++ [.int .i64 0, .bool false, .bool false, .string ⟨#[]⟩, .int .i64 0, .int .u64 0, .string ⟨#[]⟩, .slice none 0 0, .slice none 0 0])) (hV5 : w5.heap[V]? = some (.cells #[v0, v1, v2, v3, v4, v5, v6, v7, .slice LA 0 lc] 36 (0, 0))) (hj4 : JR R l' w4) (hR5 : w5.heap[R]? = w4.heap[R]?)
    (K4 : Kp w w4 (· = R)) (K5 : Kp w4 w5 (fun k => some k = (Value.slice LA 0 lc).ownBlock)) (hQ4 : Q w4) (hQ : ∀ W W', Q W → Kp W W' (fun k => k = V ∨ some k = (Value.slice LA 0 lc).ownBlock) → Q W')
    (hgf : (Value.slice LA 0 lc).ownBlock = some g ∨ (w.heap.size ≤ g ∧ w4.heap.size ≤ g)) (hgV : g ≠ V) (hgR : g ≠ R) (hRV : V ≠ R) (u0 u1 u2 u3 u4 u5 u6 u7 u8 : Value) :
    ElemPost0 R V b lc LA l' v0 v1 v2 v3 v4 v5 v6 v7 u0 u1 u2 u3 u4 u5 u6 u7 u8 Q w ((((((((((w5.setCell ⟨g, 0, none⟩ u0).setCell ⟨g, 1, none⟩ u1).setCell ⟨g, 2, none⟩ u2).setCell ⟨g, 3, none⟩ u3).setCell ⟨g, 4, none⟩ u4).setCell ⟨g, 5, none⟩ u5).setCell ⟨g, 6, none⟩ u6).setCell ⟨g, 7, none⟩ u7).setCell ⟨g, 8, none⟩ u8).setCell ⟨V, 8, none⟩ (.slice (some ⟨g, 0, none⟩) (0 + 1) cap)) ∧ ElemPost0 R V b lc LA l' v0 v1 v2 v3 v4 v5 v6 v7 u0 u1 u2 u3 u4 u5 u6 u7 u8 Q w ((((((((((w5.setCell ⟨V, 8, none⟩ (.slice (some ⟨g, 0, none⟩) (0 + 1) cap)).setCell ⟨g, 0, none⟩ u0).setCell ⟨g, 1, none⟩ u1).setCell ⟨g, 2, none⟩ u2).setCell ⟨g, 3, none⟩ u3).setCell ⟨g, 4, none⟩ u4).setCell ⟨g, 5, none⟩ u5).setCell ⟨g, 6, none⟩ u6).setCell ⟨g, 7, none⟩ u7).setCell ⟨g, 8, none⟩ u8) := by
  have hVg : V ≠ g := fun e => hgV e.symm
  have hgf' : (Value.slice LA 0 lc).ownBlock = some g ∨ w.heap.size ≤ g := hgf.imp_right (fun h => h.1)
  have hj5 : JR R l' w5 := hR5.trans hj4
  have fin : ∀ w6, Kp w5 w6 (fun k => k = V ∨ k = g) → w6.heap[V]? = some (.cells #[v0, v1, v2, v3, v4, v5, v6, v7, .slice (some ⟨g, 0, none⟩) (0 + 1) cap] 36 (0, 0)) → w6.ownsRow b 36 9 (.slice (some ⟨g, 0, none⟩) (0 + 1) cap) (0 + 1) ([] ++ [u0, u1, u2, u3, u4, u5, u6, u7, u8]) → ElemPost0 R V b lc LA l' v0 v1 v2 v3 v4 v5 v6 v7 u0 u1 u2 u3 u4 u5 u6 u7 u8 Q w w6 := fun w6 K6 a1 a2 => by
    have K46 : Kp w4 w6 (fun k => k = V ∨ some k = (Value.slice LA 0 lc).ownBlock) := (K5.mono (fun i hi => .inr hi)).trans K6 (fun i hi => by
      rcases hi with rfl | rfl
      · exact .inl (.inl rfl)
      · rcases hgf with e | e
        · exact .inl (.inr e.symm)
        · exact .inr e.2)
    refine ⟨g, cap, a1, a2, hj5.kp K6 (by rintro (e | e); exact hRV e.symm; exact hgR e.symm), hQ _ _ hQ4 K46, (K4.mono (fun i hi => .inl hi)).trans K46 (fun i hi => .inl (.inr hi)), hgf', hgV, hgR⟩
  refine ⟨fin _ (((((((((((Kp.refl w5 (fun k => k = V ∨ k = g)).set_ (p := ⟨g, 0, none⟩) (.inl (.inr rfl)) u0).set_ (p := ⟨g, 1, none⟩) (.inl (.inr rfl)) u1).set_ (p := ⟨g, 2, none⟩) (.inl (.inr rfl)) u2).set_ (p := ⟨g, 3, none⟩) (.inl (.inr rfl)) u3).set_ (p := ⟨g, 4, none⟩) (.inl (.inr rfl)) u4).set_ (p := ⟨g, 5, none⟩) (.inl (.inr rfl)) u5).set_ (p := ⟨g, 6, none⟩) (.inl (.inr rfl)) u6).set_ (p := ⟨g, 7, none⟩) (.inl (.inr rfl)) u7).set_ (p := ⟨g, 8, none⟩) (.inl (.inr rfl)) u8).set_ (p := ⟨V, 8, none⟩) (.inl (.inl rfl)) _) (blk_put (blk_far (p := ⟨g, 8, none⟩) (blk_far (p := ⟨g, 7, none⟩) (blk_far (p := ⟨g, 6, none⟩) (blk_far (p := ⟨g, 5, none⟩) (blk_far (p := ⟨g, 4, none⟩) (blk_far (p := ⟨g, 3, none⟩) (blk_far (p := ⟨g, 2, none⟩) (blk_far (p := ⟨g, 1, none⟩) (blk_far (p := ⟨g, 0, none⟩) hV5 hVg u0) hVg u1) hVg u2) hVg u3) hVg u4) hVg u5) hVg u6) hVg u7) hVg u8) 8 _ rfl) ?_, fin _ (((((((((((Kp.refl w5 (fun k => k = V ∨ k = g)).set_ (p := ⟨V, 8, none⟩) (.inl (.inl rfl)) _).set_ (p := ⟨g, 0, none⟩) (.inl (.inr rfl)) u0).set_ (p := ⟨g, 1, none⟩) (.inl (.inr rfl)) u1).set_ (p := ⟨g, 2, none⟩) (.inl (.inr rfl)) u2).set_ (p := ⟨g, 3, none⟩) (.inl (.inr rfl)) u3).set_ (p := ⟨g, 4, none⟩) (.inl (.inr rfl)) u4).set_ (p := ⟨g, 5, none⟩) (.inl (.inr rfl)) u5).set_ (p := ⟨g, 6, none⟩) (.inl (.inr rfl)) u6).set_ (p := ⟨g, 7, none⟩) (.inl (.inr rfl)) u7).set_ (p := ⟨g, 8, none⟩) (.inl (.inr rfl)) u8) (blk_far (p := ⟨g, 8, none⟩) (blk_far (p := ⟨g, 7, none⟩) (blk_far (p := ⟨g, 6, none⟩) (blk_far (p := ⟨g, 5, none⟩) (blk_far (p := ⟨g, 4, none⟩) (blk_far (p := ⟨g, 3, none⟩) (blk_far (p := ⟨g, 2, none⟩) (blk_far (p := ⟨g, 1, none⟩) (blk_far (p := ⟨g, 0, none⟩) (blk_put hV5 8 (.slice (some ⟨g, 0, none⟩) (0 + 1) cap) (cs' := #[v0, v1, v2, v3, v4, v5, v6, v7, .slice (some ⟨g, 0, none⟩) (0 + 1) cap]) rfl) hVg u0) hVg u1) hVg u2) hVg u3) hVg u4) hVg u5) hVg u6) hVg u7) hVg u8) ?_⟩
  · exact own_far (elem_row0 hown5) hgV _
  · exact elem_row0 (own_far hown5 hgV _)
/-- Behind the element's append. -/
def ElemPost1 (R V b lc : Nat) (LA : Option Addr) (l' : List UInt8) (v0 v1 v2 v3 v4 v5 v6 v7 t0 t1 t2 t3 t4 t5 t6 t7 t8 u0 u1 u2 u3 u4 u5 u6 u7 u8 : Value) (Q : World → Prop) (w w' : World) : Prop :=
  ∃ g cap, w'.heap[V]? = some (.cells #[v0, v1, v2, v3, v4, v5, v6, v7, .slice (some ⟨g, 0, none⟩) (1 + 1) cap] 36 (0, 0)) ∧ w'.ownsRow b 36 9 (.slice (some ⟨g, 0, none⟩) (1 + 1) cap) (1 + 1) ([t0, t1, t2, t3, t4, t5, t6, t7, t8] ++ [u0, u1, u2, u3, u4, u5, u6, u7, u8]) ∧ JR R l' w' ∧ Q w' ∧ Kp w w' (fun k => k = R ∨ k = V ∨ some k = (Value.slice LA 1 lc).ownBlock) ∧ ((Value.slice LA 1 lc).ownBlock = some g ∨ w.heap.size ≤ g) ∧ g ≠ V ∧ g ≠ R
theorem elem_row1 {w : World} {b g cap : Nat} {t0 t1 t2 t3 t4 t5 t6 t7 t8 u0 u1 u2 u3 u4 u5 u6 u7 u8 : Value} (hown : w.ownsRow b 36 9 (.slice (some ⟨g, 0, none⟩) (1 + 1) cap) (1 + 1) ([t0, t1, t2, t3, t4, t5, t6, t7, t8] ++ [.int .i64 0, .bool false, .bool false, .string ⟨#[]⟩, .int .i64 0, .int .u64 0, .string ⟨#[]⟩, .slice none 0 0, .slice none 0 0])) :
    (((((((((w.setCell ⟨g, 9, none⟩ u0).setCell ⟨g, 10, none⟩ u1).setCell ⟨g, 11, none⟩ u2).setCell ⟨g, 12, none⟩ u3).setCell ⟨g, 13, none⟩ u4).setCell ⟨g, 14, none⟩ u5).setCell ⟨g, 15, none⟩ u6).setCell ⟨g, 16, none⟩ u7).setCell ⟨g, 17, none⟩ u8).ownsRow b 36 9 (.slice (some ⟨g, 0, none⟩) (1 + 1) cap) (1 + 1) ([t0, t1, t2, t3, t4, t5, t6, t7, t8] ++ [u0, u1, u2, u3, u4, u5, u6, u7, u8]) := by
  have h0 := hown
  have h1 := (World.ownsRow.stored h0 9 u0).1
  have h2 := (World.ownsRow.stored h1 10 u1).1
  have h3 := (World.ownsRow.stored h2 11 u2).1
  have h4 := (World.ownsRow.stored h3 12 u3).1
  have h5 := (World.ownsRow.stored h4 13 u4).1
  have h6 := (World.ownsRow.stored h5 14 u5).1
  have h7 := (World.ownsRow.stored h6 15 u6).1
  have h8 := (World.ownsRow.stored h7 16 u7).1
  have h9 := (World.ownsRow.stored h8 17 u8).1
  exact h9
theorem elem_post1 {R V b lc g cap : Nat} {LA : Option Addr} {l' : List UInt8} {v0 v1 v2 v3 v4 v5 v6 v7 t0 t1 t2 t3 t4 t5 t6 t7 t8 : Value} {Q : World → Prop} {w w4 w5 : World}
    (hown5 : w5.ownsRow b 36 9 (.slice (some ⟨g, 0, none⟩) (1 + 1) cap) (1 + 1) ([t0, t1, t2, t3, t4, t5, t6, t7, t8] ++ [.int .i64 0, .bool false, .bool false, .string ⟨#[]⟩, .int .i64 0, .int .u64 0, .string ⟨#[]⟩, .slice none 0 0, .slice none 0 0])) (hV5 : w5.heap[V]? = some (.cells #[v0, v1, v2, v3, v4, v5, v6, v7, .slice LA 1 lc] 36 (0, 0))) (hj4 : JR R l' w4) (hR5 : w5.heap[R]? = w4.heap[R]?)
    (K4 : Kp w w4 (· = R)) (K5 : Kp w4 w5 (fun k => some k = (Value.slice LA 1 lc).ownBlock)) (hQ4 : Q w4) (hQ : ∀ W W', Q W → Kp W W' (fun k => k = V ∨ some k = (Value.slice LA 1 lc).ownBlock) → Q W')
    (hgf : (Value.slice LA 1 lc).ownBlock = some g ∨ (w.heap.size ≤ g ∧ w4.heap.size ≤ g)) (hgV : g ≠ V) (hgR : g ≠ R) (hRV : V ≠ R) (u0 u1 u2 u3 u4 u5 u6 u7 u8 : Value) :
    ElemPost1 R V b lc LA l' v0 v1 v2 v3 v4 v5 v6 v7 t0 t1 t2 t3 t4 t5 t6 t7 t8 u0 u1 u2 u3 u4 u5 u6 u7 u8 Q w ((((((((((w5.setCell ⟨g, 9, none⟩ u0).setCell ⟨g, 10, none⟩ u1).setCell ⟨g, 11, none⟩ u2).setCell ⟨g, 12, none⟩ u3).setCell ⟨g, 13, none⟩ u4).setCell ⟨g, 14, none⟩ u5).setCell ⟨g, 15, none⟩ u6).setCell ⟨g, 16, none⟩ u7).setCell ⟨g, 17, none⟩ u8).setCell ⟨V, 8, none⟩ (.slice (some ⟨g, 0, none⟩) (1 + 1) cap)) ∧ ElemPost1 R V b lc LA l' v0 v1 v2 v3 v4 v5 v6 v7 t0 t1 t2 t3 t4 t5 t6 t7 t8 u0 u1 u2 u3 u4 u5 u6 u7 u8 Q w ((((((((((w5.setCell ⟨V, 8, none⟩ (.slice (some ⟨g, 0, none⟩) (1 + 1) cap)).setCell ⟨g, 9, none⟩ u0).setCell ⟨g, 10, none⟩ u1).setCell ⟨g, 11, none⟩ u2).setCell ⟨g, 12, none⟩ u3).setCell ⟨g, 13, none⟩ u4).setCell ⟨g, 14, none⟩ u5).setCell ⟨g, 15, none⟩ u6).setCell ⟨g, 16, none⟩ u7).setCell ⟨g, 17, none⟩ u8) := by
  have hVg : V ≠ g := fun e => hgV e.symm
  have hgf' : (Value.slice LA 1 lc).ownBlock = some g ∨ w.heap.size ≤ g := hgf.imp_right (fun h => h.1)
  have hj5 : JR R l' w5 := hR5.trans hj4
  have fin : ∀ w6, Kp w5 w6 (fun k => k = V ∨ k = g) → w6.heap[V]? = some (.cells #[v0, v1, v2, v3, v4, v5, v6, v7, .slice (some ⟨g, 0, none⟩) (1 + 1) cap] 36 (0, 0)) → w6.ownsRow b 36 9 (.slice (some ⟨g, 0, none⟩) (1 + 1) cap) (1 + 1) ([t0, t1, t2, t3, t4, t5, t6, t7, t8] ++ [u0, u1, u2, u3, u4, u5, u6, u7, u8]) → ElemPost1 R V b lc LA l' v0 v1 v2 v3 v4 v5 v6 v7 t0 t1 t2 t3 t4 t5 t6 t7 t8 u0 u1 u2 u3 u4 u5 u6 u7 u8 Q w w6 := fun w6 K6 a1 a2 => by
    have K46 : Kp w4 w6 (fun k => k = V ∨ some k = (Value.slice LA 1 lc).ownBlock) := (K5.mono (fun i hi => .inr hi)).trans K6 (fun i hi => by
      rcases hi with rfl | rfl
      · exact .inl (.inl rfl)
      · rcases hgf with e | e
        · exact .inl (.inr e.symm)
        · exact .inr e.2)
    refine ⟨g, cap, a1, a2, hj5.kp K6 (by rintro (e | e); exact hRV e.symm; exact hgR e.symm), hQ _ _ hQ4 K46, (K4.mono (fun i hi => .inl hi)).trans K46 (fun i hi => .inl (.inr hi)), hgf', hgV, hgR⟩
  refine ⟨fin _ (((((((((((Kp.refl w5 (fun k => k = V ∨ k = g)).set_ (p := ⟨g, 9, none⟩) (.inl (.inr rfl)) u0).set_ (p := ⟨g, 10, none⟩) (.inl (.inr rfl)) u1).set_ (p := ⟨g, 11, none⟩) (.inl (.inr rfl)) u2).set_ (p := ⟨g, 12, none⟩) (.inl (.inr rfl)) u3).set_ (p := ⟨g, 13, none⟩) (.inl (.inr rfl)) u4).set_ (p := ⟨g, 14, none⟩) (.inl (.inr rfl)) u5).set_ (p := ⟨g, 15, none⟩) (.inl (.inr rfl)) u6).set_ (p := ⟨g, 16, none⟩) (.inl (.inr rfl)) u7).set_ (p := ⟨g, 17, none⟩) (.inl (.inr rfl)) u8).set_ (p := ⟨V, 8, none⟩) (.inl (.inl rfl)) _) (blk_put (blk_far (p := ⟨g, 17, none⟩) (blk_far (p := ⟨g, 16, none⟩) (blk_far (p := ⟨g, 15, none⟩) (blk_far (p := ⟨g, 14, none⟩) (blk_far (p := ⟨g, 13, none⟩) (blk_far (p := ⟨g, 12, none⟩) (blk_far (p := ⟨g, 11, none⟩) (blk_far (p := ⟨g, 10, none⟩) (blk_far (p := ⟨g, 9, none⟩) hV5 hVg u0) hVg u1) hVg u2) hVg u3) hVg u4) hVg u5) hVg u6) hVg u7) hVg u8) 8 _ rfl) ?_, fin _ (((((((((((Kp.refl w5 (fun k => k = V ∨ k = g)).set_ (p := ⟨V, 8, none⟩) (.inl (.inl rfl)) _).set_ (p := ⟨g, 9, none⟩) (.inl (.inr rfl)) u0).set_ (p := ⟨g, 10, none⟩) (.inl (.inr rfl)) u1).set_ (p := ⟨g, 11, none⟩) (.inl (.inr rfl)) u2).set_ (p := ⟨g, 12, none⟩) (.inl (.inr rfl)) u3).set_ (p := ⟨g, 13, none⟩) (.inl (.inr rfl)) u4).set_ (p := ⟨g, 14, none⟩) (.inl (.inr rfl)) u5).set_ (p := ⟨g, 15, none⟩) (.inl (.inr rfl)) u6).set_ (p := ⟨g, 16, none⟩) (.inl (.inr rfl)) u7).set_ (p := ⟨g, 17, none⟩) (.inl (.inr rfl)) u8) (blk_far (p := ⟨g, 17, none⟩) (blk_far (p := ⟨g, 16, none⟩) (blk_far (p := ⟨g, 15, none⟩) (blk_far (p := ⟨g, 14, none⟩) (blk_far (p := ⟨g, 13, none⟩) (blk_far (p := ⟨g, 12, none⟩) (blk_far (p := ⟨g, 11, none⟩) (blk_far (p := ⟨g, 10, none⟩) (blk_far (p := ⟨g, 9, none⟩) (blk_put hV5 8 (.slice (some ⟨g, 0, none⟩) (1 + 1) cap) (cs' := #[v0, v1, v2, v3, v4, v5, v6, v7, .slice (some ⟨g, 0, none⟩) (1 + 1) cap]) rfl) hVg u0) hVg u1) hVg u2) hVg u3) hVg u4) hVg u5) hVg u6) hVg u7) hVg u8) ?_⟩
  · exact own_far (elem_row1 hown5) hgV _
  · exact elem_row1 (own_far hown5 hgV _)
set_option maxHeartbeats 6400000 in
set_option maxRecDepth 100000 in
theorem jelem0 (R V X b lc : Nat) (LA : Option Addr) (l l' : List UInt8) (v0 v1 v2 v3 v4 v5 v6 v7 : Value) {Z : Type} (u0 u1 u2 u3 u4 u5 u6 u7 u8 : Z → Value) (hone : ∀ z, #[u0 z, u1 z, u2 z, u3 z, u4 z, u5 z, u6 z, u7 z, u8 z].all (·.oneCell') = true) (Q : Z → World → Prop) (w : World)
    (hV : w.heap[V]? = some (.cells #[v0, v1, v2, v3, v4, v5, v6, v7, .slice LA 0 lc] 36 (0, 0))) (hX : w.heap[X]? = some (.cells #[.pointer (some ⟨R, 0, none⟩)] 255 (0, 0))) (hown : w.ownsRow b 36 9 (.slice LA 0 lc) 0 []) (hb : b ≤ w.heap.size) (hjr : JR R l w)
    (hRV : V ≠ R) (hRX : X ≠ R) (hVX : V ≠ X) (hlR : (Value.slice LA 0 lc).ownBlock ≠ some R) (hlV : (Value.slice LA 0 lc).ownBlock ≠ some V) (hlX : (Value.slice LA 0 lc).ownBlock ≠ some X)
    (hval : ∀ W, Below w.heap.size w W → Val R l' (fun z => [u0 z, u1 z, u2 z, u3 z, u4 z, u5 z, u6 z, u7 z, u8 z]) Q W) (hQ : ∀ z W W', Q z W → Kp W W' (fun k => k = V ∨ some k = (Value.slice LA 0 lc).ownBlock) → Q z W') :
    Calls Tryz.prog 224 #[.pointer (some ⟨V, 0, none⟩), .pointer (some ⟨X, 0, none⟩)] w fun e w' => e = .returned (.tuple #[]) ∧ ∃ z, ElemPost0 R V b lc LA l' v0 v1 v2 v3 v4 v5 v6 v7 (u0 z) (u1 z) (u2 z) (u3 z) (u4 z) (u5 z) (u6 z) (u7 z) (u8 z) (Q z) w w' := by
  have hV8 : w.drew.cell? ⟨V, 8, none⟩ = some (.slice LA 0 lc) := (blk_cell hV 8).trans rfl
  have hX0 : w.drew.cell? ⟨X, 0, none⟩ = some (.pointer (some ⟨R, 0, none⟩)) := (blk_cell hX 0).trans rfl
  obtain ⟨i0, hi, hz0, hz1, hz2⟩ := info_parts info36
  go_enter Tryz.func224, Tryz.ntmps224
  refine start_ (n := 11) (S := fun w' => w'.cell? ⟨V, 8, none⟩ = some (.slice LA 0 lc) ∧ w'.cell? ⟨X, 0, none⟩ = some (.pointer (some ⟨R, 0, none⟩))) (ds := [8, 10]) #[false, false, false, false, false, false, false, false, false, false, false] (by kernel_rfl) rfl rfl ⟨hV8, hX0⟩ (fun hHeld => ?_)
  refine pure_ (i := 0) (N := some 2) (v := ?_) (a' := ?_) #[true, false, false, false, false, false, false, false, false, false, false] rfl rfl (by kernel_rfl) (fun _ _ _ h => h) (Or.inl ⟨by rfl, ?_⟩) ?_ ?_
  rotate_left
  · intro w'
    go_simp
    with_reducible rfl
  rotate_left
  · simp only [Act.put, List.setIfInBounds_toArray, List.set_cons_zero, List.set_cons_succ, i64_w, i32_w]
    rfl
  refine take_ (i := 1) (N := some 3) (v := ?_) (a' := ?_) #[true, true, false, false, false, false, false, false, false, false, false] rfl rfl (by kernel_rfl) (fun _ _ _ h => h) (Or.inl ⟨by rfl, ?_⟩) hHeld ?_ ?_
  rotate_left
  · rintro w' ⟨s0, s1⟩
    go_simp
    with_reducible rfl
  rotate_left
  · simp only [Act.put, List.setIfInBounds_toArray, List.set_cons_zero, List.set_cons_succ, i64_w, i32_w]
    rfl
  refine take_ (i := 2) (N := some 4) (v := ?_) (a' := ?_) #[true, true, true, false, false, false, false, false, false, false, false] rfl rfl (by kernel_rfl) (fun _ _ _ h => h) (Or.inl ⟨by rfl, ?_⟩) hHeld ?_ ?_
  rotate_left
  · rintro w' ⟨s0, s1⟩
    go_simp
    with_reducible rfl
  rotate_left
  · simp only [Act.put, List.setIfInBounds_toArray, List.set_cons_zero, List.set_cons_succ, i64_w, i32_w]
    rfl
  refine pure_ (i := 4) (N := some 6) (v := ?_) (a' := ?_) #[true, true, true, false, true, false, false, false, false, false, false] rfl rfl (by kernel_rfl) (fun _ _ _ h => h) (Or.inl ⟨by rfl, ?_⟩) ?_ ?_
  rotate_left
  · intro w'
    go_simp
    with_reducible rfl
  rotate_left
  · simp only [Act.put, List.setIfInBounds_toArray, List.set_cons_zero, List.set_cons_succ, i64_w, i32_w]
    rfl
  refine join_ (σ := Nat × Z) 5 #[true, true, true, true, true, true, false, false, false, false, false] (fun h => [(5, .agg #[u0 h.2, u1 h.2, u2 h.2, u3 h.2, u4 h.2, u5 h.2, u6 h.2, u7 h.2, u8 h.2]), (7, .slice (some ⟨h.1, 0, none⟩) 1 1)]) (fun h w' => w.heap.size ≤ h.1 ∧ w'.heap[h.1]? = some (.cells #[.int .i64 0, .bool false, .bool false, .string ⟨#[]⟩, .int .i64 0, .int .u64 0, .string ⟨#[]⟩, .slice none 0 0, .slice none 0 0] 36 (0, 0)) ∧ JR R l' w' ∧ Kp w w' (· = R) ∧ Q h.2 w' ∧ (w'.cell? ⟨V, 8, none⟩ = some (.slice LA 0 lc) ∧ w'.cell? ⟨X, 0, none⟩ = some (.pointer (some ⟨R, 0, none⟩)))) ?cont (fun hcont => ?_)
  case cont =>
    rintro ⟨h, z⟩ w4 ⟨hh, hbox, hj4, K4, hQ4, hHeld⟩
    refine norm_ (a' := ?_) ?_ ?_
    rotate_left
    · show putAll _ _ = _
      simp only [putAll, Act.put, List.setIfInBounds_toArray, List.set_cons_zero, List.set_cons_succ, i64_w, i32_w]
      rfl
    refine one_ (i := 6) (N := some 8) #[true, true, true, true, true, true, true, false, false, false, false] rfl rfl (by kernel_rfl) (by decide) (fun K hK => ?_)
    have hown4 : w4.ownsRow b 36 9 (.slice LA 0 lc) 0 [] := K4.own hown (fun k hk e => hlR (by rw [hk, e]))
    refine step_append_lies _ (by rfl) _ _ _ (by rfl) b 36 i0 _ 9 120 Tryz.underlying34 hi hz0 hz1 hz2 rfl (by omega) (.slice LA 0 lc) 0 [] (by rfl) hown4 ⟨h, 0, none⟩ 1 1 [.int .i64 0, .bool false, .bool false, .string ⟨#[]⟩, .int .i64 0, .int .u64 0, .string ⟨#[]⟩, .slice none 0 0, .slice none 0 0] (by rfl) (by rfl) (World.news_of_block (cs := #[.int .i64 0, .bool false, .bool false, .string ⟨#[]⟩, .int .i64 0, .int .u64 0, .string ⟨#[]⟩, .slice none 0 0, .slice none 0 0]) (t := 36) (fr := (0, 0)) hbox) (by simp [Value.oneCell']) (by omega) (by unfold maxLen; omega) (by omega) (Nat.le_trans hb K4.size) _ rfl ?_
    intro g cap w5 hown5 hgrow hat hlt5
    have hV4 := K4.heap hV (fun e => hRV e)
    have hV5 := row_grow hV4 hgrow (fun e => hlV e.symm)
    have hX5 : w5.cell? ⟨X, 0, none⟩ = some (.pointer (some ⟨R, 0, none⟩)) := (World.cell?_of_block (hgrow.block _ (World.block_lt_of_cell? _ _ hHeld.2) (fun e => hlX e.symm))).trans hHeld.2
    have hHeld5 : w5.cell? ⟨V, 8, none⟩ = some (.slice LA 0 lc) ∧ w5.cell? ⟨X, 0, none⟩ = some (.pointer (some ⟨R, 0, none⟩)) := ⟨(blk_cell hV5 8).trans rfl, hX5⟩
    have K5 := Kp.grown_ hgrow
    have hgf : (Value.slice LA 0 lc).ownBlock = some g ∨ (w.heap.size ≤ g ∧ w4.heap.size ≤ g) := hat.imp_right (fun e => by have := K4.size; omega)
    have hgV : g ≠ V := by
      have h1 := blk_lt hV
      rcases hgf with e | e
      · intro h2; exact hlV (by rw [e, h2])
      · omega
    have hgR : g ≠ R := by
      have h1 := blk_lt (show w.heap[R]? = _ from hjr)
      rcases hgf with e | e
      · intro h2; exact hlR (by rw [e, h2])
      · omega
    clear hat
    refine hK.out _ _ hHeld5 (fun hHeld => ?_)
    clear hK K
    refine norm_ (a' := ?_) ?_ ?_
    rotate_left
    · show Act.put _ (some 8) _ = _
      simp only [Act.put, List.setIfInBounds_toArray, List.set_cons_zero, List.set_cons_succ, i64_w, i32_w]
      rfl
    refine pure_ (i := 7) (N := some 9) (v := ?_) (a' := ?_) #[true, true, true, true, true, true, true, true, false, false, false] rfl rfl (by kernel_rfl) (fun _ _ _ h => h) (Or.inl ⟨by rfl, ?_⟩) ?_ ?_
    rotate_left
    · intro w'
      go_simp
      with_reducible rfl
    rotate_left
    · simp only [Act.put, List.setIfInBounds_toArray, List.set_cons_zero, List.set_cons_succ, i64_w, i32_w]
      rfl
    refine pure_ (i := 9) (N := some 10) (v := ?_) (a' := ?_) #[true, true, true, true, true, true, true, true, false, true, false] rfl rfl (by kernel_rfl) (fun _ _ _ h => h) (Or.inl ⟨by rfl, ?_⟩) ?_ ?_
    rotate_left
    · intro w'
      go_simp
      with_reducible rfl
    rotate_left
    · simp only [Act.put, List.setIfInBounds_toArray, List.set_cons_zero, List.set_cons_succ, i64_w, i32_w]
      rfl
    obtain ⟨e0, e1, e2, e3, e4, e5, e6, e7, e8, e9, e10, e11, e12, e13, e14, e15, e16, e17⟩ := row_nine0 hown5
    have fV := blk_frozen hV5 8
    have cV := hHeld.1
    have hgl := hlt5
    have hVl := blk_lt hV5
    have hVg : V ≠ g := fun e => hgV e.symm
    have hpost := elem_post0 hown5 hV5 hj4 (hgrow.block R (blk_lt hj4) (fun e => hlR e.symm)) K4 K5 hQ4 (hQ z) hgf hgV hgR hRV (u0 z) (u1 z) (u2 z) (u3 z) (u4 z) (u5 z) (u6 z) (u7 z) (u8 z)
    have hthere : w5.there g 0 9 := there9 e0 e1 e2 e3 e4 e5 e6 e7 e8 e9 e10 e11 e12 e13 e14 e15 e16 e17
    replace hown5 := Lib.hid hown5
    clear hown4
    refine twoL_ (i := 8) (j := 10) (Ni := none) (Nj := none) #[true, true, true, true, true, true, true, true, true, true, false] #[true, true, true, true, true, true, true, true, false, true, true] rfl rfl rfl rfl (by kernel_rfl) (by decide) (by decide) (fun K hK => ?_) (fun K hK => ?_)
    · rw [if_pos (by rfl)]
      refine wp_store_mid 36 _ _ rfl g 0 #[u0 z, u1 z, u2 z, u3 z, u4 z, u5 z, u6 z, u7 z, u8 z] (by rfl) (by rfl) hthere info36s (hone z) ?_
      refine hK.out _ _ ?_
      clear hK
      clear K
      refine last_ (i := 10) (N := none) #[true, true, true, true, true, true, true, true, true, true, true] rfl rfl (by kernel_rfl) (by decide) (fun K hK => ?_)
      generalize hWq : World.setCells w5 g 0 [u0 z, u1 z, u2 z, u3 z, u4 z, u5 z, u6 z, u7 z, u8 z] = W
      have cW : W.cell? ⟨V, 8, none⟩ = some (.slice LA 0 lc) := by rw [← hWq]; exact (World.cell?_setCells_out g _ _ _ ⟨V, 8, none⟩ (fun h => absurd h hVg)).trans cV
      have fW : W.frozen? ⟨V, 8, none⟩ = false := by rw [← hWq, World.frozen?_setCells]; exact fV
      have hcl : V < W.heap.size := World.block_lt_of_cell? _ _ cW
      refine skip_ (w1 := ?_) (by rfl) rfl ?_ ?_
      rotate_left
      · go_simp
        rfl
      subst hWq
      refine hK.out _ _ ?_
      clear hK
      clear K
      refine done_ (by kernel_rfl) ?_
      go_end0
      exact ⟨rfl, z, hpost.1⟩
    · refine skip_ (w1 := ?_) (by rfl) rfl ?_ ?_
      rotate_left
      · go_simp
        rfl
      refine hK.out _ _ ?_
      clear hK
      clear K
      refine last_ (i := 8) (N := none) #[true, true, true, true, true, true, true, true, true, true, true] rfl rfl (by kernel_rfl) (by decide) (fun K hK => ?_)
      rw [if_pos (by rfl)]
      refine wp_store_mid 36 _ _ rfl g 0 #[u0 z, u1 z, u2 z, u3 z, u4 z, u5 z, u6 z, u7 z, u8 z] (by rfl) (by rfl) (there_set hthere (V, 8) _) info36s (hone z) ?_
      refine hK.out _ _ ?_
      clear hK
      clear K
      refine done_ (by kernel_rfl) ?_
      go_end0
      exact ⟨rfl, z, hpost.2⟩
  refine two_ (i := 3) (j := 5) (Ni := some 5) (Nj := some 7) #[true, true, true, true, true, false, false, false, false, false, false] #[true, true, true, false, true, true, false, false, false, false, false] rfl rfl rfl rfl (by kernel_rfl) (by decide) (by decide) (fun K hK => ?_) (fun K hK => ?_)
  · refine goes_ Tryz.func183 (by kernel_rfl) rfl #[.pointer (some ⟨R, 0, none⟩)] (by rfl) rfl rfl (by simp [Act.eval]) ?_
    refine (hval _ (Below.refl _ _).drew).mono ?_
    rintro e w3 ⟨z, rfl, hj3, K3, hQ3⟩
    replace K3 := Kp.undrew K3
    have hc8 := K3.cell hV8 (fun e => hRV e)
    have hcX := K3.cell hX0 (fun e => hRX e)
    refine ⟨_, rfl, hK.out _ _ ⟨hc8, hcX⟩ (fun hHeld3 => ?_)⟩
    clear hK K
    refine one_ (i := 5) (N := some 7) #[true, true, true, true, true, true, false, false, false, false, false] rfl rfl (by kernel_rfl) (by decide) (fun K hK => ?_)
    refine value_ (v := .slice (some ⟨w3.heap.size, 0, none⟩) 1 1) (w1 := w3.alloc (.cells #[.int .i64 0, .bool false, .bool false, .string ⟨#[]⟩, .int .i64 0, .int .u64 0, .string ⟨#[]⟩, .slice none 0 0, .slice none 0 0] 36 (0, 0))) (by rfl) rfl ?_ ?_
    · go_simp
    have K4 := K3.alloc (.cells #[.int .i64 0, .bool false, .bool false, .string ⟨#[]⟩, .int .i64 0, .int .u64 0, .string ⟨#[]⟩, .slice none 0 0, .slice none 0 0] 36 (0, 0))
    refine hK.out _ _ ⟨(Kp.refl w3 (fun _ => False)).alloc _ |>.cell hc8 (fun h => h), (Kp.refl w3 (fun _ => False)).alloc _ |>.cell hcX (fun h => h)⟩ (fun hHeld4 => ?_)
    exact hcont (w3.heap.size, z) _ ⟨K3.size, alloc1 w3 _, hj3.kp ((Kp.refl w3 (fun _ => False)).alloc _) (fun h => h), K4, hQ z _ _ hQ3 (((Kp.refl w3 (fun _ => False)).alloc _).mono (fun _ h => h.elim)), hHeld4⟩
  · refine value_ (v := .slice (some ⟨w.heap.size, 0, none⟩) 1 1) (w1 := w.drew.alloc (.cells #[.int .i64 0, .bool false, .bool false, .string ⟨#[]⟩, .int .i64 0, .int .u64 0, .string ⟨#[]⟩, .slice none 0 0, .slice none 0 0] 36 (0, 0))) (by rfl) rfl ?_ ?_
    · go_simp
    have B1 : Below w.heap.size w (w.drew.alloc (.cells #[.int .i64 0, .bool false, .bool false, .string ⟨#[]⟩, .int .i64 0, .int .u64 0, .string ⟨#[]⟩, .slice none 0 0, .slice none 0 0] 36 (0, 0))) := below_alloc (Below.refl _ _).drew _
    have K1 := Kp.of_below B1 (fun _ => False)
    have hc8 := K1.cell hV8 (fun h => h)
    have hcX := K1.cell hX0 (fun h => h)
    refine hK.out _ _ ⟨hc8, hcX⟩ (fun hHeld1 => ?_)
    clear hK K
    refine one_ (i := 3) (N := some 5) #[true, true, true, true, true, true, false, false, false, false, false] rfl rfl (by kernel_rfl) (by decide) (fun K hK => ?_)
    refine goes_ Tryz.func183 (by kernel_rfl) rfl #[.pointer (some ⟨R, 0, none⟩)] (by rfl) rfl rfl (by simp [Act.eval, Act.put]) ?_
    refine (hval _ B1).mono ?_
    rintro e w3 ⟨z, rfl, hj3, K3, hQ3⟩
    have hc8' := K3.cell hc8 (fun e => hRV e)
    have hcX' := K3.cell hcX (fun e => hRX e)
    have hRw := blk_lt (show w.heap[R]? = _ from hjr)
    refine ⟨_, rfl, hK.out _ _ ⟨hc8', hcX'⟩ (fun hHeld3 => ?_)⟩
    refine norm_ ?_ (hcont (w.heap.size, z) w3 ⟨Nat.le_refl _, K3.heap (alloc1 w.drew _) (fun e => by have : w.drew.heap.size = w.heap.size := rfl; omega), hj3, (K1.mono (fun _ h => h.elim)).trans K3 (fun i hi => .inl hi), hQ3, hHeld3⟩)
    simp only [putAll, Act.put, List.setIfInBounds_toArray, List.set_cons_zero, List.set_cons_succ, i64_w, i32_w]
set_option maxHeartbeats 6400000 in
set_option maxRecDepth 100000 in
theorem jelem1 (R V X b lc : Nat) (LA : Option Addr) (l l' : List UInt8) (v0 v1 v2 v3 v4 v5 v6 v7 t0 t1 t2 t3 t4 t5 t6 t7 t8 : Value) {Z : Type} (u0 u1 u2 u3 u4 u5 u6 u7 u8 : Z → Value) (hone : ∀ z, #[u0 z, u1 z, u2 z, u3 z, u4 z, u5 z, u6 z, u7 z, u8 z].all (·.oneCell') = true) (Q : Z → World → Prop) (w : World)
    (hV : w.heap[V]? = some (.cells #[v0, v1, v2, v3, v4, v5, v6, v7, .slice LA 1 lc] 36 (0, 0))) (hX : w.heap[X]? = some (.cells #[.pointer (some ⟨R, 0, none⟩)] 255 (0, 0))) (hown : w.ownsRow b 36 9 (.slice LA 1 lc) 1 [t0, t1, t2, t3, t4, t5, t6, t7, t8]) (hb : b ≤ w.heap.size) (hjr : JR R l w)
    (hRV : V ≠ R) (hRX : X ≠ R) (hVX : V ≠ X) (hlR : (Value.slice LA 1 lc).ownBlock ≠ some R) (hlV : (Value.slice LA 1 lc).ownBlock ≠ some V) (hlX : (Value.slice LA 1 lc).ownBlock ≠ some X)
    (hval : ∀ W, Below w.heap.size w W → Val R l' (fun z => [u0 z, u1 z, u2 z, u3 z, u4 z, u5 z, u6 z, u7 z, u8 z]) Q W) (hQ : ∀ z W W', Q z W → Kp W W' (fun k => k = V ∨ some k = (Value.slice LA 1 lc).ownBlock) → Q z W') :
    Calls Tryz.prog 224 #[.pointer (some ⟨V, 0, none⟩), .pointer (some ⟨X, 0, none⟩)] w fun e w' => e = .returned (.tuple #[]) ∧ ∃ z, ElemPost1 R V b lc LA l' v0 v1 v2 v3 v4 v5 v6 v7 t0 t1 t2 t3 t4 t5 t6 t7 t8 (u0 z) (u1 z) (u2 z) (u3 z) (u4 z) (u5 z) (u6 z) (u7 z) (u8 z) (Q z) w w' := by
  have hV8 : w.drew.cell? ⟨V, 8, none⟩ = some (.slice LA 1 lc) := (blk_cell hV 8).trans rfl
  have hX0 : w.drew.cell? ⟨X, 0, none⟩ = some (.pointer (some ⟨R, 0, none⟩)) := (blk_cell hX 0).trans rfl
  obtain ⟨i0, hi, hz0, hz1, hz2⟩ := info_parts info36
  go_enter Tryz.func224, Tryz.ntmps224
  refine start_ (n := 11) (S := fun w' => w'.cell? ⟨V, 8, none⟩ = some (.slice LA 1 lc) ∧ w'.cell? ⟨X, 0, none⟩ = some (.pointer (some ⟨R, 0, none⟩))) (ds := [8, 10]) #[false, false, false, false, false, false, false, false, false, false, false] (by kernel_rfl) rfl rfl ⟨hV8, hX0⟩ (fun hHeld => ?_)
  refine pure_ (i := 0) (N := some 2) (v := ?_) (a' := ?_) #[true, false, false, false, false, false, false, false, false, false, false] rfl rfl (by kernel_rfl) (fun _ _ _ h => h) (Or.inl ⟨by rfl, ?_⟩) ?_ ?_
  rotate_left
  · intro w'
    go_simp
    with_reducible rfl
  rotate_left
  · simp only [Act.put, List.setIfInBounds_toArray, List.set_cons_zero, List.set_cons_succ, i64_w, i32_w]
    rfl
  refine take_ (i := 1) (N := some 3) (v := ?_) (a' := ?_) #[true, true, false, false, false, false, false, false, false, false, false] rfl rfl (by kernel_rfl) (fun _ _ _ h => h) (Or.inl ⟨by rfl, ?_⟩) hHeld ?_ ?_
  rotate_left
  · rintro w' ⟨s0, s1⟩
    go_simp
    with_reducible rfl
  rotate_left
  · simp only [Act.put, List.setIfInBounds_toArray, List.set_cons_zero, List.set_cons_succ, i64_w, i32_w]
    rfl
  refine take_ (i := 2) (N := some 4) (v := ?_) (a' := ?_) #[true, true, true, false, false, false, false, false, false, false, false] rfl rfl (by kernel_rfl) (fun _ _ _ h => h) (Or.inl ⟨by rfl, ?_⟩) hHeld ?_ ?_
  rotate_left
  · rintro w' ⟨s0, s1⟩
    go_simp
    with_reducible rfl
  rotate_left
  · simp only [Act.put, List.setIfInBounds_toArray, List.set_cons_zero, List.set_cons_succ, i64_w, i32_w]
    rfl
  refine pure_ (i := 4) (N := some 6) (v := ?_) (a' := ?_) #[true, true, true, false, true, false, false, false, false, false, false] rfl rfl (by kernel_rfl) (fun _ _ _ h => h) (Or.inl ⟨by rfl, ?_⟩) ?_ ?_
  rotate_left
  · intro w'
    go_simp
    with_reducible rfl
  rotate_left
  · simp only [Act.put, List.setIfInBounds_toArray, List.set_cons_zero, List.set_cons_succ, i64_w, i32_w]
    rfl
  refine join_ (σ := Nat × Z) 5 #[true, true, true, true, true, true, false, false, false, false, false] (fun h => [(5, .agg #[u0 h.2, u1 h.2, u2 h.2, u3 h.2, u4 h.2, u5 h.2, u6 h.2, u7 h.2, u8 h.2]), (7, .slice (some ⟨h.1, 0, none⟩) 1 1)]) (fun h w' => w.heap.size ≤ h.1 ∧ w'.heap[h.1]? = some (.cells #[.int .i64 0, .bool false, .bool false, .string ⟨#[]⟩, .int .i64 0, .int .u64 0, .string ⟨#[]⟩, .slice none 0 0, .slice none 0 0] 36 (0, 0)) ∧ JR R l' w' ∧ Kp w w' (· = R) ∧ Q h.2 w' ∧ (w'.cell? ⟨V, 8, none⟩ = some (.slice LA 1 lc) ∧ w'.cell? ⟨X, 0, none⟩ = some (.pointer (some ⟨R, 0, none⟩)))) ?cont (fun hcont => ?_)
  case cont =>
    rintro ⟨h, z⟩ w4 ⟨hh, hbox, hj4, K4, hQ4, hHeld⟩
    refine norm_ (a' := ?_) ?_ ?_
    rotate_left
    · show putAll _ _ = _
      simp only [putAll, Act.put, List.setIfInBounds_toArray, List.set_cons_zero, List.set_cons_succ, i64_w, i32_w]
      rfl
    refine one_ (i := 6) (N := some 8) #[true, true, true, true, true, true, true, false, false, false, false] rfl rfl (by kernel_rfl) (by decide) (fun K hK => ?_)
    have hown4 : w4.ownsRow b 36 9 (.slice LA 1 lc) 1 [t0, t1, t2, t3, t4, t5, t6, t7, t8] := K4.own hown (fun k hk e => hlR (by rw [hk, e]))
    refine step_append_lies _ (by rfl) _ _ _ (by rfl) b 36 i0 _ 9 120 Tryz.underlying34 hi hz0 hz1 hz2 rfl (by omega) (.slice LA 1 lc) 1 [t0, t1, t2, t3, t4, t5, t6, t7, t8] (by rfl) hown4 ⟨h, 0, none⟩ 1 1 [.int .i64 0, .bool false, .bool false, .string ⟨#[]⟩, .int .i64 0, .int .u64 0, .string ⟨#[]⟩, .slice none 0 0, .slice none 0 0] (by rfl) (by rfl) (World.news_of_block (cs := #[.int .i64 0, .bool false, .bool false, .string ⟨#[]⟩, .int .i64 0, .int .u64 0, .string ⟨#[]⟩, .slice none 0 0, .slice none 0 0]) (t := 36) (fr := (0, 0)) hbox) (by simp [Value.oneCell']) (by omega) (by unfold maxLen; omega) (by omega) (Nat.le_trans hb K4.size) _ rfl ?_
    intro g cap w5 hown5 hgrow hat hlt5
    have hV4 := K4.heap hV (fun e => hRV e)
    have hV5 := row_grow hV4 hgrow (fun e => hlV e.symm)
    have hX5 : w5.cell? ⟨X, 0, none⟩ = some (.pointer (some ⟨R, 0, none⟩)) := (World.cell?_of_block (hgrow.block _ (World.block_lt_of_cell? _ _ hHeld.2) (fun e => hlX e.symm))).trans hHeld.2
    have hHeld5 : w5.cell? ⟨V, 8, none⟩ = some (.slice LA 1 lc) ∧ w5.cell? ⟨X, 0, none⟩ = some (.pointer (some ⟨R, 0, none⟩)) := ⟨(blk_cell hV5 8).trans rfl, hX5⟩
    have K5 := Kp.grown_ hgrow
    have hgf : (Value.slice LA 1 lc).ownBlock = some g ∨ (w.heap.size ≤ g ∧ w4.heap.size ≤ g) := hat.imp_right (fun e => by have := K4.size; omega)
    have hgV : g ≠ V := by
      have h1 := blk_lt hV
      rcases hgf with e | e
      · intro h2; exact hlV (by rw [e, h2])
      · omega
    have hgR : g ≠ R := by
      have h1 := blk_lt (show w.heap[R]? = _ from hjr)
      rcases hgf with e | e
      · intro h2; exact hlR (by rw [e, h2])
      · omega
    clear hat
    refine hK.out _ _ hHeld5 (fun hHeld => ?_)
    clear hK K
    refine norm_ (a' := ?_) ?_ ?_
    rotate_left
    · show Act.put _ (some 8) _ = _
      simp only [Act.put, List.setIfInBounds_toArray, List.set_cons_zero, List.set_cons_succ, i64_w, i32_w]
      rfl
    refine pure_ (i := 7) (N := some 9) (v := ?_) (a' := ?_) #[true, true, true, true, true, true, true, true, false, false, false] rfl rfl (by kernel_rfl) (fun _ _ _ h => h) (Or.inl ⟨by rfl, ?_⟩) ?_ ?_
    rotate_left
    · intro w'
      go_simp
      with_reducible rfl
    rotate_left
    · simp only [Act.put, List.setIfInBounds_toArray, List.set_cons_zero, List.set_cons_succ, i64_w, i32_w]
      rfl
    refine pure_ (i := 9) (N := some 10) (v := ?_) (a' := ?_) #[true, true, true, true, true, true, true, true, false, true, false] rfl rfl (by kernel_rfl) (fun _ _ _ h => h) (Or.inl ⟨by rfl, ?_⟩) ?_ ?_
    rotate_left
    · intro w'
      go_simp
      with_reducible rfl
    rotate_left
    · simp only [Act.put, List.setIfInBounds_toArray, List.set_cons_zero, List.set_cons_succ, i64_w, i32_w]
      rfl
    obtain ⟨e0, e1, e2, e3, e4, e5, e6, e7, e8, e9, e10, e11, e12, e13, e14, e15, e16, e17⟩ := row_nine1 hown5
    have fV := blk_frozen hV5 8
    have cV := hHeld.1
    have hgl := hlt5
    have hVl := blk_lt hV5
    have hVg : V ≠ g := fun e => hgV e.symm
    have hpost := elem_post1 hown5 hV5 hj4 (hgrow.block R (blk_lt hj4) (fun e => hlR e.symm)) K4 K5 hQ4 (hQ z) hgf hgV hgR hRV (u0 z) (u1 z) (u2 z) (u3 z) (u4 z) (u5 z) (u6 z) (u7 z) (u8 z)
    have hthere : w5.there g 9 9 := there9 e0 e1 e2 e3 e4 e5 e6 e7 e8 e9 e10 e11 e12 e13 e14 e15 e16 e17
    replace hown5 := Lib.hid hown5
    clear hown4
    refine twoL_ (i := 8) (j := 10) (Ni := none) (Nj := none) #[true, true, true, true, true, true, true, true, true, true, false] #[true, true, true, true, true, true, true, true, false, true, true] rfl rfl rfl rfl (by kernel_rfl) (by decide) (by decide) (fun K hK => ?_) (fun K hK => ?_)
    · rw [if_pos (by rfl)]
      refine wp_store_mid 36 _ _ rfl g 9 #[u0 z, u1 z, u2 z, u3 z, u4 z, u5 z, u6 z, u7 z, u8 z] (by rfl) (by rfl) hthere info36s (hone z) ?_
      refine hK.out _ _ ?_
      clear hK
      clear K
      refine last_ (i := 10) (N := none) #[true, true, true, true, true, true, true, true, true, true, true] rfl rfl (by kernel_rfl) (by decide) (fun K hK => ?_)
      generalize hWq : World.setCells w5 g 9 [u0 z, u1 z, u2 z, u3 z, u4 z, u5 z, u6 z, u7 z, u8 z] = W
      have cW : W.cell? ⟨V, 8, none⟩ = some (.slice LA 1 lc) := by rw [← hWq]; exact (World.cell?_setCells_out g _ _ _ ⟨V, 8, none⟩ (fun h => absurd h hVg)).trans cV
      have fW : W.frozen? ⟨V, 8, none⟩ = false := by rw [← hWq, World.frozen?_setCells]; exact fV
      have hcl : V < W.heap.size := World.block_lt_of_cell? _ _ cW
      refine skip_ (w1 := ?_) (by rfl) rfl ?_ ?_
      rotate_left
      · go_simp
        rfl
      subst hWq
      refine hK.out _ _ ?_
      clear hK
      clear K
      refine done_ (by kernel_rfl) ?_
      go_end0
      exact ⟨rfl, z, hpost.1⟩
    · refine skip_ (w1 := ?_) (by rfl) rfl ?_ ?_
      rotate_left
      · go_simp
        rfl
      refine hK.out _ _ ?_
      clear hK
      clear K
      refine last_ (i := 8) (N := none) #[true, true, true, true, true, true, true, true, true, true, true] rfl rfl (by kernel_rfl) (by decide) (fun K hK => ?_)
      rw [if_pos (by rfl)]
      refine wp_store_mid 36 _ _ rfl g 9 #[u0 z, u1 z, u2 z, u3 z, u4 z, u5 z, u6 z, u7 z, u8 z] (by rfl) (by rfl) (there_set hthere (V, 8) _) info36s (hone z) ?_
      refine hK.out _ _ ?_
      clear hK
      clear K
      refine done_ (by kernel_rfl) ?_
      go_end0
      exact ⟨rfl, z, hpost.2⟩
  refine two_ (i := 3) (j := 5) (Ni := some 5) (Nj := some 7) #[true, true, true, true, true, false, false, false, false, false, false] #[true, true, true, false, true, true, false, false, false, false, false] rfl rfl rfl rfl (by kernel_rfl) (by decide) (by decide) (fun K hK => ?_) (fun K hK => ?_)
  · refine goes_ Tryz.func183 (by kernel_rfl) rfl #[.pointer (some ⟨R, 0, none⟩)] (by rfl) rfl rfl (by simp [Act.eval]) ?_
    refine (hval _ (Below.refl _ _).drew).mono ?_
    rintro e w3 ⟨z, rfl, hj3, K3, hQ3⟩
    replace K3 := Kp.undrew K3
    have hc8 := K3.cell hV8 (fun e => hRV e)
    have hcX := K3.cell hX0 (fun e => hRX e)
    refine ⟨_, rfl, hK.out _ _ ⟨hc8, hcX⟩ (fun hHeld3 => ?_)⟩
    clear hK K
    refine one_ (i := 5) (N := some 7) #[true, true, true, true, true, true, false, false, false, false, false] rfl rfl (by kernel_rfl) (by decide) (fun K hK => ?_)
    refine value_ (v := .slice (some ⟨w3.heap.size, 0, none⟩) 1 1) (w1 := w3.alloc (.cells #[.int .i64 0, .bool false, .bool false, .string ⟨#[]⟩, .int .i64 0, .int .u64 0, .string ⟨#[]⟩, .slice none 0 0, .slice none 0 0] 36 (0, 0))) (by rfl) rfl ?_ ?_
    · go_simp
    have K4 := K3.alloc (.cells #[.int .i64 0, .bool false, .bool false, .string ⟨#[]⟩, .int .i64 0, .int .u64 0, .string ⟨#[]⟩, .slice none 0 0, .slice none 0 0] 36 (0, 0))
    refine hK.out _ _ ⟨(Kp.refl w3 (fun _ => False)).alloc _ |>.cell hc8 (fun h => h), (Kp.refl w3 (fun _ => False)).alloc _ |>.cell hcX (fun h => h)⟩ (fun hHeld4 => ?_)
    exact hcont (w3.heap.size, z) _ ⟨K3.size, alloc1 w3 _, hj3.kp ((Kp.refl w3 (fun _ => False)).alloc _) (fun h => h), K4, hQ z _ _ hQ3 (((Kp.refl w3 (fun _ => False)).alloc _).mono (fun _ h => h.elim)), hHeld4⟩
  · refine value_ (v := .slice (some ⟨w.heap.size, 0, none⟩) 1 1) (w1 := w.drew.alloc (.cells #[.int .i64 0, .bool false, .bool false, .string ⟨#[]⟩, .int .i64 0, .int .u64 0, .string ⟨#[]⟩, .slice none 0 0, .slice none 0 0] 36 (0, 0))) (by rfl) rfl ?_ ?_
    · go_simp
    have B1 : Below w.heap.size w (w.drew.alloc (.cells #[.int .i64 0, .bool false, .bool false, .string ⟨#[]⟩, .int .i64 0, .int .u64 0, .string ⟨#[]⟩, .slice none 0 0, .slice none 0 0] 36 (0, 0))) := below_alloc (Below.refl _ _).drew _
    have K1 := Kp.of_below B1 (fun _ => False)
    have hc8 := K1.cell hV8 (fun h => h)
    have hcX := K1.cell hX0 (fun h => h)
    refine hK.out _ _ ⟨hc8, hcX⟩ (fun hHeld1 => ?_)
    clear hK K
    refine one_ (i := 3) (N := some 5) #[true, true, true, true, true, true, false, false, false, false, false] rfl rfl (by kernel_rfl) (by decide) (fun K hK => ?_)
    refine goes_ Tryz.func183 (by kernel_rfl) rfl #[.pointer (some ⟨R, 0, none⟩)] (by rfl) rfl rfl (by simp [Act.eval, Act.put]) ?_
    refine (hval _ B1).mono ?_
    rintro e w3 ⟨z, rfl, hj3, K3, hQ3⟩
    have hc8' := K3.cell hc8 (fun e => hRV e)
    have hcX' := K3.cell hcX (fun e => hRX e)
    have hRw := blk_lt (show w.heap[R]? = _ from hjr)
    refine ⟨_, rfl, hK.out _ _ ⟨hc8', hcX'⟩ (fun hHeld3 => ?_)⟩
    refine norm_ ?_ (hcont (w.heap.size, z) w3 ⟨Nat.le_refl _, K3.heap (alloc1 w.drew _) (fun e => by have : w.drew.heap.size = w.heap.size := rfl; omega), hj3, (K1.mono (fun _ h => h.elim)).trans K3 (fun i hi => .inl hi), hQ3, hHeld3⟩)
    simp only [putAll, Act.put, List.setIfInBounds_toArray, List.set_cons_zero, List.set_cons_succ, i64_w, i32_w]
end Go.Proofs.YtcpgcjmamjjokaaGreatDoor
