/- code.back, at one node that is but one word. Written by gen_be.py. -/
import Derived.Test.YtcpgcjmamjjokaaGreatDoorBd
namespace Go.Proofs.YtcpgcjmamjjokaaGreatDoor
open Go.RowKit Go.Proofs.YtcpgcjmamjjokaaGreatDoorW.PrintWords Go.Proofs.YtcpgcjmamjjokaaGreatDoorW.PrintMore
set_option linter.unusedVariables false
set_option linter.unusedSimpArgs false
theorem anyL_two {P : Program} {ops : Array Oper} {Q : Exit → Act → World → Prop} {md : Region.Mode} {S : World → Prop} {last i j : Nat} {o p : Oper} {fuel : Nat} {listed : Array Bool} {a : Act} {w : World} (hr : Region.ready md ops listed = [i, j]) (ho : ops[i]? = some o) (hp : ops[j]? = some p)
    (h : ∀ K' : Act → World → Prop, Shut (∀ a w, S w → (S w → AnyL P md ops Q S last fuel (listed.setIfInBounds i true) a w) → K' a w) → if Region.wanted o (yielded ops a.tmps) = true then Oper.wp P o a w K' Q else K' (a.put o.dst undef) w)
    (h2 : ∀ K' : Act → World → Prop, Shut (∀ a w, S w → (S w → AnyL P md ops Q S last fuel (listed.setIfInBounds j true) a w) → K' a w) → if Region.wanted p (yielded ops a.tmps) = true then Oper.wp P p a w K' Q else K' (a.put p.dst undef) w) : AnyL P md ops Q S last (fuel + 1) listed a w := by
  refine ⟨fun h0 => (by rw [hr] at h0; cases h0), fun k hk => ?_⟩
  rw [hr] at hk
  rcases List.mem_cons.1 hk with rfl | hk
  · exact wpOp_step ho (fun K' hK => h K' (fun a w hS hW => hK a w ⟨.inr hS, hW hS⟩))
  · rw [List.mem_singleton] at hk
    subst hk
    exact wpOp_step hp (fun K' hK => h2 K' (fun a w hS hW => hK a w ⟨.inr hS, hW hS⟩))
theorem node_cells {op : Int} {g cap B : Nat} {x : World} (h : NodeAt op g cap B x) : B ≤ g ∧ g < x.heap.size ∧ x.cell? ⟨g, 0, none⟩ = some (.int .i64 op) ∧ x.cell? ⟨g, 1, none⟩ = some (.string ⟨#[]⟩) ∧ x.cell? ⟨g, 2, none⟩ = some (.slice none 0 0) ∧ x.cell? ⟨g, 3, none⟩ = some (.slice none 0 0) ∧ x.cell? ⟨g, 4, none⟩ = some (.int .i64 0) ∧ x.cell? ⟨g, 5, none⟩ = some (.bool false) ∧ x.cell? ⟨g, 6, none⟩ = some (.bool false) ∧ x.cell? ⟨g, 7, none⟩ = some (.string ⟨#[]⟩) ∧ x.cell? ⟨g, 8, none⟩ = some (.int .i64 0) ∧ x.cell? ⟨g, 9, none⟩ = some (.int .u64 0) ∧ x.cell? ⟨g, 10, none⟩ = some (.string ⟨#[]⟩) ∧ x.cell? ⟨g, 11, none⟩ = some (.slice none 0 0) ∧ x.cell? ⟨g, 12, none⟩ = some (.slice none 0 0) := by
  have hb : B ≤ g := by
    rcases h.2 with ⟨h, _⟩ | ⟨g', cap', cur, hv, hb, _⟩
    · cases h
    · cases hv; exact hb
  have h0 := World.ownsRow.cellAt h 0 (by decide)
  exact ⟨hb, World.block_lt_of_cell? x _ h0, h0, World.ownsRow.cellAt h 1 (by decide), World.ownsRow.cellAt h 2 (by decide), World.ownsRow.cellAt h 3 (by decide), World.ownsRow.cellAt h 4 (by decide), World.ownsRow.cellAt h 5 (by decide), World.ownsRow.cellAt h 6 (by decide), World.ownsRow.cellAt h 7 (by decide), World.ownsRow.cellAt h 8 (by decide), World.ownsRow.cellAt h 9 (by decide), World.ownsRow.cellAt h 10 (by decide), World.ownsRow.cellAt h 11 (by decide), World.ownsRow.cellAt h 12 (by decide)⟩
theorem ex_frz {w : World} {g : Nat} {op : Int} {t : TypeId} (h : w.heap[g]? = some (.cells (exC op) t (0, 0))) : w.frozen? ⟨g, 0, none⟩ = false ∧ w.frozen? ⟨g, 1, none⟩ = false ∧ w.frozen? ⟨g, 2, none⟩ = false ∧ w.frozen? ⟨g, 3, none⟩ = false ∧ w.frozen? ⟨g, 4, none⟩ = false ∧ w.frozen? ⟨g, 5, none⟩ = false ∧ w.frozen? ⟨g, 6, none⟩ = false ∧ w.frozen? ⟨g, 7, none⟩ = false ∧ w.frozen? ⟨g, 8, none⟩ = false ∧ w.frozen? ⟨g, 9, none⟩ = false ∧ w.frozen? ⟨g, 10, none⟩ = false ∧ w.frozen? ⟨g, 11, none⟩ = false ∧ w.frozen? ⟨g, 12, none⟩ = false := ⟨blk_frozen h 0, blk_frozen h 1, blk_frozen h 2, blk_frozen h 3, blk_frozen h 4, blk_frozen h 5, blk_frozen h 6, blk_frozen h 7, blk_frozen h 8, blk_frozen h 9, blk_frozen h 10, blk_frozen h 11, blk_frozen h 12⟩
def BackPost (op : Int) (w : World) (e : Ending) (w' : World) : Prop := ∃ A, e = .returned (.tuple #[exV op, .slice A 0 0, .bool true]) ∧ Below w.heap.size w w'
set_option maxHeartbeats 8000000 in
set_option maxRecDepth 100000 in
theorem back_ex (op : Int) (g cap B : Nat) (w : World) (hN : NodeAt op g cap B w) :
    Calls Tryz.prog 58 #[.slice (some ⟨g, 0, none⟩) 1 cap, .int .i64 0] w (BackPost op w) := by
  have hO := fun w => own_zero w
  unfold v0 at hO
  replace hO := Lib.hid hO
  have hcap : 1 ≤ cap := by
    rcases hN.2 with ⟨h, _⟩ | ⟨g', cap', cur, hv, hb, _, hn, _⟩
    · cases h
    · cases hv; exact hn
  replace hN := Lib.hid hN
  go_enter Tryz.func58, Tryz.ntmps58
  obtain ⟨G, hG⟩ : ∃ G, w.heap.size = G := ⟨_, rfl⟩
  go_upto_region 1 with fail
  generalize hw1 : World.alloc w _ = w1
  obtain ⟨r1, B1, s1⟩ : w1.heap[G]? = some (.cells (exC 0) 38 (0, 0)) ∧ Below w.heap.size w w1 ∧ w1.heap.size = G + 1 := by
    subst hw1 hG
    exact ⟨heap_alloc_new _ _, below_alloc (Below.refl _ _) _, Array.size_push _⟩
  clear hw1
  obtain ⟨hbg, hgl, g0, g1, g2, g3, g4, g5, g6, g7, g8, g9, g10, g11, g12⟩ := node_cells ((Kp.of_below B1 (fun _ => False)).own hN.out (fun _ _ h => h))
  clear hN
  replace hG := Lib.hid hG
  replace r1 := Lib.hid r1
  replace B1 := Lib.hid B1
  replace s1 := Lib.hid s1
  go_upto_region 2 with fail
  generalize hw2 : World.alloc w1 _ = w2
  rw [s1.out]
  obtain ⟨r2, b2, B2⟩ : w2.heap[G]? = some (.cells (exC 0) 38 (0, 0)) ∧ w2.heap[G + 1]? = some (.cells (exC op) 73 (0, 0)) ∧ Below w.heap.size w w2 := by
    subst hw2
    refine ⟨blk_alloc r1.out _, ?_, below_alloc B1.out _⟩
    rw [← s1.out]
    exact heap_alloc_new _ _
  clear hw2 r1 B1 g0 g1 g2 g3 g4 g5 g6 g7 g8 g9 g10 g11 g12 hgl s1
  have hS2 := Lib.hid (ex_cells b2)
  replace r2 := Lib.hid r2
  replace b2 := Lib.hid b2
  replace B2 := Lib.hid B2
  go_upto_region 3 with fail
  refine region_last (fun x => x.cell? ⟨G + 1, 0, none⟩ = some (.int .i64 op) ∧ x.cell? ⟨G + 1, 1, none⟩ = some (.string ⟨#[]⟩) ∧ x.cell? ⟨G + 1, 2, none⟩ = some (.slice none 0 0) ∧ x.cell? ⟨G + 1, 3, none⟩ = some (.slice none 0 0) ∧ x.cell? ⟨G + 1, 4, none⟩ = some (.int .i64 0) ∧ x.cell? ⟨G + 1, 5, none⟩ = some (.bool false) ∧ x.cell? ⟨G + 1, 6, none⟩ = some (.bool false) ∧ x.cell? ⟨G + 1, 7, none⟩ = some (.string ⟨#[]⟩) ∧ x.cell? ⟨G + 1, 8, none⟩ = some (.int .i64 0) ∧ x.cell? ⟨G + 1, 9, none⟩ = some (.int .u64 0) ∧ x.cell? ⟨G + 1, 10, none⟩ = some (.string ⟨#[]⟩) ∧ x.cell? ⟨G + 1, 11, none⟩ = some (.slice none 0 0) ∧ x.cell? ⟨G + 1, 12, none⟩ = some (.slice none 0 0)) 12 (by kernel_rfl) hS2.out (fun hH => ?_)
  refine anyL_take (i := 0) (oi := { dst := some 25, op := Op.fieldAddr 73 (Operand.tmp 7) 0, type := 0, pos := "code.go:41", after := #[], guard := none }) (v := .pointer (some ⟨G + 1, 0, none⟩)) rfl rfl (by kernel_rfl) (by kernel_rfl) (by kernel_rfl) (by kernel_rfl) (fun _ _ _ h => h) (Or.inl ⟨by rfl, ?hy4⟩) hH ?rest4
  case hy4 =>
    intro w hSw
    (try dsimp only at hSw)
    go_simp
  try simp only [Act.put, List.setIfInBounds_toArray, List.set_cons_zero, List.set_cons_succ]
  refine anyL_take (i := 1) (oi := { dst := some 26, op := Op.load 27 (Operand.tmp 25), type := 27, pos := "code.go:41", after := #[{ on := 0, ground := Ground.data }], guard := none }) (v := .int .i64 op) rfl rfl (by kernel_rfl) (by kernel_rfl) (by kernel_rfl) (by kernel_rfl) (fun _ _ _ h => h) (Or.inl ⟨by rfl, ?hy5⟩) hH ?rest5
  case hy5 =>
    intro w hSw
    (try dsimp only at hSw)
    go_simp
  try simp only [Act.put, List.setIfInBounds_toArray, List.set_cons_zero, List.set_cons_succ]
  refine anyL_take (i := 2) (oi := { dst := some 27, op := Op.fieldAddr 73 (Operand.tmp 7) 1, type := 0, pos := "code.go:41", after := #[], guard := none }) (v := .pointer (some ⟨G + 1, 1, none⟩)) rfl rfl (by kernel_rfl) (by kernel_rfl) (by kernel_rfl) (by kernel_rfl) (fun _ _ _ h => h) (Or.inl ⟨by rfl, ?hy6⟩) hH ?rest6
  case hy6 =>
    intro w hSw
    (try dsimp only at hSw)
    go_simp
  try simp only [Act.put, List.setIfInBounds_toArray, List.set_cons_zero, List.set_cons_succ]
  refine anyL_take (i := 3) (oi := { dst := some 28, op := Op.load 9 (Operand.tmp 27), type := 9, pos := "code.go:41", after := #[{ on := 2, ground := Ground.data }], guard := none }) (v := .string ⟨#[]⟩) rfl rfl (by kernel_rfl) (by kernel_rfl) (by kernel_rfl) (by kernel_rfl) (fun _ _ _ h => h) (Or.inl ⟨by rfl, ?hy7⟩) hH ?rest7
  case hy7 =>
    intro w hSw
    (try dsimp only at hSw)
    go_simp
  try simp only [Act.put, List.setIfInBounds_toArray, List.set_cons_zero, List.set_cons_succ]
  refine anyL_take (i := 4) (oi := { dst := some 29, op := Op.fieldAddr 73 (Operand.tmp 7) 2, type := 0, pos := "code.go:41", after := #[], guard := none }) (v := .pointer (some ⟨G + 1, 2, none⟩)) rfl rfl (by kernel_rfl) (by kernel_rfl) (by kernel_rfl) (by kernel_rfl) (fun _ _ _ h => h) (Or.inl ⟨by rfl, ?hy8⟩) hH ?rest8
  case hy8 =>
    intro w hSw
    (try dsimp only at hSw)
    go_simp
  try simp only [Act.put, List.setIfInBounds_toArray, List.set_cons_zero, List.set_cons_succ]
  refine anyL_take (i := 5) (oi := { dst := some 30, op := Op.load 28 (Operand.tmp 29), type := 28, pos := "code.go:41", after := #[{ on := 4, ground := Ground.data }], guard := none }) (v := .slice none 0 0) rfl rfl (by kernel_rfl) (by kernel_rfl) (by kernel_rfl) (by kernel_rfl) (fun _ _ _ h => h) (Or.inl ⟨by rfl, ?hy9⟩) hH ?rest9
  case hy9 =>
    intro w hSw
    (try dsimp only at hSw)
    go_simp
  try simp only [Act.put, List.setIfInBounds_toArray, List.set_cons_zero, List.set_cons_succ]
  refine anyL_take (i := 7) (oi := { dst := some 32, op := Op.fieldAddr 73 (Operand.tmp 7) 4, type := 0, pos := "code.go:41", after := #[], guard := none }) (v := .pointer (some ⟨G + 1, 4, none⟩)) rfl rfl (by kernel_rfl) (by kernel_rfl) (by kernel_rfl) (by kernel_rfl) (fun _ _ _ h => h) (Or.inl ⟨by rfl, ?hy10⟩) hH ?rest10
  case hy10 =>
    intro w hSw
    (try dsimp only at hSw)
    go_simp
  try simp only [Act.put, List.setIfInBounds_toArray, List.set_cons_zero, List.set_cons_succ]
  refine anyL_take (i := 8) (oi := { dst := some 33, op := Op.load 36 (Operand.tmp 32), type := 36, pos := "code.go:41", after := #[{ on := 7, ground := Ground.data }], guard := none }) (v := .agg #[.int .i64 0, .bool false, .bool false, .string ⟨#[]⟩, .int .i64 0, .int .u64 0, .string ⟨#[]⟩, .slice none 0 0, .slice none 0 0]) rfl rfl (by kernel_rfl) (by kernel_rfl) (by kernel_rfl) (by kernel_rfl) (fun _ _ _ h => h) (Or.inl ⟨by rfl, ?hy11⟩) hH ?rest11
  case hy11 =>
    intro w hSw
    (try dsimp only at hSw)
    go_simp
  try simp only [Act.put, List.setIfInBounds_toArray, List.set_cons_zero, List.set_cons_succ]
  refine anyL_two (i := 6) (j := 11) (o := { dst := some 31, op := Op.call { callee := Callee.value (Operand.func 25), args := #[Operand.tmp 30], argTypes := #[28] }, type := 28, pos := "code.go:41", after := #[{ on := 5, ground := Ground.data }], guard := none }) (p := { dst := some 9, op := Op.alloc 38, type := 0, pos := "code.go:41", after := #[], guard := none }) (by kernel_rfl) rfl rfl (fun K hK => ?_) (fun K hK => ?_)
  · go_simp
    (with_reducible refine (clone_strs _).mono ?_)
    rintro e w' ⟨rfl, rfl⟩
    go_wp2_with fail
    refine hK.out _ _ hH (fun hH => ?_)
    clear hK K
    try simp only [Act.put, List.setIfInBounds_toArray, List.set_cons_zero, List.set_cons_succ]
    refine anyL_two (i := 9) (j := 11) (o := { dst := some 34, op := Op.call { callee := Callee.value (Operand.func 26), args := #[Operand.tmp 33], argTypes := #[36] }, type := 36, pos := "code.go:41", after := #[{ on := 8, ground := Ground.data }, { on := 6, ground := Ground.chain }], guard := none }) (p := { dst := some 9, op := Op.alloc 38, type := 0, pos := "code.go:41", after := #[], guard := none }) (by kernel_rfl) rfl rfl (fun K hK => ?_) (fun K hK => ?_)
    · go_simp
      (with_reducible refine (hO.out _).mono ?_)
      rintro e w3 ⟨rfl, B3⟩
      have b3 := blk_below (w := w2.drew) b2.out B3
      have r3 := blk_below (w := w2.drew) r2.out B3
      have C3 := Lib.hid (below_then (w1 := w2.drew) (pw_below_drewN B2.out 1) (pw_below_drewN B2.out 1).size B3)
      clear B3
      have hS3 := Lib.hid (ex_cells b3)
      replace b3 := Lib.hid b3
      replace r3 := Lib.hid r3
      go_wp2_with fail
      refine hK.out _ _ hS3.out (fun hH => ?_)
      clear hK K
      try simp only [Act.put, List.setIfInBounds_toArray, List.set_cons_zero, List.set_cons_succ]
      refine anyL_take (i := 10) (oi := { dst := some 35, op := Op.build 38 #[(0, Operand.tmp 26), (1, Operand.tmp 28), (2, Operand.tmp 31), (4, Operand.tmp 34)], type := 38, pos := "code.go:41", after := #[{ on := 1, ground := Ground.data }, { on := 3, ground := Ground.data }, { on := 6, ground := Ground.data }, { on := 9, ground := Ground.data }], guard := none }) (v := .agg #[.int .i64 op, .string ⟨#[]⟩, .slice none 0 0, .slice none 0 0, .int .i64 0, .bool false, .bool false, .string ⟨#[]⟩, .int .i64 0, .int .u64 0, .string ⟨#[]⟩, .slice none 0 0, .slice none 0 0]) rfl rfl (by kernel_rfl) (by kernel_rfl) (by kernel_rfl) (by kernel_rfl) (fun _ _ _ h => h) (Or.inl ⟨by rfl, ?hy1⟩) hH ?rest1
      case hy1 =>
        intro w hSw
        (try dsimp only at hSw)
        go_simp
      try simp only [Act.put, List.setIfInBounds_toArray, List.set_cons_zero, List.set_cons_succ]
      refine anyL_one (i := 11) (o := { dst := some 9, op := Op.alloc 38, type := 0, pos := "code.go:41", after := #[], guard := none }) (by kernel_rfl) rfl (fun K hK => ?_)
      go_simp
      refine hK.out _ _ (ex_cells (blk_alloc b3.out _)) (fun hH => ?_)
      clear hK K
      try simp only [Act.put, List.setIfInBounds_toArray, List.set_cons_zero, List.set_cons_succ]
      refine anyL_last (o := { dst := none, op := Op.store 38 (Operand.tmp 9) (Operand.tmp 35), type := 0, pos := "code.go:41", after := #[{ on := 11, ground := Ground.data }, { on := 10, ground := Ground.data }, { on := 9, ground := Ground.chain }, { on := 0, ground := Ground.phase }, { on := 1, ground := Ground.phase }, { on := 2, ground := Ground.phase }, { on := 3, ground := Ground.phase }, { on := 4, ground := Ground.phase }, { on := 5, ground := Ground.phase }, { on := 6, ground := Ground.phase }, { on := 7, ground := Ground.phase }, { on := 8, ground := Ground.phase }, { on := 9, ground := Ground.phase }, { on := 10, ground := Ground.phase }, { on := 11, ground := Ground.phase }], guard := none }) (by kernel_rfl) rfl (fun K hK => ?_)
      go_simp
      refine hK.out _ _ ?_
      clear hK K
      try simp only [Act.put, List.setIfInBounds_toArray, List.set_cons_zero, List.set_cons_succ]
      refine anyL_done (by kernel_rfl) ?_ _
      generalize hw5 : World.alloc w3 _ = w5
      obtain ⟨n5, r5, b5, C5, hN⟩ : w5.heap[w3.heap.size]? = some (.cells (exC op) 38 (0, 0)) ∧ w5.heap[G]? = some (.cells (exC 0) 38 (0, 0)) ∧ w5.heap[G + 1]? = some (.cells (exC op) 73 (0, 0)) ∧ Below w.heap.size w w5 ∧ G + 1 < w3.heap.size := by
        subst hw5
        exact ⟨heap_alloc_new _ _, blk_alloc r3.out _, blk_alloc b3.out _, below_alloc C3.out _, blk_lt b3.out⟩
      clear hw5 hS3 b3 r3 C3 hH hS2 b2 r2 B2
      obtain ⟨N, hNe⟩ : ∃ N, w3.heap.size = N := ⟨_, rfl⟩
      rw [hNe] at n5 hN ⊢
      clear hNe
      obtain ⟨e0, e1, e2, e3, e4, e5, e6, e7, e8, e9, e10, e11, e12⟩ := ex_cells b5
      obtain ⟨p0, p1, p2, p3, p4, p5, p6, p7, p8, p9, p10, p11, p12⟩ := ex_cells n5
      obtain ⟨q0, q1, q2, q3, q4, q5, q6, q7, q8, q9, q10, q11, q12⟩ := ex_cells r5
      obtain ⟨t0, t1, t2, t3, t4, t5, t6, t7, t8, t9, t10, t11, t12⟩ := ex_frz r5
      have hl5 := blk_lt r5
      have hne5 : N ≠ G := by omega
      replace b5 := Lib.hid b5
      replace n5 := Lib.hid n5
      replace r5 := Lib.hid r5
      replace C5 := Lib.hid C5
      replace hN := Lib.hid hN
      go_wp2_with fail
      go_loop [8, 43] (fun u v => u = .slice (some ⟨g, 0, none⟩) 0 0 ∧ v = .int .i64 0) (fun _ _ => 0)
      case atStart => exact ⟨rfl, rfl⟩
      case round =>
        obtain ⟨rfl, rfl⟩ := hrel
        go_wp2_with fail
        generalize hw6 : World.setCell _ _ _ = w6
        have hwG : w.heap.size ≤ G := by have := hG.out; omega
        obtain ⟨r6, C6⟩ : w6.heap[G]? = some (.cells (exC op) 38 (0, 0)) ∧ Below w.heap.size w w6 := by
          subst hw6
          refine ⟨?_, ?_⟩
          · exact (blk_put (cs' := #[.int .i64 op, .string ⟨#[]⟩, .slice none 0 0, .slice none 0 0, .int .i64 0, .bool false, .bool false, .string ⟨#[]⟩, .int .i64 0, .int .u64 0, .string ⟨#[]⟩, .slice none 0 0, .slice none 0 0]) (blk_put (cs' := #[.int .i64 op, .string ⟨#[]⟩, .slice none 0 0, .slice none 0 0, .int .i64 0, .bool false, .bool false, .string ⟨#[]⟩, .int .i64 0, .int .u64 0, .string ⟨#[]⟩, .slice none 0 0, .slice none 0 0]) (blk_put (cs' := #[.int .i64 op, .string ⟨#[]⟩, .slice none 0 0, .slice none 0 0, .int .i64 0, .bool false, .bool false, .string ⟨#[]⟩, .int .i64 0, .int .u64 0, .string ⟨#[]⟩, .slice none 0 0, .slice none 0 0]) (blk_put (cs' := #[.int .i64 op, .string ⟨#[]⟩, .slice none 0 0, .slice none 0 0, .int .i64 0, .bool false, .bool false, .string ⟨#[]⟩, .int .i64 0, .int .u64 0, .string ⟨#[]⟩, .slice none 0 0, .slice none 0 0]) (blk_put (cs' := #[.int .i64 op, .string ⟨#[]⟩, .slice none 0 0, .slice none 0 0, .int .i64 0, .bool false, .bool false, .string ⟨#[]⟩, .int .i64 0, .int .u64 0, .string ⟨#[]⟩, .slice none 0 0, .slice none 0 0]) (blk_put (cs' := #[.int .i64 op, .string ⟨#[]⟩, .slice none 0 0, .slice none 0 0, .int .i64 0, .bool false, .bool false, .string ⟨#[]⟩, .int .i64 0, .int .u64 0, .string ⟨#[]⟩, .slice none 0 0, .slice none 0 0]) (blk_put (cs' := #[.int .i64 op, .string ⟨#[]⟩, .slice none 0 0, .slice none 0 0, .int .i64 0, .bool false, .bool false, .string ⟨#[]⟩, .int .i64 0, .int .u64 0, .string ⟨#[]⟩, .slice none 0 0, .slice none 0 0]) (blk_put (cs' := #[.int .i64 op, .string ⟨#[]⟩, .slice none 0 0, .slice none 0 0, .int .i64 0, .bool false, .bool false, .string ⟨#[]⟩, .int .i64 0, .int .u64 0, .string ⟨#[]⟩, .slice none 0 0, .slice none 0 0]) (blk_put (cs' := #[.int .i64 op, .string ⟨#[]⟩, .slice none 0 0, .slice none 0 0, .int .i64 0, .bool false, .bool false, .string ⟨#[]⟩, .int .i64 0, .int .u64 0, .string ⟨#[]⟩, .slice none 0 0, .slice none 0 0]) (blk_put (cs' := #[.int .i64 op, .string ⟨#[]⟩, .slice none 0 0, .slice none 0 0, .int .i64 0, .bool false, .bool false, .string ⟨#[]⟩, .int .i64 0, .int .u64 0, .string ⟨#[]⟩, .slice none 0 0, .slice none 0 0]) (blk_put (cs' := #[.int .i64 op, .string ⟨#[]⟩, .slice none 0 0, .slice none 0 0, .int .i64 0, .bool false, .bool false, .string ⟨#[]⟩, .int .i64 0, .int .u64 0, .string ⟨#[]⟩, .slice none 0 0, .slice none 0 0]) (blk_put (cs' := #[.int .i64 op, .string ⟨#[]⟩, .slice none 0 0, .slice none 0 0, .int .i64 0, .bool false, .bool false, .string ⟨#[]⟩, .int .i64 0, .int .u64 0, .string ⟨#[]⟩, .slice none 0 0, .slice none 0 0]) (blk_put (cs' := #[.int .i64 op, .string ⟨#[]⟩, .slice none 0 0, .slice none 0 0, .int .i64 0, .bool false, .bool false, .string ⟨#[]⟩, .int .i64 0, .int .u64 0, .string ⟨#[]⟩, .slice none 0 0, .slice none 0 0]) r5.out 0 _ rfl) 1 _ rfl) 2 _ rfl) 3 _ rfl) 4 _ rfl) 5 _ rfl) 6 _ rfl) 7 _ rfl) 8 _ rfl) 9 _ rfl) 10 _ rfl) 11 _ rfl) 12 _ rfl)
          · exact (below_set (below_set (below_set (below_set (below_set (below_set (below_set (below_set (below_set (below_set (below_set (below_set (below_set C5.out hwG) hwG) hwG) hwG) hwG) hwG) hwG) hwG) hwG) hwG) hwG) hwG) hwG)
        clear hw6
        obtain ⟨z0, z1, z2, z3, z4, z5, z6, z7, z8, z9, z10, z11, z12⟩ := ex_cells r6
        exact bodyPost_ret (v := .tuple #[.agg #[.int .i64 op, .string ⟨#[]⟩, .slice none 0 0, .slice none 0 0, .int .i64 0, .bool false, .bool false, .string ⟨#[]⟩, .int .i64 0, .int .u64 0, .string ⟨#[]⟩, .slice none 0 0, .slice none 0 0], .slice (some ⟨g, 0, none⟩) 0 0, .bool true]) (by simp [results, Tryz.results58, go_sem, z0, z1, z2, z3, z4, z5, z6, z7, z8, z9, z10, z11, z12]) rfl ⟨_, rfl, C6⟩
    · go_simp
      obtain ⟨N, hNe⟩ : ∃ N, w2.heap.size = N := ⟨_, rfl⟩
      generalize hwa : World.alloc w2 _ = wa
      rw [hNe]
      obtain ⟨na, ra, ba, Ba, hNG⟩ : wa.heap[N]? = some (.cells (exC 0) 38 (0, 0)) ∧ wa.heap[G]? = some (.cells (exC 0) 38 (0, 0)) ∧ wa.heap[G + 1]? = some (.cells (exC op) 73 (0, 0)) ∧ Below w.heap.size w wa ∧ G + 1 < N := by
        subst hwa hNe
        exact ⟨heap_alloc_new w2 _, blk_alloc r2.out _, blk_alloc b2.out _, below_alloc B2.out _, blk_lt b2.out⟩
      clear hwa hNe
      have hSa := Lib.hid (ex_cells ba)
      replace na := Lib.hid na
      replace ra := Lib.hid ra
      replace ba := Lib.hid ba
      replace Ba := Lib.hid Ba
      replace hNG := Lib.hid hNG
      refine hK.out _ _ hSa.out (fun hH => ?_)
      clear hK K
      try simp only [Act.put, List.setIfInBounds_toArray, List.set_cons_zero, List.set_cons_succ]
      refine anyL_one (i := 9) (o := { dst := some 34, op := Op.call { callee := Callee.value (Operand.func 26), args := #[Operand.tmp 33], argTypes := #[36] }, type := 36, pos := "code.go:41", after := #[{ on := 8, ground := Ground.data }, { on := 6, ground := Ground.chain }], guard := none }) (by kernel_rfl) rfl (fun K hK => ?_)
      go_simp
      (with_reducible refine (hO.out _).mono ?_)
      rintro e w3 ⟨rfl, B3⟩
      have b3 := blk_below (w := wa.drew) ba.out B3
      have r3 := blk_below (w := wa.drew) ra.out B3
      have C3 := Lib.hid (below_then (w1 := wa.drew) (pw_below_drewN Ba.out 1) (pw_below_drewN Ba.out 1).size B3)
      have n3 := blk_below (w := wa.drew) na.out B3
      clear B3
      have hS3 := Lib.hid (ex_cells b3)
      have hlN := blk_lt n3
      obtain ⟨m0, m1, m2, m3, m4, m5, m6, m7, m8, m9, m10, m11, m12⟩ := ex_cells n3
      obtain ⟨k0, k1, k2, k3, k4, k5, k6, k7, k8, k9, k10, k11, k12⟩ := ex_frz n3
      replace n3 := Lib.hid n3
      replace b3 := Lib.hid b3
      replace r3 := Lib.hid r3
      go_wp2_with fail
      refine hK.out _ _ hS3.out (fun hH => ?_)
      clear hK K
      try simp only [Act.put, List.setIfInBounds_toArray, List.set_cons_zero, List.set_cons_succ]
      refine anyL_take (i := 10) (oi := { dst := some 35, op := Op.build 38 #[(0, Operand.tmp 26), (1, Operand.tmp 28), (2, Operand.tmp 31), (4, Operand.tmp 34)], type := 38, pos := "code.go:41", after := #[{ on := 1, ground := Ground.data }, { on := 3, ground := Ground.data }, { on := 6, ground := Ground.data }, { on := 9, ground := Ground.data }], guard := none }) (v := .agg #[.int .i64 op, .string ⟨#[]⟩, .slice none 0 0, .slice none 0 0, .int .i64 0, .bool false, .bool false, .string ⟨#[]⟩, .int .i64 0, .int .u64 0, .string ⟨#[]⟩, .slice none 0 0, .slice none 0 0]) rfl rfl (by kernel_rfl) (by kernel_rfl) (by kernel_rfl) (by kernel_rfl) (fun _ _ _ h => h) (Or.inl ⟨by rfl, ?hy2⟩) hH ?rest2
      case hy2 =>
        intro w hSw
        (try dsimp only at hSw)
        go_simp
      try simp only [Act.put, List.setIfInBounds_toArray, List.set_cons_zero, List.set_cons_succ]
      refine anyL_last (o := { dst := none, op := Op.store 38 (Operand.tmp 9) (Operand.tmp 35), type := 0, pos := "code.go:41", after := #[{ on := 11, ground := Ground.data }, { on := 10, ground := Ground.data }, { on := 9, ground := Ground.chain }, { on := 0, ground := Ground.phase }, { on := 1, ground := Ground.phase }, { on := 2, ground := Ground.phase }, { on := 3, ground := Ground.phase }, { on := 4, ground := Ground.phase }, { on := 5, ground := Ground.phase }, { on := 6, ground := Ground.phase }, { on := 7, ground := Ground.phase }, { on := 8, ground := Ground.phase }, { on := 9, ground := Ground.phase }, { on := 10, ground := Ground.phase }, { on := 11, ground := Ground.phase }], guard := none }) (by kernel_rfl) rfl (fun K hK => ?_)
      go_simp
      refine hK.out _ _ ?_
      clear hK K
      try simp only [Act.put, List.setIfInBounds_toArray, List.set_cons_zero, List.set_cons_succ]
      refine anyL_done (by kernel_rfl) ?_ _
      generalize hw5 : World.setCell _ _ _ = w5
      have hGN : G ≠ N := by have := hNG.out; omega
      have hGN1 : G + 1 ≠ N := by have := hNG.out; omega
      have hwN : w.heap.size ≤ N := by have := hNG.out; have := hG.out; omega
      obtain ⟨n5, r5, b5, C5, hN⟩ : w5.heap[N]? = some (.cells (exC op) 38 (0, 0)) ∧ w5.heap[G]? = some (.cells (exC 0) 38 (0, 0)) ∧ w5.heap[G + 1]? = some (.cells (exC op) 73 (0, 0)) ∧ Below w.heap.size w w5 ∧ G + 1 < N := by
        subst hw5
        refine ⟨?_, ?_, ?_, ?_, hNG.out⟩
        · exact (blk_put (cs' := #[.int .i64 op, .string ⟨#[]⟩, .slice none 0 0, .slice none 0 0, .int .i64 0, .bool false, .bool false, .string ⟨#[]⟩, .int .i64 0, .int .u64 0, .string ⟨#[]⟩, .slice none 0 0, .slice none 0 0]) (blk_put (cs' := #[.int .i64 op, .string ⟨#[]⟩, .slice none 0 0, .slice none 0 0, .int .i64 0, .bool false, .bool false, .string ⟨#[]⟩, .int .i64 0, .int .u64 0, .string ⟨#[]⟩, .slice none 0 0, .slice none 0 0]) (blk_put (cs' := #[.int .i64 op, .string ⟨#[]⟩, .slice none 0 0, .slice none 0 0, .int .i64 0, .bool false, .bool false, .string ⟨#[]⟩, .int .i64 0, .int .u64 0, .string ⟨#[]⟩, .slice none 0 0, .slice none 0 0]) (blk_put (cs' := #[.int .i64 op, .string ⟨#[]⟩, .slice none 0 0, .slice none 0 0, .int .i64 0, .bool false, .bool false, .string ⟨#[]⟩, .int .i64 0, .int .u64 0, .string ⟨#[]⟩, .slice none 0 0, .slice none 0 0]) (blk_put (cs' := #[.int .i64 op, .string ⟨#[]⟩, .slice none 0 0, .slice none 0 0, .int .i64 0, .bool false, .bool false, .string ⟨#[]⟩, .int .i64 0, .int .u64 0, .string ⟨#[]⟩, .slice none 0 0, .slice none 0 0]) (blk_put (cs' := #[.int .i64 op, .string ⟨#[]⟩, .slice none 0 0, .slice none 0 0, .int .i64 0, .bool false, .bool false, .string ⟨#[]⟩, .int .i64 0, .int .u64 0, .string ⟨#[]⟩, .slice none 0 0, .slice none 0 0]) (blk_put (cs' := #[.int .i64 op, .string ⟨#[]⟩, .slice none 0 0, .slice none 0 0, .int .i64 0, .bool false, .bool false, .string ⟨#[]⟩, .int .i64 0, .int .u64 0, .string ⟨#[]⟩, .slice none 0 0, .slice none 0 0]) (blk_put (cs' := #[.int .i64 op, .string ⟨#[]⟩, .slice none 0 0, .slice none 0 0, .int .i64 0, .bool false, .bool false, .string ⟨#[]⟩, .int .i64 0, .int .u64 0, .string ⟨#[]⟩, .slice none 0 0, .slice none 0 0]) (blk_put (cs' := #[.int .i64 op, .string ⟨#[]⟩, .slice none 0 0, .slice none 0 0, .int .i64 0, .bool false, .bool false, .string ⟨#[]⟩, .int .i64 0, .int .u64 0, .string ⟨#[]⟩, .slice none 0 0, .slice none 0 0]) (blk_put (cs' := #[.int .i64 op, .string ⟨#[]⟩, .slice none 0 0, .slice none 0 0, .int .i64 0, .bool false, .bool false, .string ⟨#[]⟩, .int .i64 0, .int .u64 0, .string ⟨#[]⟩, .slice none 0 0, .slice none 0 0]) (blk_put (cs' := #[.int .i64 op, .string ⟨#[]⟩, .slice none 0 0, .slice none 0 0, .int .i64 0, .bool false, .bool false, .string ⟨#[]⟩, .int .i64 0, .int .u64 0, .string ⟨#[]⟩, .slice none 0 0, .slice none 0 0]) (blk_put (cs' := #[.int .i64 op, .string ⟨#[]⟩, .slice none 0 0, .slice none 0 0, .int .i64 0, .bool false, .bool false, .string ⟨#[]⟩, .int .i64 0, .int .u64 0, .string ⟨#[]⟩, .slice none 0 0, .slice none 0 0]) (blk_put (cs' := #[.int .i64 op, .string ⟨#[]⟩, .slice none 0 0, .slice none 0 0, .int .i64 0, .bool false, .bool false, .string ⟨#[]⟩, .int .i64 0, .int .u64 0, .string ⟨#[]⟩, .slice none 0 0, .slice none 0 0]) n3.out 0 _ rfl) 1 _ rfl) 2 _ rfl) 3 _ rfl) 4 _ rfl) 5 _ rfl) 6 _ rfl) 7 _ rfl) 8 _ rfl) 9 _ rfl) 10 _ rfl) 11 _ rfl) 12 _ rfl)
        · exact (blk_far (p := ⟨N, 12, none⟩) (blk_far (p := ⟨N, 11, none⟩) (blk_far (p := ⟨N, 10, none⟩) (blk_far (p := ⟨N, 9, none⟩) (blk_far (p := ⟨N, 8, none⟩) (blk_far (p := ⟨N, 7, none⟩) (blk_far (p := ⟨N, 6, none⟩) (blk_far (p := ⟨N, 5, none⟩) (blk_far (p := ⟨N, 4, none⟩) (blk_far (p := ⟨N, 3, none⟩) (blk_far (p := ⟨N, 2, none⟩) (blk_far (p := ⟨N, 1, none⟩) (blk_far (p := ⟨N, 0, none⟩) r3.out hGN _) hGN _) hGN _) hGN _) hGN _) hGN _) hGN _) hGN _) hGN _) hGN _) hGN _) hGN _) hGN _)
        · exact (blk_far (p := ⟨N, 12, none⟩) (blk_far (p := ⟨N, 11, none⟩) (blk_far (p := ⟨N, 10, none⟩) (blk_far (p := ⟨N, 9, none⟩) (blk_far (p := ⟨N, 8, none⟩) (blk_far (p := ⟨N, 7, none⟩) (blk_far (p := ⟨N, 6, none⟩) (blk_far (p := ⟨N, 5, none⟩) (blk_far (p := ⟨N, 4, none⟩) (blk_far (p := ⟨N, 3, none⟩) (blk_far (p := ⟨N, 2, none⟩) (blk_far (p := ⟨N, 1, none⟩) (blk_far (p := ⟨N, 0, none⟩) b3.out hGN1 _) hGN1 _) hGN1 _) hGN1 _) hGN1 _) hGN1 _) hGN1 _) hGN1 _) hGN1 _) hGN1 _) hGN1 _) hGN1 _) hGN1 _)
        · exact (below_set (below_set (below_set (below_set (below_set (below_set (below_set (below_set (below_set (below_set (below_set (below_set (below_set C3.out hwN) hwN) hwN) hwN) hwN) hwN) hwN) hwN) hwN) hwN) hwN) hwN) hwN)
      clear hw5 hS3 b3 r3 n3 C3 hH hS2 b2 r2 B2 hSa ba ra na Ba hNG hGN hGN1 hwN m0 m1 m2 m3 m4 m5 m6 m7 m8 m9 m10 m11 m12 k0 k1 k2 k3 k4 k5 k6 k7 k8 k9 k10 k11 k12
      obtain ⟨e0, e1, e2, e3, e4, e5, e6, e7, e8, e9, e10, e11, e12⟩ := ex_cells b5
      obtain ⟨p0, p1, p2, p3, p4, p5, p6, p7, p8, p9, p10, p11, p12⟩ := ex_cells n5
      obtain ⟨q0, q1, q2, q3, q4, q5, q6, q7, q8, q9, q10, q11, q12⟩ := ex_cells r5
      obtain ⟨t0, t1, t2, t3, t4, t5, t6, t7, t8, t9, t10, t11, t12⟩ := ex_frz r5
      have hl5 := blk_lt r5
      have hne5 : N ≠ G := by omega
      replace b5 := Lib.hid b5
      replace n5 := Lib.hid n5
      replace r5 := Lib.hid r5
      replace C5 := Lib.hid C5
      replace hN := Lib.hid hN
      go_wp2_with fail
      go_loop [8, 43] (fun u v => u = .slice (some ⟨g, 0, none⟩) 0 0 ∧ v = .int .i64 0) (fun _ _ => 0)
      case atStart => exact ⟨rfl, rfl⟩
      case round =>
        obtain ⟨rfl, rfl⟩ := hrel
        go_wp2_with fail
        generalize hw6 : World.setCell _ _ _ = w6
        have hwG : w.heap.size ≤ G := by have := hG.out; omega
        obtain ⟨r6, C6⟩ : w6.heap[G]? = some (.cells (exC op) 38 (0, 0)) ∧ Below w.heap.size w w6 := by
          subst hw6
          refine ⟨?_, ?_⟩
          · exact (blk_put (cs' := #[.int .i64 op, .string ⟨#[]⟩, .slice none 0 0, .slice none 0 0, .int .i64 0, .bool false, .bool false, .string ⟨#[]⟩, .int .i64 0, .int .u64 0, .string ⟨#[]⟩, .slice none 0 0, .slice none 0 0]) (blk_put (cs' := #[.int .i64 op, .string ⟨#[]⟩, .slice none 0 0, .slice none 0 0, .int .i64 0, .bool false, .bool false, .string ⟨#[]⟩, .int .i64 0, .int .u64 0, .string ⟨#[]⟩, .slice none 0 0, .slice none 0 0]) (blk_put (cs' := #[.int .i64 op, .string ⟨#[]⟩, .slice none 0 0, .slice none 0 0, .int .i64 0, .bool false, .bool false, .string ⟨#[]⟩, .int .i64 0, .int .u64 0, .string ⟨#[]⟩, .slice none 0 0, .slice none 0 0]) (blk_put (cs' := #[.int .i64 op, .string ⟨#[]⟩, .slice none 0 0, .slice none 0 0, .int .i64 0, .bool false, .bool false, .string ⟨#[]⟩, .int .i64 0, .int .u64 0, .string ⟨#[]⟩, .slice none 0 0, .slice none 0 0]) (blk_put (cs' := #[.int .i64 op, .string ⟨#[]⟩, .slice none 0 0, .slice none 0 0, .int .i64 0, .bool false, .bool false, .string ⟨#[]⟩, .int .i64 0, .int .u64 0, .string ⟨#[]⟩, .slice none 0 0, .slice none 0 0]) (blk_put (cs' := #[.int .i64 op, .string ⟨#[]⟩, .slice none 0 0, .slice none 0 0, .int .i64 0, .bool false, .bool false, .string ⟨#[]⟩, .int .i64 0, .int .u64 0, .string ⟨#[]⟩, .slice none 0 0, .slice none 0 0]) (blk_put (cs' := #[.int .i64 op, .string ⟨#[]⟩, .slice none 0 0, .slice none 0 0, .int .i64 0, .bool false, .bool false, .string ⟨#[]⟩, .int .i64 0, .int .u64 0, .string ⟨#[]⟩, .slice none 0 0, .slice none 0 0]) (blk_put (cs' := #[.int .i64 op, .string ⟨#[]⟩, .slice none 0 0, .slice none 0 0, .int .i64 0, .bool false, .bool false, .string ⟨#[]⟩, .int .i64 0, .int .u64 0, .string ⟨#[]⟩, .slice none 0 0, .slice none 0 0]) (blk_put (cs' := #[.int .i64 op, .string ⟨#[]⟩, .slice none 0 0, .slice none 0 0, .int .i64 0, .bool false, .bool false, .string ⟨#[]⟩, .int .i64 0, .int .u64 0, .string ⟨#[]⟩, .slice none 0 0, .slice none 0 0]) (blk_put (cs' := #[.int .i64 op, .string ⟨#[]⟩, .slice none 0 0, .slice none 0 0, .int .i64 0, .bool false, .bool false, .string ⟨#[]⟩, .int .i64 0, .int .u64 0, .string ⟨#[]⟩, .slice none 0 0, .slice none 0 0]) (blk_put (cs' := #[.int .i64 op, .string ⟨#[]⟩, .slice none 0 0, .slice none 0 0, .int .i64 0, .bool false, .bool false, .string ⟨#[]⟩, .int .i64 0, .int .u64 0, .string ⟨#[]⟩, .slice none 0 0, .slice none 0 0]) (blk_put (cs' := #[.int .i64 op, .string ⟨#[]⟩, .slice none 0 0, .slice none 0 0, .int .i64 0, .bool false, .bool false, .string ⟨#[]⟩, .int .i64 0, .int .u64 0, .string ⟨#[]⟩, .slice none 0 0, .slice none 0 0]) (blk_put (cs' := #[.int .i64 op, .string ⟨#[]⟩, .slice none 0 0, .slice none 0 0, .int .i64 0, .bool false, .bool false, .string ⟨#[]⟩, .int .i64 0, .int .u64 0, .string ⟨#[]⟩, .slice none 0 0, .slice none 0 0]) r5.out 0 _ rfl) 1 _ rfl) 2 _ rfl) 3 _ rfl) 4 _ rfl) 5 _ rfl) 6 _ rfl) 7 _ rfl) 8 _ rfl) 9 _ rfl) 10 _ rfl) 11 _ rfl) 12 _ rfl)
          · exact (below_set (below_set (below_set (below_set (below_set (below_set (below_set (below_set (below_set (below_set (below_set (below_set (below_set C5.out hwG) hwG) hwG) hwG) hwG) hwG) hwG) hwG) hwG) hwG) hwG) hwG) hwG)
        clear hw6
        obtain ⟨z0, z1, z2, z3, z4, z5, z6, z7, z8, z9, z10, z11, z12⟩ := ex_cells r6
        exact bodyPost_ret (v := .tuple #[.agg #[.int .i64 op, .string ⟨#[]⟩, .slice none 0 0, .slice none 0 0, .int .i64 0, .bool false, .bool false, .string ⟨#[]⟩, .int .i64 0, .int .u64 0, .string ⟨#[]⟩, .slice none 0 0, .slice none 0 0], .slice (some ⟨g, 0, none⟩) 0 0, .bool true]) (by simp [results, Tryz.results58, go_sem, z0, z1, z2, z3, z4, z5, z6, z7, z8, z9, z10, z11, z12]) rfl ⟨_, rfl, C6⟩
  · go_simp
    obtain ⟨N, hNe⟩ : ∃ N, w2.heap.size = N := ⟨_, rfl⟩
    generalize hwa : World.alloc w2 _ = wa
    rw [hNe]
    obtain ⟨na, ra, ba, Ba, hNG⟩ : wa.heap[N]? = some (.cells (exC 0) 38 (0, 0)) ∧ wa.heap[G]? = some (.cells (exC 0) 38 (0, 0)) ∧ wa.heap[G + 1]? = some (.cells (exC op) 73 (0, 0)) ∧ Below w.heap.size w wa ∧ G + 1 < N := by
      subst hwa hNe
      exact ⟨heap_alloc_new w2 _, blk_alloc r2.out _, blk_alloc b2.out _, below_alloc B2.out _, blk_lt b2.out⟩
    clear hwa hNe
    have hSa := Lib.hid (ex_cells ba)
    replace na := Lib.hid na
    replace ra := Lib.hid ra
    replace ba := Lib.hid ba
    replace Ba := Lib.hid Ba
    replace hNG := Lib.hid hNG
    refine hK.out _ _ hSa.out (fun hH => ?_)
    clear hK K
    try simp only [Act.put, List.setIfInBounds_toArray, List.set_cons_zero, List.set_cons_succ]
    refine anyL_one (i := 6) (o := { dst := some 31, op := Op.call { callee := Callee.value (Operand.func 25), args := #[Operand.tmp 30], argTypes := #[28] }, type := 28, pos := "code.go:41", after := #[{ on := 5, ground := Ground.data }], guard := none }) (by kernel_rfl) rfl (fun K hK => ?_)
    go_simp
    (with_reducible refine (clone_strs _).mono ?_)
    rintro e w' ⟨rfl, rfl⟩
    go_wp2_with fail
    refine hK.out _ _ hH (fun hH => ?_)
    clear hK K
    try simp only [Act.put, List.setIfInBounds_toArray, List.set_cons_zero, List.set_cons_succ]
    refine anyL_one (i := 9) (o := { dst := some 34, op := Op.call { callee := Callee.value (Operand.func 26), args := #[Operand.tmp 33], argTypes := #[36] }, type := 36, pos := "code.go:41", after := #[{ on := 8, ground := Ground.data }, { on := 6, ground := Ground.chain }], guard := none }) (by kernel_rfl) rfl (fun K hK => ?_)
    go_simp
    (with_reducible refine (hO.out _).mono ?_)
    rintro e w3 ⟨rfl, B3⟩
    have b3 := blk_below (w := wa.drew) ba.out B3
    have r3 := blk_below (w := wa.drew) ra.out B3
    have C3 := Lib.hid (below_then (w1 := wa.drew) (pw_below_drewN Ba.out 1) (pw_below_drewN Ba.out 1).size B3)
    have n3 := blk_below (w := wa.drew) na.out B3
    clear B3
    have hS3 := Lib.hid (ex_cells b3)
    have hlN := blk_lt n3
    obtain ⟨m0, m1, m2, m3, m4, m5, m6, m7, m8, m9, m10, m11, m12⟩ := ex_cells n3
    obtain ⟨k0, k1, k2, k3, k4, k5, k6, k7, k8, k9, k10, k11, k12⟩ := ex_frz n3
    replace n3 := Lib.hid n3
    replace b3 := Lib.hid b3
    replace r3 := Lib.hid r3
    go_wp2_with fail
    refine hK.out _ _ hS3.out (fun hH => ?_)
    clear hK K
    try simp only [Act.put, List.setIfInBounds_toArray, List.set_cons_zero, List.set_cons_succ]
    refine anyL_take (i := 10) (oi := { dst := some 35, op := Op.build 38 #[(0, Operand.tmp 26), (1, Operand.tmp 28), (2, Operand.tmp 31), (4, Operand.tmp 34)], type := 38, pos := "code.go:41", after := #[{ on := 1, ground := Ground.data }, { on := 3, ground := Ground.data }, { on := 6, ground := Ground.data }, { on := 9, ground := Ground.data }], guard := none }) (v := .agg #[.int .i64 op, .string ⟨#[]⟩, .slice none 0 0, .slice none 0 0, .int .i64 0, .bool false, .bool false, .string ⟨#[]⟩, .int .i64 0, .int .u64 0, .string ⟨#[]⟩, .slice none 0 0, .slice none 0 0]) rfl rfl (by kernel_rfl) (by kernel_rfl) (by kernel_rfl) (by kernel_rfl) (fun _ _ _ h => h) (Or.inl ⟨by rfl, ?hy3⟩) hH ?rest3
    case hy3 =>
      intro w hSw
      (try dsimp only at hSw)
      go_simp
    try simp only [Act.put, List.setIfInBounds_toArray, List.set_cons_zero, List.set_cons_succ]
    refine anyL_last (o := { dst := none, op := Op.store 38 (Operand.tmp 9) (Operand.tmp 35), type := 0, pos := "code.go:41", after := #[{ on := 11, ground := Ground.data }, { on := 10, ground := Ground.data }, { on := 9, ground := Ground.chain }, { on := 0, ground := Ground.phase }, { on := 1, ground := Ground.phase }, { on := 2, ground := Ground.phase }, { on := 3, ground := Ground.phase }, { on := 4, ground := Ground.phase }, { on := 5, ground := Ground.phase }, { on := 6, ground := Ground.phase }, { on := 7, ground := Ground.phase }, { on := 8, ground := Ground.phase }, { on := 9, ground := Ground.phase }, { on := 10, ground := Ground.phase }, { on := 11, ground := Ground.phase }], guard := none }) (by kernel_rfl) rfl (fun K hK => ?_)
    go_simp
    refine hK.out _ _ ?_
    clear hK K
    try simp only [Act.put, List.setIfInBounds_toArray, List.set_cons_zero, List.set_cons_succ]
    refine anyL_done (by kernel_rfl) ?_ _
    generalize hw5 : World.setCell _ _ _ = w5
    have hGN : G ≠ N := by have := hNG.out; omega
    have hGN1 : G + 1 ≠ N := by have := hNG.out; omega
    have hwN : w.heap.size ≤ N := by have := hNG.out; have := hG.out; omega
    obtain ⟨n5, r5, b5, C5, hN⟩ : w5.heap[N]? = some (.cells (exC op) 38 (0, 0)) ∧ w5.heap[G]? = some (.cells (exC 0) 38 (0, 0)) ∧ w5.heap[G + 1]? = some (.cells (exC op) 73 (0, 0)) ∧ Below w.heap.size w w5 ∧ G + 1 < N := by
      subst hw5
      refine ⟨?_, ?_, ?_, ?_, hNG.out⟩
      · exact (blk_put (cs' := #[.int .i64 op, .string ⟨#[]⟩, .slice none 0 0, .slice none 0 0, .int .i64 0, .bool false, .bool false, .string ⟨#[]⟩, .int .i64 0, .int .u64 0, .string ⟨#[]⟩, .slice none 0 0, .slice none 0 0]) (blk_put (cs' := #[.int .i64 op, .string ⟨#[]⟩, .slice none 0 0, .slice none 0 0, .int .i64 0, .bool false, .bool false, .string ⟨#[]⟩, .int .i64 0, .int .u64 0, .string ⟨#[]⟩, .slice none 0 0, .slice none 0 0]) (blk_put (cs' := #[.int .i64 op, .string ⟨#[]⟩, .slice none 0 0, .slice none 0 0, .int .i64 0, .bool false, .bool false, .string ⟨#[]⟩, .int .i64 0, .int .u64 0, .string ⟨#[]⟩, .slice none 0 0, .slice none 0 0]) (blk_put (cs' := #[.int .i64 op, .string ⟨#[]⟩, .slice none 0 0, .slice none 0 0, .int .i64 0, .bool false, .bool false, .string ⟨#[]⟩, .int .i64 0, .int .u64 0, .string ⟨#[]⟩, .slice none 0 0, .slice none 0 0]) (blk_put (cs' := #[.int .i64 op, .string ⟨#[]⟩, .slice none 0 0, .slice none 0 0, .int .i64 0, .bool false, .bool false, .string ⟨#[]⟩, .int .i64 0, .int .u64 0, .string ⟨#[]⟩, .slice none 0 0, .slice none 0 0]) (blk_put (cs' := #[.int .i64 op, .string ⟨#[]⟩, .slice none 0 0, .slice none 0 0, .int .i64 0, .bool false, .bool false, .string ⟨#[]⟩, .int .i64 0, .int .u64 0, .string ⟨#[]⟩, .slice none 0 0, .slice none 0 0]) (blk_put (cs' := #[.int .i64 op, .string ⟨#[]⟩, .slice none 0 0, .slice none 0 0, .int .i64 0, .bool false, .bool false, .string ⟨#[]⟩, .int .i64 0, .int .u64 0, .string ⟨#[]⟩, .slice none 0 0, .slice none 0 0]) (blk_put (cs' := #[.int .i64 op, .string ⟨#[]⟩, .slice none 0 0, .slice none 0 0, .int .i64 0, .bool false, .bool false, .string ⟨#[]⟩, .int .i64 0, .int .u64 0, .string ⟨#[]⟩, .slice none 0 0, .slice none 0 0]) (blk_put (cs' := #[.int .i64 op, .string ⟨#[]⟩, .slice none 0 0, .slice none 0 0, .int .i64 0, .bool false, .bool false, .string ⟨#[]⟩, .int .i64 0, .int .u64 0, .string ⟨#[]⟩, .slice none 0 0, .slice none 0 0]) (blk_put (cs' := #[.int .i64 op, .string ⟨#[]⟩, .slice none 0 0, .slice none 0 0, .int .i64 0, .bool false, .bool false, .string ⟨#[]⟩, .int .i64 0, .int .u64 0, .string ⟨#[]⟩, .slice none 0 0, .slice none 0 0]) (blk_put (cs' := #[.int .i64 op, .string ⟨#[]⟩, .slice none 0 0, .slice none 0 0, .int .i64 0, .bool false, .bool false, .string ⟨#[]⟩, .int .i64 0, .int .u64 0, .string ⟨#[]⟩, .slice none 0 0, .slice none 0 0]) (blk_put (cs' := #[.int .i64 op, .string ⟨#[]⟩, .slice none 0 0, .slice none 0 0, .int .i64 0, .bool false, .bool false, .string ⟨#[]⟩, .int .i64 0, .int .u64 0, .string ⟨#[]⟩, .slice none 0 0, .slice none 0 0]) (blk_put (cs' := #[.int .i64 op, .string ⟨#[]⟩, .slice none 0 0, .slice none 0 0, .int .i64 0, .bool false, .bool false, .string ⟨#[]⟩, .int .i64 0, .int .u64 0, .string ⟨#[]⟩, .slice none 0 0, .slice none 0 0]) n3.out 0 _ rfl) 1 _ rfl) 2 _ rfl) 3 _ rfl) 4 _ rfl) 5 _ rfl) 6 _ rfl) 7 _ rfl) 8 _ rfl) 9 _ rfl) 10 _ rfl) 11 _ rfl) 12 _ rfl)
      · exact (blk_far (p := ⟨N, 12, none⟩) (blk_far (p := ⟨N, 11, none⟩) (blk_far (p := ⟨N, 10, none⟩) (blk_far (p := ⟨N, 9, none⟩) (blk_far (p := ⟨N, 8, none⟩) (blk_far (p := ⟨N, 7, none⟩) (blk_far (p := ⟨N, 6, none⟩) (blk_far (p := ⟨N, 5, none⟩) (blk_far (p := ⟨N, 4, none⟩) (blk_far (p := ⟨N, 3, none⟩) (blk_far (p := ⟨N, 2, none⟩) (blk_far (p := ⟨N, 1, none⟩) (blk_far (p := ⟨N, 0, none⟩) r3.out hGN _) hGN _) hGN _) hGN _) hGN _) hGN _) hGN _) hGN _) hGN _) hGN _) hGN _) hGN _) hGN _)
      · exact (blk_far (p := ⟨N, 12, none⟩) (blk_far (p := ⟨N, 11, none⟩) (blk_far (p := ⟨N, 10, none⟩) (blk_far (p := ⟨N, 9, none⟩) (blk_far (p := ⟨N, 8, none⟩) (blk_far (p := ⟨N, 7, none⟩) (blk_far (p := ⟨N, 6, none⟩) (blk_far (p := ⟨N, 5, none⟩) (blk_far (p := ⟨N, 4, none⟩) (blk_far (p := ⟨N, 3, none⟩) (blk_far (p := ⟨N, 2, none⟩) (blk_far (p := ⟨N, 1, none⟩) (blk_far (p := ⟨N, 0, none⟩) b3.out hGN1 _) hGN1 _) hGN1 _) hGN1 _) hGN1 _) hGN1 _) hGN1 _) hGN1 _) hGN1 _) hGN1 _) hGN1 _) hGN1 _) hGN1 _)
      · exact (below_set (below_set (below_set (below_set (below_set (below_set (below_set (below_set (below_set (below_set (below_set (below_set (below_set C3.out hwN) hwN) hwN) hwN) hwN) hwN) hwN) hwN) hwN) hwN) hwN) hwN) hwN)
    clear hw5 hS3 b3 r3 n3 C3 hH hS2 b2 r2 B2 hSa ba ra na Ba hNG hGN hGN1 hwN m0 m1 m2 m3 m4 m5 m6 m7 m8 m9 m10 m11 m12 k0 k1 k2 k3 k4 k5 k6 k7 k8 k9 k10 k11 k12
    obtain ⟨e0, e1, e2, e3, e4, e5, e6, e7, e8, e9, e10, e11, e12⟩ := ex_cells b5
    obtain ⟨p0, p1, p2, p3, p4, p5, p6, p7, p8, p9, p10, p11, p12⟩ := ex_cells n5
    obtain ⟨q0, q1, q2, q3, q4, q5, q6, q7, q8, q9, q10, q11, q12⟩ := ex_cells r5
    obtain ⟨t0, t1, t2, t3, t4, t5, t6, t7, t8, t9, t10, t11, t12⟩ := ex_frz r5
    have hl5 := blk_lt r5
    have hne5 : N ≠ G := by omega
    replace b5 := Lib.hid b5
    replace n5 := Lib.hid n5
    replace r5 := Lib.hid r5
    replace C5 := Lib.hid C5
    replace hN := Lib.hid hN
    go_wp2_with fail
    go_loop [8, 43] (fun u v => u = .slice (some ⟨g, 0, none⟩) 0 0 ∧ v = .int .i64 0) (fun _ _ => 0)
    case atStart => exact ⟨rfl, rfl⟩
    case round =>
      obtain ⟨rfl, rfl⟩ := hrel
      go_wp2_with fail
      generalize hw6 : World.setCell _ _ _ = w6
      have hwG : w.heap.size ≤ G := by have := hG.out; omega
      obtain ⟨r6, C6⟩ : w6.heap[G]? = some (.cells (exC op) 38 (0, 0)) ∧ Below w.heap.size w w6 := by
        subst hw6
        refine ⟨?_, ?_⟩
        · exact (blk_put (cs' := #[.int .i64 op, .string ⟨#[]⟩, .slice none 0 0, .slice none 0 0, .int .i64 0, .bool false, .bool false, .string ⟨#[]⟩, .int .i64 0, .int .u64 0, .string ⟨#[]⟩, .slice none 0 0, .slice none 0 0]) (blk_put (cs' := #[.int .i64 op, .string ⟨#[]⟩, .slice none 0 0, .slice none 0 0, .int .i64 0, .bool false, .bool false, .string ⟨#[]⟩, .int .i64 0, .int .u64 0, .string ⟨#[]⟩, .slice none 0 0, .slice none 0 0]) (blk_put (cs' := #[.int .i64 op, .string ⟨#[]⟩, .slice none 0 0, .slice none 0 0, .int .i64 0, .bool false, .bool false, .string ⟨#[]⟩, .int .i64 0, .int .u64 0, .string ⟨#[]⟩, .slice none 0 0, .slice none 0 0]) (blk_put (cs' := #[.int .i64 op, .string ⟨#[]⟩, .slice none 0 0, .slice none 0 0, .int .i64 0, .bool false, .bool false, .string ⟨#[]⟩, .int .i64 0, .int .u64 0, .string ⟨#[]⟩, .slice none 0 0, .slice none 0 0]) (blk_put (cs' := #[.int .i64 op, .string ⟨#[]⟩, .slice none 0 0, .slice none 0 0, .int .i64 0, .bool false, .bool false, .string ⟨#[]⟩, .int .i64 0, .int .u64 0, .string ⟨#[]⟩, .slice none 0 0, .slice none 0 0]) (blk_put (cs' := #[.int .i64 op, .string ⟨#[]⟩, .slice none 0 0, .slice none 0 0, .int .i64 0, .bool false, .bool false, .string ⟨#[]⟩, .int .i64 0, .int .u64 0, .string ⟨#[]⟩, .slice none 0 0, .slice none 0 0]) (blk_put (cs' := #[.int .i64 op, .string ⟨#[]⟩, .slice none 0 0, .slice none 0 0, .int .i64 0, .bool false, .bool false, .string ⟨#[]⟩, .int .i64 0, .int .u64 0, .string ⟨#[]⟩, .slice none 0 0, .slice none 0 0]) (blk_put (cs' := #[.int .i64 op, .string ⟨#[]⟩, .slice none 0 0, .slice none 0 0, .int .i64 0, .bool false, .bool false, .string ⟨#[]⟩, .int .i64 0, .int .u64 0, .string ⟨#[]⟩, .slice none 0 0, .slice none 0 0]) (blk_put (cs' := #[.int .i64 op, .string ⟨#[]⟩, .slice none 0 0, .slice none 0 0, .int .i64 0, .bool false, .bool false, .string ⟨#[]⟩, .int .i64 0, .int .u64 0, .string ⟨#[]⟩, .slice none 0 0, .slice none 0 0]) (blk_put (cs' := #[.int .i64 op, .string ⟨#[]⟩, .slice none 0 0, .slice none 0 0, .int .i64 0, .bool false, .bool false, .string ⟨#[]⟩, .int .i64 0, .int .u64 0, .string ⟨#[]⟩, .slice none 0 0, .slice none 0 0]) (blk_put (cs' := #[.int .i64 op, .string ⟨#[]⟩, .slice none 0 0, .slice none 0 0, .int .i64 0, .bool false, .bool false, .string ⟨#[]⟩, .int .i64 0, .int .u64 0, .string ⟨#[]⟩, .slice none 0 0, .slice none 0 0]) (blk_put (cs' := #[.int .i64 op, .string ⟨#[]⟩, .slice none 0 0, .slice none 0 0, .int .i64 0, .bool false, .bool false, .string ⟨#[]⟩, .int .i64 0, .int .u64 0, .string ⟨#[]⟩, .slice none 0 0, .slice none 0 0]) (blk_put (cs' := #[.int .i64 op, .string ⟨#[]⟩, .slice none 0 0, .slice none 0 0, .int .i64 0, .bool false, .bool false, .string ⟨#[]⟩, .int .i64 0, .int .u64 0, .string ⟨#[]⟩, .slice none 0 0, .slice none 0 0]) r5.out 0 _ rfl) 1 _ rfl) 2 _ rfl) 3 _ rfl) 4 _ rfl) 5 _ rfl) 6 _ rfl) 7 _ rfl) 8 _ rfl) 9 _ rfl) 10 _ rfl) 11 _ rfl) 12 _ rfl)
        · exact (below_set (below_set (below_set (below_set (below_set (below_set (below_set (below_set (below_set (below_set (below_set (below_set (below_set C5.out hwG) hwG) hwG) hwG) hwG) hwG) hwG) hwG) hwG) hwG) hwG) hwG) hwG)
      clear hw6
      obtain ⟨z0, z1, z2, z3, z4, z5, z6, z7, z8, z9, z10, z11, z12⟩ := ex_cells r6
      exact bodyPost_ret (v := .tuple #[.agg #[.int .i64 op, .string ⟨#[]⟩, .slice none 0 0, .slice none 0 0, .int .i64 0, .bool false, .bool false, .string ⟨#[]⟩, .int .i64 0, .int .u64 0, .string ⟨#[]⟩, .slice none 0 0, .slice none 0 0], .slice (some ⟨g, 0, none⟩) 0 0, .bool true]) (by simp [results, Tryz.results58, go_sem, z0, z1, z2, z3, z4, z5, z6, z7, z8, z9, z10, z11, z12]) rfl ⟨_, rfl, C6⟩
end Go.Proofs.YtcpgcjmamjjokaaGreatDoor
