/- The reference: Of. -/
import Derived.Test.YtocmmdheegkbaaaDoorRa
namespace Go.Proofs.YtocmmdheegkbaaaDoor
open Go.RowKit Go.Proofs.YtocmmdheegkbaaaDoorW.PrintWords Go.Proofs.YtocmmdheegkbaaaDoorW.PrintMore
set_option pp.maxSteps 100000
set_option linter.unusedVariables false
set_option linter.unusedSimpArgs false

theorem alloc2 (w : World) (o o' : Obj) : ((w.alloc o).alloc o').heap[w.heap.size + 1]? = some o' := by
  have h := heap_alloc_new (w.alloc o) o'
  rw [show (w.alloc o).heap.size = w.heap.size + 1 from Array.size_push _] at h
  exact h
theorem u64_small (n : Nat) (h : n < 18446744073709551616) : IntKind.u64.wrap (n : Int) = (n : Int) := by rw [IntKind.wrap_u64]; omega
set_option maxHeartbeats 500000 in
set_option maxRecDepth 100000 in
theorem Of_any (b eb fb pe pf : Nat) (hb : b < 18446744073709551616) (he : eb < 64) (hf : fb < 64) (hpe : 2 ^ eb = pe) (hpf : 2 ^ fb = pf) (w : World) :
    Calls Tryd.prog 24 #[.int .u64 (b : Int), .int .i64 (eb : Int), .int .i64 (fb : Int)] w fun e w' => e = .returned (.agg #[.bool (b / pf / pe % 2 == 1), .int .i64 ((b / pf % pe : Nat) : Int), .int .u64 ((b % pf : Nat) : Int), .int .i64 (eb : Int), .int .i64 (fb : Int)]) ∧ Below w.heap.size w w' := by
  have hpf1 : 1 ≤ pf := by rw [← hpf]; exact Nat.one_le_two_pow
  have hpe1 : 1 ≤ pe := by rw [← hpe]; exact Nat.one_le_two_pow
  have Hf := Aside0.mk hpf
  have He := Aside0.mk hpe
  clear hpf hpe
  go_enter Tryd.func24, Tryd.ntmps24
  have hzf : ((pf : Int) == 0) = false := beq_eq_false_iff_ne.mpr (by omega)
  have hze : ((pe : Int) == 0) = false := beq_eq_false_iff_ne.mpr (by omega)
  go_wp2_with fail
  refine (power_any fb pf hf Hf.out _).mono ?_
  rintro e w1 ⟨rfl, ⟨m, rfl⟩⟩
  obtain ⟨G, hG⟩ : ∃ G, G = w.heap.size + 1 := ⟨_, rfl⟩
  obtain ⟨G0, hG0⟩ : ∃ G0, G0 = w.heap.size := ⟨_, rfl⟩
  generalize hw1 : World.drewN _ m = w1
  have BK1 : w1.heap[G]? = some (.cells #[.bool false, .int .i64 0, .int .u64 0, .int .i64 (eb : Int), .int .i64 (fb : Int)] 46 (0, 0)) := by
    subst hw1 hG
    refine blk_drewN ?_ _
    exact alloc2 _ _ _
  have BZ1 : w1.heap[G0]? = some (.cells #[.bool false, .int .i64 0, .int .u64 0, .int .i64 0, .int .i64 0] 46 (0, 0)) := by
    subst hw1 hG0
    refine blk_drewN ?_ _
    refine blk_alloc ?_ _
    exact heap_alloc_new _ _
  have HB1 : Below w.heap.size w w1 := by
    subst hw1
    exact pw_below_drewN (below_alloc (below_alloc (Below.refl _ _) _) _) _
  rw [← hG, ← hG0]
  clear hw1
  have c2 := (blk_cell BK1 2).trans rfl
  have f2 := blk_frozen BK1 2
  have hGe : w.heap.size ≤ G := by omega
  have hGe0 : w.heap.size ≤ G0 := by omega
  have hne : G0 ≠ G := by omega
  have hGe0' := Lib.hid hGe0
  have hGe' := Lib.hid hGe
  have hne' := Lib.hid hne
  clear hG hG0 hGe0 hGe
  have BK2 := blk_put (cs' := #[.bool false, .int .i64 0, .int .u64 ((b % pf : Nat) : Int), .int .i64 (eb : Int), .int .i64 (fb : Int)]) BK1 2 (.int .u64 ((b % pf : Nat) : Int)) rfl
  have BZ2 := blk_far BZ1 (p := ⟨G, 2, none⟩) hne (.int .u64 ((b % pf : Nat) : Int))
  have HB2 := below_set HB1 hGe'.out (j := 2) (v := .int .u64 ((b % pf : Nat) : Int))
  rw [Int.natCast_emod] at HB2 BK2 BZ2
  replace HB2 := Lib.hid HB2
  replace BK2 := Lib.hid BK2
  replace BZ2 := Lib.hid BZ2
  clear HB1 BK1 BZ1 hne
  go_wp2_with fail
  refine (power_any fb pf hf Hf.out _).mono ?_
  rintro e w2 ⟨rfl, ⟨m2, rfl⟩⟩
  replace BK2 := blk_drewN BK2.out m2
  replace BZ2 := blk_drewN BZ2.out m2
  replace HB2 := pw_below_drewN HB2.out m2
  generalize World.drewN _ m2 = w2 at BK2 HB2 BZ2 ⊢
  clear c2 f2
  have c1 := (blk_cell BK2 1).trans rfl
  have f1 := blk_frozen BK2 1
  replace HB2 := Lib.hid HB2
  replace BK2 := Lib.hid BK2
  replace BZ2 := Lib.hid BZ2
  go_wp2_with fail
  obtain ⟨q, hq⟩ : ∃ q, b / pf = q := ⟨_, rfl⟩
  have hqb : q < 18446744073709551616 := by rw [← hq]; exact Nat.lt_of_le_of_lt (Nat.div_le_self _ _) hb
  have hwq : IntKind.u64.wrap ((b : Int) / (pf : Int)) = (q : Int) := by rw [← hq, ← Int.natCast_ediv]; exact u64_small _ (by rw [hq]; exact hqb)
  rw [hwq]
  clear hwq
  replace hq := Lib.hid hq
  have hmp : q % pe < pe := Nat.mod_lt _ (by omega)
  have hpe63 : pe ≤ 9223372036854775808 := by
    rw [← He.out]; exact Nat.le_trans (Nat.pow_le_pow_right (by decide) (show eb ≤ 63 by omega)) (by decide)
  refine (power_any eb pe he He.out _).mono ?_
  rintro e w3 ⟨rfl, ⟨m3, rfl⟩⟩
  replace BK2 := blk_drewN BK2.out m3
  replace BZ2 := blk_drewN BZ2.out m3
  replace HB2 := pw_below_drewN HB2.out m3
  generalize World.drewN _ m3 = w3 at BK2 HB2 BZ2 ⊢
  clear c1 f1
  have c1 := (blk_cell BK2 1).trans rfl
  have f1 := blk_frozen BK2 1
  have BK3 := blk_put (cs' := #[.bool false, .int .i64 ((q % pe : Nat) : Int), .int .u64 ((b : Int) % (pf : Int)), .int .i64 (eb : Int), .int .i64 (fb : Int)]) BK2 1 (.int .i64 ((q % pe : Nat) : Int)) rfl
  have BZ3 := blk_far BZ2 (p := ⟨G, 1, none⟩) hne'.out (.int .i64 ((q % pe : Nat) : Int))
  have HB3 := below_set HB2 hGe'.out (j := 1) (v := .int .i64 ((q % pe : Nat) : Int))
  replace HB3 := Lib.hid HB3
  replace BK3 := Lib.hid BK3
  replace BZ3 := Lib.hid BZ3
  clear HB2 BK2 BZ2
  have hcv : wrap64 ((q : Int) % (pe : Int)) = ((q % pe : Nat) : Int) := by
    rw [← Int.natCast_emod]; unfold wrap64; omega
  have hsmall : ((q : Int) % (pe : Int)) = ((q % pe : Nat) : Int) := (Int.natCast_emod q pe).symm
  obtain ⟨r, hr⟩ : ∃ r, q % pe = r := ⟨_, rfl⟩
  rw [hr] at hmp hcv hsmall BK3 BZ3 HB3
  replace hr := Lib.hid hr
  go_wp2_with fail
  refine (power_any eb pe he He.out _).mono ?_
  rintro e w4 ⟨rfl, ⟨m4, rfl⟩⟩
  replace BK3 := blk_drewN BK3.out m4
  replace BZ3 := blk_drewN BZ3.out m4
  replace HB3 := pw_below_drewN HB3.out m4
  generalize World.drewN _ m4 = w4 at BK3 HB3 BZ3 ⊢
  clear c1 f1 hcv hsmall hmp
  have c0 := (blk_cell BK3 0).trans rfl
  have f0 := blk_frozen BK3 0
  have c1 := (blk_cell BK3 1).trans rfl
  have f1 := blk_frozen BK3 1
  have c2 := (blk_cell BK3 2).trans rfl
  have f2 := blk_frozen BK3 2
  have c3 := (blk_cell BK3 3).trans rfl
  have f3 := blk_frozen BK3 3
  have c4 := (blk_cell BK3 4).trans rfl
  have f4 := blk_frozen BK3 4
  have z0 := (blk_cell BZ3 0).trans rfl
  have y0 := blk_frozen BZ3 0
  have z1 := (blk_cell BZ3 1).trans rfl
  have y1 := blk_frozen BZ3 1
  have z2 := (blk_cell BZ3 2).trans rfl
  have y2 := blk_frozen BZ3 2
  have z3 := (blk_cell BZ3 3).trans rfl
  have y3 := blk_frozen BZ3 3
  have z4 := (blk_cell BZ3 4).trans rfl
  have y4 := blk_frozen BZ3 4
  have hn1 := hne'.out
  have hn2 : G ≠ G0 := fun h => hn1 h.symm
  replace HB3 := Lib.hid HB3
  replace BK3 := Lib.hid BK3
  replace BZ3 := Lib.hid BZ3
  obtain ⟨t, ht⟩ : ∃ t, q / pe = t := ⟨_, rfl⟩
  have htb : t < 18446744073709551616 := by rw [← ht]; exact Nat.lt_of_le_of_lt (Nat.div_le_self _ _) hqb
  have hwq : IntKind.u64.wrap ((q : Int) / (pe : Int)) = (t : Int) := by rw [← ht, ← Int.natCast_ediv]; exact u64_small _ (by rw [ht]; exact htb)
  replace ht := Lib.hid ht
  obtain ⟨sg, hsg⟩ : ∃ sg : Bool, ((t : Int) % 2 == 1) = sg := ⟨_, rfl⟩
  go_wp2_with fail
  have BZ4 := blk_far BZ3.out (p := ⟨G, 0, none⟩) hn1 (.bool sg)
  have HB4 := below_set HB3.out hGe'.out (j := 0) (v := .bool sg)
  have BZ5 := blk_put (cs' := #[.bool sg, .int .i64 0, .int .u64 0, .int .i64 0, .int .i64 0]) BZ4 0 (.bool sg) rfl
  have HB5 := below_set HB4 hGe0'.out (j := 0) (v := .bool sg)
  have BZ6 := blk_put (cs' := #[.bool sg, .int .i64 (r : Int), .int .u64 0, .int .i64 0, .int .i64 0]) BZ5 1 (.int .i64 (r : Int)) rfl
  have HB6 := below_set HB5 hGe0'.out (j := 1) (v := .int .i64 (r : Int))
  have BZ7 := blk_put (cs' := #[.bool sg, .int .i64 (r : Int), .int .u64 ((b : Int) % (pf : Int)), .int .i64 0, .int .i64 0]) BZ6 2 (.int .u64 ((b : Int) % (pf : Int))) rfl
  have HB7 := below_set HB6 hGe0'.out (j := 2) (v := .int .u64 ((b : Int) % (pf : Int)))
  have BZ8 := blk_put (cs' := #[.bool sg, .int .i64 (r : Int), .int .u64 ((b : Int) % (pf : Int)), .int .i64 (eb : Int), .int .i64 0]) BZ7 3 (.int .i64 (eb : Int)) rfl
  have HB8 := below_set HB7 hGe0'.out (j := 3) (v := .int .i64 (eb : Int))
  have BZ9 := blk_put (cs' := #[.bool sg, .int .i64 (r : Int), .int .u64 ((b : Int) % (pf : Int)), .int .i64 (eb : Int), .int .i64 (fb : Int)]) BZ8 4 (.int .i64 (fb : Int)) rfl
  have HB9 := below_set HB8 hGe0'.out (j := 4) (v := .int .i64 (fb : Int))
  refine bodyPost_ret (results_cell_row rfl _ _ G0 46 #[.bool sg, .int .i64 (r : Int), .int .u64 ((b : Int) % (pf : Int)), .int .i64 (eb : Int), .int .i64 (fb : Int)] (0, 0) _ rfl BZ9 Tryd.underlying46 rfl (by kernel_rfl)) rfl ?_
  refine ⟨?_, HB9⟩
  have e1 : b / pf % pe = r := by rw [hq.out]; exact hr.out
  have e2 : (b / pf / pe % 2 == 1) = sg := by
    rw [hq.out, ht.out, ← hsg, Bool.eq_iff_iff, beq_iff_eq, beq_iff_eq]
    omega
  rw [e1, e2, Int.natCast_emod]
end Go.Proofs.YtocmmdheegkbaaaDoor
