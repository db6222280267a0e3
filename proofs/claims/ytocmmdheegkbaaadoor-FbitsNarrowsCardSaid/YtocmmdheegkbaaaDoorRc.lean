/- The reference: ones, Class, bits. -/
import Derived.Test.YtocmmdheegkbaaaDoorRb
namespace Go.Proofs.YtocmmdheegkbaaaDoor
open Go.RowKit Go.Proofs.YtocmmdheegkbaaaDoorW.PrintWords Go.Proofs.YtocmmdheegkbaaaDoorW.PrintMore
set_option linter.unusedVariables false
set_option linter.unusedSimpArgs false

/-- A Float. -/
def flt (s : Bool) (e f eb fb : Nat) : Value := .agg #[.bool s, .int .i64 (e : Int), .int .u64 (f : Int), .int .i64 (eb : Int), .int .i64 (fb : Int)]
set_option maxHeartbeats 500000 in
set_option maxRecDepth 100000 in
theorem ones_any (s : Bool) (e f eb fb pe : Nat) (he : eb < 64) (hpe : 2 ^ eb = pe) (hel : e < pe) (w : World) :
    Calls Tryd.prog 41 #[flt s e f eb fb] w fun r w' => r = .returned (.bool (decide (e = pe - 1))) ∧ Below w.heap.size w w' := by
  have hpe1 : 1 ≤ pe := by rw [← hpe]; exact Nat.one_le_two_pow
  have hpe63 : pe ≤ 9223372036854775808 := by
    rw [← hpe]; exact Nat.le_trans (Nat.pow_le_pow_right (by decide) (show eb ≤ 63 by omega)) (by decide)
  have He := Aside0.mk hpe
  clear hpe
  obtain ⟨o, ho⟩ : ∃ o : Bool, (((e : Int) == ((pe - 1 : Nat) : Int))) = o := ⟨_, rfl⟩
  have ho2 : decide (e = pe - 1) = o := by
    rw [← ho, Bool.eq_iff_iff, beq_iff_eq, decide_eq_true_iff]; omega
  rw [ho2]
  clear ho2
  obtain ⟨p1, hp1⟩ : ∃ p1, pe - 1 = p1 := ⟨_, rfl⟩
  have hw1 : IntKind.u64.wrap ((pe : Int) - 1) = (p1 : Int) := by rw [IntKind.wrap_u64]; omega
  have hw2 : IntKind.u64.wrap (e : Int) = (e : Int) := u64_small _ (by omega)
  rw [hp1] at ho
  unfold flt
  go_enter Tryd.func41, Tryd.ntmps41
  go_wp2_with fail
  generalize hw1' : World.alloc w _ = w1
  have BK1 : w1.heap[w.heap.size]? = some (.cells #[.bool s, .int .i64 (e : Int), .int .u64 (f : Int), .int .i64 (eb : Int), .int .i64 (fb : Int)] 46 (0, 0)) := by
    subst hw1'
    exact heap_alloc_new _ _
  have HB1 : Below w.heap.size w w1 := by
    subst hw1'
    exact below_alloc (Below.refl _ _) _
  clear hw1'
  have c1 : w1.cell? ⟨w.heap.size, 1, none⟩ = some (.int .i64 (e : Int)) := (blk_cell BK1 1).trans rfl
  have c3 : w1.cell? ⟨w.heap.size, 3, none⟩ = some (.int .i64 (eb : Int)) := (blk_cell BK1 3).trans rfl
  replace BK1 := Lib.hid BK1
  replace HB1 := Lib.hid HB1
  go_quiet (first | (go_at_call 38; (with_reducible refine (power_any eb pe he He.out _).mono ?_); rintro r w' ⟨rfl, ⟨nd, rfl⟩⟩; (try first | exact ⟨rfl, _, World.drewN_drewN _ _ _⟩ | exact ⟨rfl, _, Eq.trans (World.drewN_drewN _ _ _) (congrArg (World.drewN _) (Nat.add_assoc _ _ _))⟩)))
  go_wp2_with fail
  go_ret
  exact ⟨rfl, pw_below_drewN HB1.out _⟩

def clsF (pe e f : Nat) : Nat := if decide (e = pe - 1) = true then (if f = 0 then 4 else 5) else if e = 0 then (if f = 0 then 1 else 2) else 3
set_option maxHeartbeats 500000 in
set_option maxRecDepth 100000 in
theorem Class_ref (s : Bool) (e f eb fb pe : Nat) (he : eb < 64) (hpe : 2 ^ eb = pe) (hel : e < pe) (w : World) :
    Calls Tryd.prog 32 #[flt s e f eb fb] w fun r w' => r = .returned (.int .i64 (clsF pe e f : Nat)) ∧ Below w.heap.size w w' := by
  have hO := fun (w : World) => ones_any s e f eb fb pe he hpe hel w
  unfold clsF
  unfold flt at hO ⊢
  generalize decide (e = pe - 1) = o at hO ⊢
  go_enter Tryd.func32, Tryd.ntmps32
  go_wp2_with fail
  generalize hw1' : World.alloc w _ = w1
  have BK1 : w1.heap[w.heap.size]? = some (.cells #[.bool s, .int .i64 (e : Int), .int .u64 (f : Int), .int .i64 (eb : Int), .int .i64 (fb : Int)] 46 (0, 0)) := by
    subst hw1'
    exact heap_alloc_new _ _
  have HB1 : Below w.heap.size w w1 := by
    subst hw1'
    exact below_alloc (Below.refl _ _) _
  clear hw1'
  refine (hO w1).mono ?_
  rintro r w2 ⟨rfl, hB2⟩
  have BK2 := blk_below BK1 hB2
  have HB2 := below_then HB1 HB1.size hB2
  clear hB2 BK1 HB1
  have c0 : w2.cell? ⟨w.heap.size, 0, none⟩ = some (.bool s) := (blk_cell BK2 0).trans rfl
  have c1 : w2.cell? ⟨w.heap.size, 1, none⟩ = some (.int .i64 (e : Int)) := (blk_cell BK2 1).trans rfl
  have c2 : w2.cell? ⟨w.heap.size, 2, none⟩ = some (.int .u64 (f : Int)) := (blk_cell BK2 2).trans rfl
  have c3 : w2.cell? ⟨w.heap.size, 3, none⟩ = some (.int .i64 (eb : Int)) := (blk_cell BK2 3).trans rfl
  have c4 : w2.cell? ⟨w.heap.size, 4, none⟩ = some (.int .i64 (fb : Int)) := (blk_cell BK2 4).trans rfl
  replace BK2 := Lib.hid BK2
  replace HB2 := Lib.hid HB2
  cases o with
  | true =>
    by_cases hf : f = 0
    · subst hf
      go_wp2_with fail
      go_ret
      exact ⟨by simp [*], HB2.out⟩
    · have hf' : ((f : Int) == 0) = false := beq_eq_false_iff_ne.mpr (by omega)
      go_wp2_with fail
      refine (hO w2).mono ?_
      rintro r w3 ⟨rfl, hB3⟩
      have HB3 := below_then HB2.out HB2.out.size hB3
      replace HB3 := Lib.hid HB3
      clear hB3
      go_wp2_with fail
      go_ret
      exact ⟨by simp [*], HB3.out⟩
  | false =>
    go_wp2_with fail
    refine (hO w2).mono ?_
    rintro r w3 ⟨rfl, hB3⟩
    have HB3 := below_then HB2.out HB2.out.size hB3
    have BK3 := blk_below BK2.out hB3
    clear hB3 c0 c1 c2 c3 c4
    have c0 : w3.cell? ⟨w.heap.size, 0, none⟩ = some (.bool s) := (blk_cell BK3 0).trans rfl
    have c1 : w3.cell? ⟨w.heap.size, 1, none⟩ = some (.int .i64 (e : Int)) := (blk_cell BK3 1).trans rfl
    have c2 : w3.cell? ⟨w.heap.size, 2, none⟩ = some (.int .u64 (f : Int)) := (blk_cell BK3 2).trans rfl
    have c3 : w3.cell? ⟨w.heap.size, 3, none⟩ = some (.int .i64 (eb : Int)) := (blk_cell BK3 3).trans rfl
    have c4 : w3.cell? ⟨w.heap.size, 4, none⟩ = some (.int .i64 (fb : Int)) := (blk_cell BK3 4).trans rfl
    replace BK3 := Lib.hid BK3
    replace HB3 := Lib.hid HB3
    by_cases he0 : e = 0
    · subst he0
      by_cases hf : f = 0
      · subst hf
        go_wp2_with fail
        go_ret
        exact ⟨by simp [*], HB3.out⟩
      · have hf' : ((f : Int) == 0) = false := beq_eq_false_iff_ne.mpr (by omega)
        go_wp2_with fail
        go_ret
        exact ⟨by simp [*], HB3.out⟩
    · have he' : ((e : Int) == 0) = false := beq_eq_false_iff_ne.mpr (by omega)
      go_wp2_with fail
      go_ret
      exact ⟨by simp [*], HB3.out⟩
end Go.Proofs.YtocmmdheegkbaaaDoor
