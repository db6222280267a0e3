/- The reference: Narrow. -/
import Derived.Test.YtocmmdheegkbaaaDoorRn
import Derived.Test.YtocmmdheegkbaaaDoorRf
namespace Go.Proofs.YtocmmdheegkbaaaDoor
open Go.RowKit Go.Proofs.YtocmmdheegkbaaaDoorW.PrintWords Go.Proofs.YtocmmdheegkbaaaDoorW.PrintMore
set_option linter.unusedVariables false
set_option linter.unusedSimpArgs false
set_option maxHeartbeats 800000 in
set_option maxRecDepth 100000 in
theorem refNarrow_any (b : Nat) (hb : b < 18446744073709551616) (w : World) (N : Nat × Nat) (hN : Nar b = N) :
    Calls Tryd.prog 15 #[.int .u64 (b : Int)] w fun r' w' => r' = .returned (.tuple #[.int .i64 N.1, .int .u64 N.2]) ∧ Below w.heap.size w w' := by
  have k1 := fun w => tries16 b hb w
  have k2 := fun w => refWiden16_any (I16 b) (I16_lt b) w
  have k3 := fun w => tries32 b hb w
  have k4 := fun w => refWiden32_any (I32 b) (I32_lt b) w
  have hN2 : N = if W16 (I16 b) = b then (16, I16 b) else if W32 (I32 b) = b then (32, I32 b) else (64, b) := by rw [← hN]; rfl
  have l1 := I16_lt b
  have l2 := I32_lt b
  clear hN
  generalize I16 b = g at *
  generalize I32 b = k at *
  generalize W16 g = G at *
  generalize W32 k = K at *
  have hwg : IntKind.u16.wrap (g : Int) = (g : Int) := by rw [IntKind.wrap_u16]; omega
  have hwk : IntKind.u32.wrap (k : Int) = (k : Int) := by rw [IntKind.wrap_u32]; omega
  replace hN2 := Lib.hid hN2
  go_enter Tryd.func15, Tryd.ntmps15
  go_wp2_with fail
  refine (k1 _).mono ?_
  rintro r' w1 ⟨rfl, B1⟩
  replace B1 := Lib.hid B1
  go_wp2_with fail
  refine (k2 _).mono ?_
  rintro r' w2 ⟨rfl, B2⟩
  replace B2 := Lib.hid (below_then B1.out B1.out.size B2)
  by_cases c1 : G = b
  · have h := hN2.out
    rw [if_pos c1] at h
    subst h
    have hc : ((G : Int) == (b : Int)) = true := beq_iff_eq.2 (by omega)
    replace c1 := Lib.hid c1
    go_wp2_with fail
    go_ret2
    exact ⟨rfl, B2.out⟩
  · have h := hN2.out
    rw [if_neg c1] at h
    have hc : ((G : Int) == (b : Int)) = false := beq_eq_false_iff_ne.2 (by omega)
    replace c1 := Lib.hid c1
    replace h := Lib.hid h
    go_wp2_with fail
    refine (k3 _).mono ?_
    rintro r' w3 ⟨rfl, B3⟩
    replace B3 := Lib.hid (below_then B2.out B2.out.size B3)
    go_wp2_with fail
    refine (k4 _).mono ?_
    rintro r' w4 ⟨rfl, B4⟩
    replace B4 := Lib.hid (below_then B3.out B3.out.size B4)
    by_cases c2 : K = b
    · replace h := h.out
      rw [if_pos c2] at h
      subst h
      have hc2 : ((K : Int) == (b : Int)) = true := beq_iff_eq.2 (by omega)
      replace c2 := Lib.hid c2
      go_wp2_with fail
      go_ret2
      exact ⟨rfl, B4.out⟩
    · replace h := h.out
      rw [if_neg c2] at h
      subst h
      have hc2 : ((K : Int) == (b : Int)) = false := beq_eq_false_iff_ne.2 (by omega)
      replace c2 := Lib.hid c2
      go_wp2_with fail
      go_ret2
      exact ⟨rfl, B4.out⟩
end Go.Proofs.YtocmmdheegkbaaaDoor
