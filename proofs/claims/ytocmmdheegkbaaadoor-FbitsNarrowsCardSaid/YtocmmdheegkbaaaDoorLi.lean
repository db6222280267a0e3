/- The law FbitsNarrows: walked. -/
import Derived.Test.YtocmmdheegkbaaaDoorRo
import Derived.Test.YtocmmdheegkbaaaDoorMa
namespace Go.Proofs.YtocmmdheegkbaaaDoor
open Go.RowKit Go.Proofs.YtocmmdheegkbaaaDoorW.PrintWords Go.Proofs.YtocmmdheegkbaaaDoorW.PrintMore
set_option linter.unusedVariables false
set_option linter.unusedSimpArgs false
set_option maxHeartbeats 800000 in
set_option maxRecDepth 100000 in
theorem narrows_any (b : Nat) (hb : b < 18446744073709551616) (w : World) (hL : Laid w) :
    Calls Tryd.prog 4 #[.int .u64 (b : Int)] w fun e w' => e = .returned (.bool true) ∧ Below w.heap.size w w' := by
  obtain ⟨N, hN⟩ : ∃ N, Nar b = N := ⟨_, rfl⟩
  have k1 := fun (w : World) (h : Laid w) => Narrow_any b hb w h.sh N hN
  have k2 := fun (w : World) => refNarrow_any b hb w N hN
  have k3 := fun (w : World) => class_any b hb w
  have k4 := fun (w : World) => refClass_any b hb w
  rw [clsF_Cls b] at k4
  obtain ⟨n, x⟩ := N
  simp only [] at k1 k2
  clear hN
  generalize Cls b = C at *
  replace hL := Lib.hid hL
  go_enter Tryd.func4, Tryd.ntmps4
  go_wp2_with fail
  refine (k1 _ hL.out).mono ?_
  rintro e w1 ⟨rfl, B1⟩
  have hL1 := Lib.hid (hL.out.below B1)
  replace B1 := Lib.hid B1
  go_wp2_with fail
  refine (k2 _).mono ?_
  rintro e w2 ⟨rfl, B2⟩
  have hL2 := Lib.hid (hL1.out.below B2)
  replace B2 := Lib.hid (below_then B1.out B1.out.size B2)
  go_wp2_with fail
  refine (awake_any _ hL2.out).mono ?_
  rintro e w3 ⟨rfl, B3⟩
  replace B3 := Lib.hid (below_then B2.out B2.out.size B3)
  go_wp2_with fail
  refine (k3 _).mono ?_
  rintro e w4 ⟨rfl, rfl⟩
  go_wp2_with fail
  refine (k4 _).mono ?_
  rintro e w5 ⟨rfl, B5⟩
  replace B5 := Lib.hid (below_then B3.out B3.out.size B5)
  go_wp2_with fail
  go_ret
  exact ⟨by first | rfl | (simp; done), B5.out⟩
theorem narrows_walk (w : World) (hT : Laid w) (b : Int) (hb : (Lit.int .u64 b).wf = true) :
    Calls Tryd.prog 4 #[.int .u64 b] w fun e w' => e = .returned (.bool true) ∧ Below w.heap.size w w' := by
  obtain ⟨b, rfl, hb'⟩ := wf_u64 hb
  exact narrows_any b hb' w hT
end Go.Proofs.YtocmmdheegkbaaaDoor
