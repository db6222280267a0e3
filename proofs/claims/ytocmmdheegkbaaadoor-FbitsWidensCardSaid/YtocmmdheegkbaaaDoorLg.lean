/- The law FbitsWidens: walked. -/
import Derived.Test.YtocmmdheegkbaaaDoorRf
import Derived.Test.YtocmmdheegkbaaaDoorMa
namespace Go.Proofs.YtocmmdheegkbaaaDoor
open Go.RowKit Go.Proofs.YtocmmdheegkbaaaDoorW.PrintWords Go.Proofs.YtocmmdheegkbaaaDoorW.PrintMore
set_option linter.unusedVariables false
set_option linter.unusedSimpArgs false
set_option maxHeartbeats 800000 in
set_option maxRecDepth 100000 in
theorem widens_any (h s : Nat) (hh : h < 65536) (hs : s < 4294967296) (w : World) (hL : Laid w) :
    Calls Tryd.prog 3 #[.int .u16 (h : Int), .int .u32 (s : Int)] w fun e w' => e = .returned (.bool true) ∧ Below w.heap.size w w' := by
  have k1 := fun (w : World) (h' : Laid w) => Widen16_any h hh w h'.sh
  have k2 := fun (w : World) => refWiden16_any h hh w
  have k3 := fun (w : World) (h' : Laid w) => Widen32_any s hs w h'.sh
  have k4 := fun (w : World) => refWiden32_any s hs w
  generalize W16 h = X at *
  generalize W32 s = Y at *
  replace hL := Lib.hid hL
  go_enter Tryd.func3, Tryd.ntmps3
  go_wp2_with fail
  refine (awake_any _ hL.out).mono ?_
  rintro e w1 ⟨rfl, B1⟩
  have hL1 := Lib.hid (hL.out.below B1)
  replace B1 := Lib.hid B1
  go_wp2_with fail
  refine (k1 _ hL1.out).mono ?_
  rintro e w2 ⟨rfl, B2⟩
  have hL2 := Lib.hid (hL1.out.below B2)
  replace B2 := Lib.hid (below_then B1.out B1.out.size B2)
  go_wp2_with fail
  refine (k2 _).mono ?_
  rintro e w3 ⟨rfl, B3⟩
  have hL3 := Lib.hid (hL2.out.below B3)
  replace B3 := Lib.hid (below_then B2.out B2.out.size B3)
  go_wp2_with fail
  refine (k3 _ hL3.out).mono ?_
  rintro e w4 ⟨rfl, B4⟩
  have hL4 := Lib.hid (hL3.out.below B4)
  replace B4 := Lib.hid (below_then B3.out B3.out.size B4)
  go_wp2_with fail
  refine (k4 _).mono ?_
  rintro e w5 ⟨rfl, B5⟩
  replace B5 := Lib.hid (below_then B4.out B4.out.size B5)
  go_wp2_with fail
  go_ret
  exact ⟨by first | rfl | (simp; done), B5.out⟩
theorem widens_walk (w : World) (hT : Laid w) (h : Int) (hh : (Lit.int .u16 h).wf = true) (s : Int) (hs : (Lit.int .u32 s).wf = true) :
    Calls Tryd.prog 3 #[.int .u16 h, .int .u32 s] w fun e w' => e = .returned (.bool true) ∧ Below w.heap.size w w' := by
  obtain ⟨h, rfl, hh'⟩ := wf_u16 hh
  obtain ⟨s, rfl, hs'⟩ := wf_u32 hs
  exact widens_any h s hh' hs' w hT
end Go.Proofs.YtocmmdheegkbaaaDoor
