/- awake. -/
import Derived.Test.YtocmmdheegkbaaaDoorHe
namespace Go.Proofs.YtocmmdheegkbaaaDoor
open Go.RowKit Go.Proofs.YtocmmdheegkbaaaDoorW.PrintWords Go.Proofs.YtocmmdheegkbaaaDoorW.PrintMore
set_option linter.unusedVariables false
set_option linter.unusedSimpArgs false
theorem aw1 : Nar 4607182419336888320 = (32, 1065353217) := by decide +kernel
theorem aw2 : uh ⟨#[48, 48, 48, 48, 48, 48, 48, 48, 48, 48, 48, 48, 48, 48, 49, 70]⟩ = (0, 20) := by decide +kernel
theorem aw3 : W16 15360 = 4607182418800017408 := by decide +kernel
theorem aw4 : W16 32257 = 9221124635087601664 := by decide +kernel
theorem aw5 : W32 2139095041 = 9218868437764276224 := by decide +kernel
theorem aw6 : Cls 1 = 2 := by decide +kernel
theorem aw7 : hexS 31 = ⟨#[48, 48, 48, 48, 48, 48, 48, 48, 48, 48, 48, 48, 48, 48, 49, 102]⟩ := by decide +kernel
structure Laid (w : World) : Prop where
  sh : Shapes w
  er : ErrsL w
theorem Laid.below {w w' : World} (h : Laid w) (hb : Below w.heap.size w w') : Laid w' := ⟨h.sh.below hb, h.er.below hb⟩
set_option maxHeartbeats 1000000 in
set_option maxRecDepth 100000 in
theorem awake_any (w : World) (hL : Laid w) :
    Calls Tryd.prog 9 #[] w fun e w' => e = .returned (.bool true) ∧ Below w.heap.size w w' := by
  have k1 := fun (w : World) (h : Laid w) => Narrow_any 4607182419336888320 (by decide) w h.sh _ aw1
  have k2 := fun (w : World) (h : Laid w) => Unhex_any ⟨#[48, 48, 48, 48, 48, 48, 48, 48, 48, 48, 48, 48, 48, 48, 49, 70]⟩ (by decide) w h.er
  have k3 := fun (w : World) (h : Laid w) => Widen16_any 15360 (by decide) w h.sh
  have k4 := fun (w : World) (h : Laid w) => Widen16_any 32257 (by decide) w h.sh
  have k5 := fun (w : World) (h : Laid w) => Widen32_any 2139095041 (by decide) w h.sh
  have k6 := fun (w : World) => class_any 1 (by decide) w
  have k7 := fun (w : World) (h : Laid w) => Hex_any 31 (by decide) w h.er.tab
  rw [aw2] at k2
  rw [aw3] at k3
  rw [aw4] at k4
  rw [aw5] at k5
  rw [aw6] at k6
  rw [aw7] at k7
  replace hL := Lib.hid hL
  go_enter Tryd.func9, Tryd.ntmps9
  go_wp2_with fail
  refine (k1 _ hL.out).mono ?_
  rintro e w1 ⟨rfl, B1⟩
  have hL1 := Lib.hid (hL.out.below B1)
  replace B1 := Lib.hid B1
  go_wp2_with fail
  refine (k2 _ hL1.out).mono ?_
  rintro e w2 ⟨rfl, B2⟩
  have hL2 := Lib.hid (hL1.out.below B2)
  replace B2 := Lib.hid (below_then B1.out B1.out.size B2)
  go_wp2_with fail
  refine (k3 _ hL2.out).mono ?_
  rintro e w3 ⟨rfl, B3⟩
  have hL3 := Lib.hid (hL2.out.below B3)
  replace B3 := Lib.hid (below_then B2.out B2.out.size B3)
  go_wp2_with fail
  refine (k4 _ hL3.out).mono ?_
  rintro e w4 ⟨rfl, B4⟩
  have hL4 := Lib.hid (hL3.out.below B4)
  replace B4 := Lib.hid (below_then B3.out B3.out.size B4)
  go_wp2_with fail
  refine (k5 _ hL4.out).mono ?_
  rintro e w5 ⟨rfl, B5⟩
  have hL5 := Lib.hid (hL4.out.below B5)
  replace B5 := Lib.hid (below_then B4.out B4.out.size B5)
  go_wp2_with fail
  refine (k6 _).mono ?_
  rintro e w6 ⟨rfl, rfl⟩
  go_wp2_with fail
  refine (k7 _ hL5.out).mono ?_
  rintro e w7 ⟨rfl, B7⟩
  replace B7 := Lib.hid (below_then B5.out B5.out.size B7)
  go_wp2_with fail
  go_ret
  exact ⟨rfl, B7.out⟩
end Go.Proofs.YtocmmdheegkbaaaDoor
