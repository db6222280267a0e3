/- The law FbitsTexts: walked. -/
import Derived.Test.YtocmmdheegkbaaaDoorRm
import Derived.Test.YtocmmdheegkbaaaDoorMa
namespace Go.Proofs.YtocmmdheegkbaaaDoor
open Go.RowKit Go.Proofs.YtocmmdheegkbaaaDoorW.PrintWords Go.Proofs.YtocmmdheegkbaaaDoorW.PrintMore
set_option linter.unusedVariables false
set_option linter.unusedSimpArgs false
theorem hexS_size (b : Nat) : (hexS b).size = 16 := hexF_len 16 b
theorem uh_hexS (b : Nat) (hb : b < 18446744073709551616) : uh (hexS b) = (b, 0) := by
  rw [uh_ru]
  unfold ru
  rw [if_pos (hexS_size b), show (hexS b).data.toList = hexF 16 b from rfl, lvs_hexF 16 b hb]
set_option maxHeartbeats 800000 in
set_option maxRecDepth 100000 in
theorem texts_any (b : Nat) (hb : b < 18446744073709551616) (s : ByteArray) (hs : s.size ≤ 140737488351232) (w : World) (hL : Laid w) :
    Calls Tryd.prog 5 #[.int .u64 (b : Int), .string s] w fun e w' => e = .returned (.bool true) ∧ Below w.heap.size w w' := by
  have k1 := fun (w : World) (h : Laid w) => Unhex_any s (by omega) w h.er
  have k2 := fun (w : World) => refUnhex_any s w
  have k3 := fun (w : World) (h : Laid w) => Hex_any b hb w h.er.tab
  have k4 := fun (w : World) (h : Laid w) => Unhex_any (hexS b) (by rw [hexS_size]; omega) w h.er
  have k5 := fun (w : World) => refHex_any b hb w
  rw [uh_ru] at k1
  rw [uh_hexS b hb] at k4
  generalize ru s = R at *
  obtain ⟨x, e⟩ := R
  have hsz := hexS_size b
  generalize hexS b = H at *
  simp only [] at k1 k2 k4
  replace hL := Lib.hid hL
  by_cases hlong : s.size > 65536
  · go_enter Tryd.func5, Tryd.ntmps5
    go_wp2_with fail
    go_ret
    exact ⟨rfl, Below.refl _ _⟩
  · go_enter Tryd.func5, Tryd.ntmps5
    go_wp2_with fail
    refine (k1 _ hL.out).mono ?_
    rintro e w1 ⟨rfl, B1⟩
    have hL1 := Lib.hid (hL.out.below B1)
    replace B1 := Lib.hid B1
    go_wp2_with fail
    refine (k2 _).mono ?_
    rintro e w2 ⟨rfl, ⟨m2, rfl⟩⟩
    have B2 := Lib.hid (pw_below_drewN B1.out m2)
    have hL2 := Lib.hid (hL1.out.below (pw_below_drewN (Below.refl _ _) m2))
    go_wp2_with fail
    refine (k3 _ hL2.out).mono ?_
    rintro e w3 ⟨rfl, B3⟩
    have hL3 := Lib.hid (hL2.out.below B3)
    replace B3 := Lib.hid (below_then B2.out B2.out.size B3)
    go_wp2_with fail
    refine (k4 _ hL3.out).mono ?_
    rintro e w4 ⟨rfl, B4⟩
    have hL4 := Lib.hid (hL3.out.below B4)
    replace B4 := Lib.hid (below_then B3.out B3.out.size B4)
    go_wp2_with fail
    refine (awake_any _ hL4.out).mono ?_
    rintro e w5 ⟨rfl, B5⟩
    have hL5 := Lib.hid (hL4.out.below B5)
    replace B5 := Lib.hid (below_then B4.out B4.out.size B5)
    go_wp2_with fail
    refine (k3 _ hL5.out).mono ?_
    rintro e w6 ⟨rfl, B6⟩
    replace B6 := Lib.hid (below_then B5.out B5.out.size B6)
    go_wp2_with fail
    refine (k5 _).mono ?_
    rintro e w7 ⟨rfl, ⟨m7, rfl⟩⟩
    go_wp2_with fail
    go_ret
    exact ⟨by first | rfl | (simp; done), pw_below_drewN B6.out m7⟩
theorem texts_walk (w : World) (hT : Laid w) (b : Int) (hb : (Lit.int .u64 b).wf = true) (s : ByteArray) (hs : s.size ≤ 140737488351232) :
    Calls Tryd.prog 5 #[.int .u64 b, .string s] w fun e w' => e = .returned (.bool true) ∧ Below w.heap.size w w' := by
  obtain ⟨b, rfl, hb'⟩ := wf_u64 hb
  exact texts_any b hb' s hs w hT
end Go.Proofs.YtocmmdheegkbaaaDoor
