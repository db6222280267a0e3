/- The reference: Hex. -/
import Derived.Test.YtocmmdheegkbaaaDoorRi
namespace Go.Proofs.YtocmmdheegkbaaaDoor
open Go.RowKit Go.Proofs.YtocmmdheegkbaaaDoorW.PrintWords Go.Proofs.YtocmmdheegkbaaaDoorW.PrintMore
set_option linter.unusedVariables false
set_option linter.unusedSimpArgs false
theorem dig_cut (d : Nat) (h : d < 16) (xs : List UInt8) : ((⟨#[48, 49, 50, 51, 52, 53, 54, 55, 56, 57, 97, 98, 99, 100, 101, 102]⟩ : ByteArray).extract d (d + 1) ++ ⟨xs.toArray⟩ : ByteArray) = ⟨(dgt d :: xs).toArray⟩ := by
  have : ∀ d : Fin 16, (#[48, 49, 50, 51, 52, 53, 54, 55, 56, 57, 97, 98, 99, 100, 101, 102] : Array UInt8).extract d.1 (d.1 + 1) = #[dgt d.1] := by decide
  apply ByteArray.ext
  rw [ByteArray.data_append, ByteArray.data_extract]
  rw [this ⟨d, h⟩]
  simp
set_option maxHeartbeats 800000 in
set_option maxRecDepth 100000 in
theorem refHex_any (b : Nat) (hb : b < 18446744073709551616) (w : World) :
    Calls Tryd.prog 21 #[.int .u64 (b : Int)] w fun e w' => e = .returned (.string (hexS b)) ∧ Drawn0 w w' := by
  go_enter Tryd.func21, Tryd.ntmps21
  go_wp2_with fail
  go_loopw [0, 3, 4, 5] (fun v0 v3 v4 _ w' => ∃ (i v : Nat) (xs : List UInt8), v0 = .int .u64 v ∧ v3 = .string ⟨xs.toArray⟩ ∧ v4 = .int .i64 i ∧ i ≤ 16 ∧ v < 18446744073709551616 ∧ xs.length = i ∧ Hid (hexF 16 b = hexF (16 - i) v ++ xs) ∧ Drawn0 w w') (fun _ _ v4 _ _ => 16 - (intOf v4).toNat)
  case atStart => exact ⟨0, b, [], rfl, rfl, rfl, by omega, hb, rfl, (List.append_nil _).symm, by repeat (first | exact Drawn0.refl _ | apply Drawn0.step)⟩
  case round =>
    obtain ⟨i, v, xs, rfl, rfl, rfl, hi, hvl, hxl, hH, ⟨m1, rfl⟩⟩ := hrel
    by_cases c : i < 16
    · have hlt : decide ((i : Int) < 16) = true := decide_eq_true (by omega)
      obtain ⟨d, hd⟩ : ∃ d, v % 16 = d := ⟨_, rfl⟩
      obtain ⟨q, hq⟩ : ∃ q, v / 16 = q := ⟨_, rfl⟩
      have hd16 : d < 16 := by omega
      have hmi : (v : Int) % 16 = (d : Int) := by omega
      have hqi : (v : Int) / 16 = (q : Int) := by omega
      have hql : q < 18446744073709551616 := by omega
      have hcut := dig_cut d hd16 xs
      have hN : Hid (hexF 16 b = hexF (16 - (i + 1)) q ++ dgt d :: xs) := Lib.hid (by
        rw [hH.out, show 16 - i = (16 - (i + 1)) + 1 by omega, hexF, hq, hd]; simp)
      have hs1 : (⟨xs.toArray⟩ : ByteArray).size = i := hxl
      have hs2 : ((⟨#[48, 49, 50, 51, 52, 53, 54, 55, 56, 57, 97, 98, 99, 100, 101, 102]⟩ : ByteArray).extract d (d + 1)).size = 1 := by
        rw [ByteArray.size_extract]
        show min (d + 1) 16 - d = 1
        omega
      replace hd := Lib.hid hd
      replace hq := Lib.hid hq
      go_wp2_with fail
      go_roundw
      case rel => exact ⟨i + 1, q, dgt d :: xs, rfl, by first | rfl | (rw [← hcut]), rfl, by omega, hql, (by rw [List.length_cons, hxl]), hN, by repeat (first | exact Drawn0.refl _ | apply Drawn0.step)⟩
      case measure => simp [intOf]; omega
    · have hi16 : i = 16 := by omega
      subst hi16
      have hx : (⟨xs.toArray⟩ : ByteArray) = hexS b := by unfold hexS; rw [hH.out]; rfl
      go_wp2_with fail
      go_ret
      exact ⟨by rw [← hx]; rfl, by repeat (first | exact Drawn0.refl _ | apply Drawn0.step)⟩
end Go.Proofs.YtocmmdheegkbaaaDoor
