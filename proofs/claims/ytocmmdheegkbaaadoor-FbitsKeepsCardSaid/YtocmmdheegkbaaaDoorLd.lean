/- The law FbitsKeeps: walked. -/
import Derived.Test.YtocmmdheegkbaaaDoorLc
import Derived.Test.YtocmmdheegkbaaaDoorMa
namespace Go.Proofs.YtocmmdheegkbaaaDoor
open Go.RowKit Go.Proofs.YtocmmdheegkbaaaDoorW.PrintWords Go.Proofs.YtocmmdheegkbaaaDoorW.PrintMore
set_option linter.unusedVariables false
set_option linter.unusedSimpArgs false
theorem and16_low (a m : Nat) (ha : a < 65536) (hm : m < 65536) (i : Nat) (hi : m = 2 ^ i - 1) : bits .and .u16 (a : Int) (m : Int) = ((a % 2 ^ i : Nat) : Int) := by
  rw [u16_and_nat a m ha hm, hi, Nat.and_two_pow_sub_one_eq_mod]
theorem and32_low (a m : Nat) (ha : a < 4294967296) (hm : m < 4294967296) (i : Nat) (hi : m = 2 ^ i - 1) : bits .and .u32 (a : Int) (m : Int) = ((a % 2 ^ i : Nat) : Int) := by
  rw [u32_and_nat a m ha hm, hi, Nat.and_two_pow_sub_one_eq_mod]
set_option maxHeartbeats 2000000 in
set_option maxRecDepth 100000 in
theorem keeps_any (h g s t : Nat) (hh : h < 65536) (hg : g < 65536) (hs : s < 4294967296) (ht : t < 4294967296) (w : World) (hL : Laid w) :
    Calls Tryd.prog 7 #[.int .u16 (h : Int), .int .u16 (g : Int), .int .u32 (s : Int), .int .u32 (t : Int)] w fun e w' => e = .returned (.bool true) ∧ Below w.heap.size w w' := by
  have k1 := fun (w : World) (hl : Laid w) => Widen16_any h hh w hl.sh
  have k2 := fun (w : World) (hl : Laid w) => Widen32_any s hs w hl.sh
  have k3 := fun (w : World) (hl : Laid w) => Widen16_any g hg w hl.sh
  have k4 := fun (w : World) (hl : Laid w) => Widen32_any t ht w hl.sh
  have k5 := fun (w : World) => class_any (W16 h) (W16_lt h) w
  have k6 := fun (w : World) => class_any (W32 s) (W32_lt s) w
  have e1 := keep_sign16 h hh
  have e2 := keep_sign32 s hs
  have i1 := inj16 h g hh hg
  have i2 := inj32 s t hs ht
  have o1 := odd16 h
  have o2 := odd32 s
  have z1 := zero16 h hh
  have z2 := zero32 s hs
  have hW : W32 s < 18446744073709551616 := W32_lt s
  have hV : W16 h < 18446744073709551616 := W16_lt h
  generalize Cls (W16 h) = C at *
  generalize Cls (W32 s) = D at *
  generalize W16 h = X at *
  generalize W32 s = Y at *
  generalize W16 g = U at *
  generalize W32 t = V at *
  have hwh : IntKind.u64.wrap (h : Int) = (h : Int) := u64_small' h (by omega)
  have hws : IntKind.u64.wrap (s : Int) = (s : Int) := u64_small' s (by omega)
  have hq1 : (X : Int) / 9223372036854775808 = (h : Int) / 32768 := by omega
  have hq2 : (Y : Int) / 9223372036854775808 = (s : Int) / 2147483648 := by omega
  have b1 : ((X : Int) == (U : Int)) = ((h : Int) == (g : Int)) := by rw [Bool.eq_iff_iff, beq_iff_eq, beq_iff_eq]; omega
  have b2 : ((Y : Int) == (V : Int)) = ((s : Int) == (t : Int)) := by rw [Bool.eq_iff_iff, beq_iff_eq, beq_iff_eq]; omega
  replace hL := Lib.hid hL
  replace o1 := Lib.hid o1
  replace o2 := Lib.hid o2
  replace z1 := Lib.hid z1
  replace z2 := Lib.hid z2
  clear e1 e2 i1 i2
  obtain ⟨od, hod⟩ : ∃ od : Bool, (bits .and .u16 ((h : Int) / 1024) 31 == 31) = od := ⟨_, rfl⟩
  obtain ⟨wd', hwd⟩ : ∃ wd' : Bool, (bits .and .u32 ((s : Int) / 8388608) 255 == 255) = wd' := ⟨_, rfl⟩
  have ho1 : od = decide ((C : Int) ≥ 4) := by
    have a1 : bits .and .u16 ((h : Int) / 1024) 31 = ((h / 1024 % 32 : Nat) : Int) := and16_low (h / 1024) 31 (by omega) (by decide) 5 (by decide)
    rw [← hod, a1, Bool.eq_iff_iff, beq_iff_eq, decide_eq_true_iff]
    have := o1.out
    omega
  have ho2 : wd' = decide ((D : Int) ≥ 4) := by
    have a1 : bits .and .u32 ((s : Int) / 8388608) 255 = ((s / 8388608 % 256 : Nat) : Int) := and32_low (s / 8388608) 255 (by omega) (by decide) 8 (by decide)
    rw [← hwd, a1, Bool.eq_iff_iff, beq_iff_eq, decide_eq_true_iff]
    have := o2.out
    omega
  have hz1 : (IntKind.u16.wrap ((h : Int) * 2) == 0) = ((C : Int) == 1) := by
    rw [IntKind.wrap_u16, Bool.eq_iff_iff, beq_iff_eq, beq_iff_eq]
    have := z1.out
    omega
  have hz2 : ((s : Int) * 2 % 4294967296 == 0) = ((D : Int) == 1) := by
    rw [Bool.eq_iff_iff, beq_iff_eq, beq_iff_eq]
    have := z2.out
    omega
  subst ho1 ho2
  clear o1 o2 z1 z2
  go_enter Tryd.func7, Tryd.ntmps7
  go_wp2_with fail
  refine (k1 _ hL.out).mono ?_
  rintro e w1 ⟨rfl, B1⟩
  have hL1 := Lib.hid (hL.out.below B1)
  replace B1 := Lib.hid B1
  go_wp2_with fail
  refine (k2 _ hL1.out).mono ?_
  rintro e w2 ⟨rfl, B2⟩
  have hL2 := Lib.hid (hL1.out.below B2)
  replace B2 := Lib.hid (below_then B1.out B1.out.size B2)
  go_wp2_with fail
  refine (k3 _ hL2.out).mono ?_
  rintro e w3 ⟨rfl, B3⟩
  have hL3 := Lib.hid (hL2.out.below B3)
  replace B3 := Lib.hid (below_then B2.out B2.out.size B3)
  go_wp2_with fail
  refine (k4 _ hL3.out).mono ?_
  rintro e w4 ⟨rfl, B4⟩
  have hL4 := Lib.hid (hL3.out.below B4)
  replace B4 := Lib.hid (below_then B3.out B3.out.size B4)
  go_wp2_with fail
  refine (awake_any _ hL4.out).mono ?_
  rintro e w5 ⟨rfl, B5⟩
  replace B5 := Lib.hid (below_then B4.out B4.out.size B5)
  go_wp2_with fail
  refine (k5 _).mono ?_
  rintro e w6 ⟨rfl, rfl⟩
  go_wp2_with fail
  refine (k6 _).mono ?_
  rintro e w6 ⟨rfl, rfl⟩
  go_wp2_with fail
  refine (k5 _).mono ?_
  rintro e w6 ⟨rfl, rfl⟩
  go_wp2_with fail
  refine (k6 _).mono ?_
  rintro e w6 ⟨rfl, rfl⟩
  go_wp2_with fail
  go_ret
  refine ⟨?_, B5.out⟩
  first | rfl | (simp; done)
theorem keeps_walk (w : World) (hT : Laid w) (h : Int) (hh : (Lit.int .u16 h).wf = true) (g : Int) (hg : (Lit.int .u16 g).wf = true) (s : Int) (hs : (Lit.int .u32 s).wf = true) (t : Int) (ht : (Lit.int .u32 t).wf = true) :
    Calls Tryd.prog 7 #[.int .u16 h, .int .u16 g, .int .u32 s, .int .u32 t] w fun e w' => e = .returned (.bool true) ∧ Below w.heap.size w w' := by
  obtain ⟨h, rfl, hh'⟩ := wf_u16 hh
  obtain ⟨g, rfl, hg'⟩ := wf_u16 hg
  obtain ⟨s, rfl, hs'⟩ := wf_u32 hs
  obtain ⟨t, rfl, ht'⟩ := wf_u32 ht
  exact keeps_any h g s t hh' hg' hs' ht' w hT
end Go.Proofs.YtocmmdheegkbaaaDoor
