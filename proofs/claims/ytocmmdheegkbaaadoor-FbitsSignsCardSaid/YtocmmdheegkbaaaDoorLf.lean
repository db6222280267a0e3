/- The law FbitsSigns: walked. -/
import Derived.Test.YtocmmdheegkbaaaDoorLe
import Derived.Test.YtocmmdheegkbaaaDoorMa
namespace Go.Proofs.YtocmmdheegkbaaaDoor
open Go.RowKit Go.Proofs.YtocmmdheegkbaaaDoorW.PrintWords Go.Proofs.YtocmmdheegkbaaaDoorW.PrintMore
set_option linter.unusedVariables false
set_option linter.unusedSimpArgs false
set_option maxHeartbeats 2000000 in
set_option maxRecDepth 100000 in
theorem signs_any (b : Nat) (hb : b < 18446744073709551616) (w : World) (hL : Laid w) :
    Calls Tryd.prog 8 #[.int .u64 (b : Int)] w fun e w' => e = .returned (.bool true) ∧ Below w.heap.size w w' := by
  have hcl := fl_lt 9223372036854775808 b (by omega)
  have hx : bits .xor .u64 (b : Int) 9223372036854775808 = ((fl 9223372036854775808 b : Nat) : Int) := by
    have := u64_xor_nat b 9223372036854775808 hb (by decide)
    rw [xor_fl 63 9223372036854775808 b (by decide) (by omega)] at this
    exact this
  obtain ⟨N, hN⟩ : ∃ N, Nar b = N := ⟨_, rfl⟩
  have k1 := fun (w : World) (h : Laid w) => Narrow_any b hb w h.sh N hN
  have k2 := fun (w : World) (h : Laid w) => Narrow_any (fl 9223372036854775808 b) (by omega) w h.sh _ (nar_fl b hb)
  have k3 := fun (w : World) => class_any b hb w
  have k4 := fun (w : World) => class_any (fl 9223372036854775808 b) (by omega) w
  rw [Cls_fl b hb] at k4
  have hNw := nar_w b
  have hNt := nar_top b hb
  rw [hN] at k2 hNw hNt
  obtain ⟨n, x⟩ := N
  have hxy : bits .xor .u64 (x : Int) ((fl (top n) x : Nat) : Int) = ((top n : Nat) : Int) := by
    simp only [] at hNw hNt
    have h1 := fl_lt (top n) x hNt
    have ht : top n ≤ 9223372036854775808 := by
      rcases hNw with rfl | rfl | rfl
      · rw [top_16]; omega
      · rw [top_32]; omega
      · rw [top_64]; omega
    rw [u64_xor_nat x _ (by omega) (by omega)]
    have : x ^^^ fl (top n) x = top n := by
      rcases hNw with rfl | rfl | rfl
      · rw [top_16] at hNt ⊢; exact xor_both 15 _ x (by decide) hNt
      · rw [top_32] at hNt ⊢; exact xor_both 31 _ x (by decide) hNt
      · rw [top_64] at hNt ⊢; exact xor_both 63 _ x (by decide) hNt
    rw [this]
  simp only [] at k1 k2 hNw hNt
  clear hN hNt hcl
  generalize fl (top n) x = y at *
  generalize fl 9223372036854775808 b = c at *
  generalize Cls b = C at *
  replace hL := Lib.hid hL
  go_enter Tryd.func8, Tryd.ntmps8
  go_wp2_with fail
  refine (k1 _ hL.out).mono ?_
  rintro e w1 ⟨rfl, B1⟩
  have hL1 := Lib.hid (hL.out.below B1)
  replace B1 := Lib.hid B1
  go_wp2_with fail
  refine (k2 _ hL1.out).mono ?_
  rintro e w2 ⟨rfl, B2⟩
  have hL2 := Lib.hid (hL1.out.below B2)
  replace B2 := Lib.hid (below_then B1.out B1.out.size B2)
  go_wp2_with fail
  refine (awake_any _ hL2.out).mono ?_
  rintro e w3 ⟨rfl, B3⟩
  replace B3 := Lib.hid (below_then B2.out B2.out.size B3)
  rcases hNw with rfl | rfl | rfl
  · rw [top_16] at hxy
    go_wp2_with fail
    refine (k3 _).mono ?_
    rintro e w4 ⟨rfl, rfl⟩
    go_wp2_with fail
    refine (k4 _).mono ?_
    rintro e w4 ⟨rfl, rfl⟩
    go_wp2_with fail
    go_ret
    exact ⟨by first | rfl | (simp; done), B3.out⟩
  · rw [top_32] at hxy
    go_wp2_with fail
    refine (k3 _).mono ?_
    rintro e w4 ⟨rfl, rfl⟩
    go_wp2_with fail
    refine (k4 _).mono ?_
    rintro e w4 ⟨rfl, rfl⟩
    go_wp2_with fail
    go_ret
    exact ⟨by first | rfl | (simp; done), B3.out⟩
  · rw [top_64] at hxy
    go_wp2_with fail
    refine (k3 _).mono ?_
    rintro e w4 ⟨rfl, rfl⟩
    go_wp2_with fail
    refine (k4 _).mono ?_
    rintro e w4 ⟨rfl, rfl⟩
    go_wp2_with fail
    go_ret
    exact ⟨by first | rfl | (simp; done), B3.out⟩
theorem signs_walk (w : World) (hT : Laid w) (b : Int) (hb : (Lit.int .u64 b).wf = true) :
    Calls Tryd.prog 8 #[.int .u64 b] w fun e w' => e = .returned (.bool true) ∧ Below w.heap.size w w' := by
  obtain ⟨b, rfl, hb'⟩ := wf_u64 hb
  exact signs_any b hb' w hT
end Go.Proofs.YtocmmdheegkbaaaDoor
