/- fbits.Narrow. -/
import Derived.Test.YtocmmdheegkbaaaDoorGg
namespace Go.Proofs.YtocmmdheegkbaaaDoor
open Go.RowKit Go.Proofs.YtocmmdheegkbaaaDoorW.PrintWords Go.Proofs.YtocmmdheegkbaaaDoorW.PrintMore
set_option linter.unusedVariables false
set_option linter.unusedSimpArgs false

theorem nar_16 (b g : Nat) (hg : g < 65536) (h : W16 g = b) : Nar b = (16, g) := by
  have : I16 b = g := by rw [← h]; exact I16_W16 g hg
  unfold Nar; rw [this, if_pos h]
theorem nar_32 (b k : Nat) (hk : k < 4294967296) (h16 : ∀ h, h < 65536 → W16 h ≠ b) (h : W32 k = b) : Nar b = (32, k) := by
  have : I32 b = k := by rw [← h]; exact I32_W32 k hk
  unfold Nar; rw [if_neg (h16 _ (I16_lt b)), this, if_pos h]
theorem nar_64 (b : Nat) (h16 : ∀ h, h < 65536 → W16 h ≠ b) (h32 : ∀ h, h < 4294967296 → W32 h ≠ b) : Nar b = (64, b) := by
  unfold Nar; rw [if_neg (h16 _ (I16_lt b)), if_neg (h32 _ (I32_lt b))]

set_option maxHeartbeats 1000000 in
set_option maxRecDepth 1000000 in
theorem Narrow_any (b : Nat) (hb : b < 18446744073709551616) (w : World) (hS : Shapes w) (N : Nat × Nat) (hN : Nar b = N) : Calls Tryd.prog 14 #[.int .u64 (b : Int)] w fun e w' => e = .returned (.tuple #[.int .i64 N.1, .int .u64 N.2]) ∧ Below w.heap.size w w' := by
  have hS0 := Lib.hid hS
  obtain ⟨a0, a1, a2, a3⟩ := hS
  replace hN := Lib.hid hN
  go_enter Tryd.func14, Tryd.ntmps14
  go_wp2_with fail
  refine (guess_half b hb _ hS0.out).mono ?_
  rintro e w1 ⟨g, rfl, hg, hf, B1⟩
  replace hf := Lib.hid hf
  have hS1 := hS0.out.below B1
  have hS1h := Lib.hid hS1
  clear a0 a1 a2 a3
  obtain ⟨a0, a1, a2, a3⟩ := hS1
  go_wp2_with fail
  refine (Widen16_any g hg _ hS1h.out).mono ?_
  rintro e w2 ⟨rfl, B2⟩
  have hS2 := hS1h.out.below B2
  have hS2h := Lib.hid hS2
  replace B2 := below_then B1 B1.size B2
  clear B1 a0 a1 a2 a3
  obtain ⟨a0, a1, a2, a3⟩ := hS2
  by_cases c1 : W16 g = b
  · have hNg := nar_16 b g hg c1
    rw [hN.out] at hNg
    replace hNg := Lib.hid hNg
    have hc : ((W16 g : Int) == (b : Int)) = true := beq_iff_eq.2 (by omega)
    generalize W16 g = W at hc
    clear c1
    go_wp2
    go_ret2
    exact ⟨by rw [hNg.out]; rfl, B2⟩
  · have hc : ((W16 g : Int) == (b : Int)) = false := beq_eq_false_iff_ne.2 (by omega)
    have h16 : ∀ h, h < 65536 → W16 h ≠ b := fun h hh hW => c1 (by rw [hf.out h hh hW]; exact hW)
    replace h16 := Lib.hid h16
    generalize W16 g = W at hc
    clear c1 hf
    go_wp2_with fail
    refine (guess_single b hb _ hS2h.out).mono ?_
    rintro e w3 ⟨k, rfl, hk, hf, B3⟩
    replace hf := Lib.hid hf
    have hS3 := hS2h.out.below B3
    have hS3h := Lib.hid hS3
    replace B3 := below_then B2 B2.size B3
    clear B2 a0 a1 a2 a3
    obtain ⟨a0, a1, a2, a3⟩ := hS3
    go_wp2_with fail
    refine (Widen32_any k hk _ hS3h.out).mono ?_
    rintro e w4 ⟨rfl, B4⟩
    replace B4 := below_then B3 B3.size B4
    clear B3
    by_cases c2 : W32 k = b
    · have hNg := nar_32 b k hk h16.out c2
      rw [hN.out] at hNg
      replace hNg := Lib.hid hNg
      have hc2 : ((W32 k : Int) == (b : Int)) = true := beq_iff_eq.2 (by omega)
      generalize W32 k = V at hc2
      clear c2
      go_wp2
      go_ret2
      exact ⟨by rw [hNg.out]; rfl, B4⟩
    · have hNg := nar_64 b h16.out (fun h hh hW => c2 (by rw [hf.out h hh hW]; exact hW))
      rw [hN.out] at hNg
      replace hNg := Lib.hid hNg
      have hc2 : ((W32 k : Int) == (b : Int)) = false := beq_eq_false_iff_ne.2 (by omega)
      generalize W32 k = V at hc2
      clear c2
      go_wp2
      go_ret2
      exact ⟨by rw [hNg.out]; rfl, B4⟩
end Go.Proofs.YtocmmdheegkbaaaDoor
