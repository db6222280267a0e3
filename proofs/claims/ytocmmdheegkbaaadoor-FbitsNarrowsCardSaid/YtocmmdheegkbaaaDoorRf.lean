/- The reference's Widen16 and Widen32. -/
import Derived.Test.YtocmmdheegkbaaaDoorRe
namespace Go.Proofs.YtocmmdheegkbaaaDoor
open Go.RowKit Go.Proofs.YtocmmdheegkbaaaDoorW.PrintWords Go.Proofs.YtocmmdheegkbaaaDoorW.PrintMore
set_option linter.unusedVariables false
set_option linter.unusedSimpArgs false
theorem sub_gen (f i n : Nat) (hf : f ≠ 0) (hn : n ≤ 52) (h1 : 2 ^ n ≤ f * 2 ^ i) (h2 : f * 2 ^ i < 2 ^ (n + 1)) : f.log2 + i = n ∧ f * 2 ^ (52 - f.log2) = f * 2 ^ i * 2 ^ (52 - n) := by
  have hl := (Nat.log2_eq_iff hf).1 (rfl : f.log2 = f.log2)
  generalize f.log2 = L at *
  have e : L + i = n := by
    have a1 : 2 ^ (L + i) ≤ f * 2 ^ i := by rw [Nat.pow_add]; exact Nat.mul_le_mul_right _ hl.1
    have a2 : f * 2 ^ i < 2 ^ (L + 1 + i) := by rw [Nat.pow_add]; exact Nat.mul_lt_mul_of_pos_right hl.2 (Nat.two_pow_pos _)
    have b1 : L + i < n + 1 := (Nat.pow_lt_pow_iff_right (by decide : 1 < 2)).1 (Nat.lt_of_le_of_lt a1 h2)
    have b2 : n < L + 1 + i := (Nat.pow_lt_pow_iff_right (by decide : 1 < 2)).1 (Nat.lt_of_le_of_lt h1 a2)
    omega
  refine ⟨e, ?_⟩
  rw [Nat.mul_assoc, ← Nat.pow_add]
  congr 2
  omega
theorem hsub16 (f : Nat) (hf : f < 1024) (r : Nat) (e : Nat) (hr : R16 e f = r) : e = 0 → f ≠ 0 → ∀ i, 1024 ≤ f * 2 ^ i → f * 2 ^ i < 2 * 1024 → i ≤ 10 ∧ (1009 - i) * 4503599627370496 + (f * 2 ^ i - 1024) * 4398046511104 = r := by
  intro he hn i h1 h2
  subst he
  obtain ⟨k1, k2⟩ := sub_gen f i 10 hn (by decide) h1 h2
  rw [← hr, R16_sub f hn hf, k2]
  rw [show 2 ^ (52 - 10) = 4398046511104 by decide]
  generalize f * 2 ^ i = v at *
  generalize f.log2 = L at *
  constructor <;> omega
theorem hsub32 (f : Nat) (hf : f < 8388608) (r : Nat) (e : Nat) (hr : R32 e f = r) : e = 0 → f ≠ 0 → ∀ i, 8388608 ≤ f * 2 ^ i → f * 2 ^ i < 2 * 8388608 → i ≤ 23 ∧ (897 - i) * 4503599627370496 + (f * 2 ^ i - 8388608) * 536870912 = r := by
  intro he hn i h1 h2
  subst he
  obtain ⟨k1, k2⟩ := sub_gen f i 23 hn (by decide) h1 h2
  rw [← hr, R32_sub f hn hf, k2]
  rw [show 2 ^ (52 - 23) = 536870912 by decide]
  generalize f * 2 ^ i = v at *
  generalize f.log2 = L at *
  constructor <;> omega
set_option maxHeartbeats 800000 in
set_option maxRecDepth 100000 in
theorem refWiden16_any (h : Nat) (hh : h < 65536) (w : World) :
    Calls Tryd.prog 11 #[.int .u16 (h : Int)] w fun r' w' => r' = .returned (.int .u64 (W16 h : Nat)) ∧ Below w.heap.size w w' := by
  have hO := fun w => Of_any h 5 10 32 1024 (by omega) (by decide) (by decide) (by decide) (by decide) w
  have hW := fun s w => WidenR16 s (h / 1024 % 32) (h % 1024) _ (by omega) (by omega) rfl (hsub16 _ (by omega) _ _ rfl) w
  have hw : IntKind.u64.wrap (h : Int) = (h : Int) := u64_small _ (by omega)
  have hWd : wd (h / 1024 / 32 % 2 == 1) (R16 (h / 1024 % 32) (h % 1024)) = W16 h := by
    unfold W16; rw [show h / 1024 / 32 = h / 32768 by omega]
  unfold flt at hW
  rw [← hWd]
  generalize R16 (h / 1024 % 32) (h % 1024) = r at hW ⊢
  generalize h / 1024 % 32 = e at hW hO
  generalize h % 1024 = f at hW hO
  generalize (h / 1024 / 32 % 2 == 1) = s at hO ⊢
  clear hWd
  go_enter Tryd.func11, Tryd.ntmps11
  go_wp2_with fail
  refine (hO _).mono ?_
  rintro r' w1 ⟨rfl, hB1⟩
  go_wp2_with fail
  refine (hW _ _).mono ?_
  rintro r' w2 ⟨rfl, hB2⟩
  go_wp2_with fail
  go_ret
  exact ⟨rfl, below_then hB1 hB1.size hB2⟩
set_option maxHeartbeats 800000 in
set_option maxRecDepth 100000 in
theorem refWiden32_any (h : Nat) (hh : h < 4294967296) (w : World) :
    Calls Tryd.prog 13 #[.int .u32 (h : Int)] w fun r' w' => r' = .returned (.int .u64 (W32 h : Nat)) ∧ Below w.heap.size w w' := by
  have hO := fun w => Of_any h 8 23 256 8388608 (by omega) (by decide) (by decide) (by decide) (by decide) w
  have hW := fun s w => WidenR32 s (h / 8388608 % 256) (h % 8388608) _ (by omega) (by omega) rfl (hsub32 _ (by omega) _ _ rfl) w
  have hw : IntKind.u64.wrap (h : Int) = (h : Int) := u64_small _ (by omega)
  have hWd : wd (h / 8388608 / 256 % 2 == 1) (R32 (h / 8388608 % 256) (h % 8388608)) = W32 h := by
    unfold W32; rw [show h / 8388608 / 256 = h / 2147483648 by omega]
  unfold flt at hW
  rw [← hWd]
  generalize R32 (h / 8388608 % 256) (h % 8388608) = r at hW ⊢
  generalize h / 8388608 % 256 = e at hW hO
  generalize h % 8388608 = f at hW hO
  generalize (h / 8388608 / 256 % 2 == 1) = s at hO ⊢
  clear hWd
  go_enter Tryd.func13, Tryd.ntmps13
  go_wp2_with fail
  refine (hO _).mono ?_
  rintro r' w1 ⟨rfl, hB1⟩
  go_wp2_with fail
  refine (hW _ _).mono ?_
  rintro r' w2 ⟨rfl, hB2⟩
  go_wp2_with fail
  go_ret
  exact ⟨rfl, below_then hB1 hB1.size hB2⟩
end Go.Proofs.YtocmmdheegkbaaaDoor
