/- The law FbitsKeeps: plain. -/
import Derived.Test.YtocmmdheegkbaaaDoorLa
namespace Go.Proofs.YtocmmdheegkbaaaDoor
open Go.RowKit
set_option linter.unusedVariables false
set_option linter.unusedSimpArgs false

theorem keep_sign16 (h : Nat) (hh : h < 65536) : W16 h / 9223372036854775808 = h / 32768 := by
  unfold W16
  obtain ⟨h1, h2, h3⟩ := wd_div (h / 32768 % 2 == 1) (R16 (h / 1024 % 32) (h % 1024)) (R16_lt _ _ (by omega) (by omega))
  generalize wd (h / 32768 % 2 == 1) (R16 (h / 1024 % 32) (h % 1024)) = x at *
  by_cases c : (h / 32768 % 2 == 1) = true
  · rw [if_pos c] at h1; rw [beq_iff_eq] at c; omega
  · rw [if_neg c] at h1; rw [beq_iff_eq] at c; omega
theorem keep_sign32 (h : Nat) (hh : h < 4294967296) : W32 h / 9223372036854775808 = h / 2147483648 := by
  unfold W32
  obtain ⟨h1, h2, h3⟩ := wd_div (h / 2147483648 % 2 == 1) (R32 (h / 8388608 % 256) (h % 8388608)) (R32_lt _ _ (by omega) (by omega))
  generalize wd (h / 2147483648 % 2 == 1) (R32 (h / 8388608 % 256) (h % 8388608)) = x at *
  by_cases c : (h / 2147483648 % 2 == 1) = true
  · rw [if_pos c] at h1; rw [beq_iff_eq] at c; omega
  · rw [if_neg c] at h1; rw [beq_iff_eq] at c; omega
theorem inj16 (h g : Nat) (hh : h < 65536) (hg : g < 65536) : (W16 h = W16 g) ↔ h = g :=
  ⟨fun e => by rw [← I16_W16 h hh, e, I16_W16 g hg], fun e => by rw [e]⟩
theorem inj32 (h g : Nat) (hh : h < 4294967296) (hg : g < 4294967296) : (W32 h = W32 g) ↔ h = g :=
  ⟨fun e => by rw [← I32_W32 h hh, e, I32_W32 g hg], fun e => by rw [e]⟩
theorem cls_ge (b : Nat) : 4 ≤ Cls b ↔ 9218868437227405312 ≤ b % 9223372036854775808 := by
  unfold Cls
  split
  · omega
  · split
    · omega
    · split
      · omega
      · split <;> omega
theorem cls_1 (b : Nat) : Cls b = 1 ↔ b % 9223372036854775808 = 0 := by
  unfold Cls
  split
  · omega
  · split
    · omega
    · split
      · omega
      · split <;> omega
theorem W16_mod (h : Nat) : W16 h % 9223372036854775808 = R16 (h / 1024 % 32) (h % 1024) := (wd_div _ _ (R16_lt _ _ (by omega) (by omega))).2.1
theorem W32_mod (h : Nat) : W32 h % 9223372036854775808 = R32 (h / 8388608 % 256) (h % 8388608) := (wd_div _ _ (R32_lt _ _ (by omega) (by omega))).2.1
/-- The size of what is made wide. -/
theorem R16_size (e f : Nat) (he : e < 32) (hf : f < 1024) : (9218868437227405312 ≤ R16 e f ↔ e = 31) ∧ (R16 e f = 0 ↔ e = 0 ∧ f = 0) := by
  unfold R16
  split
  · constructor
    · constructor <;> intro h <;> omega
    · constructor <;> intro h <;> omega
  · split
    · split
      · subst_vars; constructor <;> constructor <;> intro h <;> omega
      · rename_i c1 c2 c3
        have hl : f.log2 < 10 := log_lt c3 (by omega)
        have := lead' f c3 (by omega)
        generalize f * 2 ^ (52 - f.log2) = m at *
        generalize f.log2 = l at *
        constructor <;> constructor <;> intro h <;> omega
    · constructor <;> constructor <;> intro h <;> omega
theorem R32_size (e f : Nat) (he : e < 256) (hf : f < 8388608) : (9218868437227405312 ≤ R32 e f ↔ e = 255) ∧ (R32 e f = 0 ↔ e = 0 ∧ f = 0) := by
  unfold R32
  split
  · constructor
    · constructor <;> intro h <;> omega
    · constructor <;> intro h <;> omega
  · split
    · split
      · subst_vars; constructor <;> constructor <;> intro h <;> omega
      · rename_i c1 c2 c3
        have hl : f.log2 < 23 := log_lt c3 (by omega)
        have := lead' f c3 (by omega)
        generalize f * 2 ^ (52 - f.log2) = m at *
        generalize f.log2 = l at *
        constructor <;> constructor <;> intro h <;> omega
    · constructor <;> constructor <;> intro h <;> omega
theorem odd16 (h : Nat) : (h / 1024 % 32 = 31) ↔ 4 ≤ Cls (W16 h) := by
  rw [cls_ge, W16_mod, (R16_size _ _ (by omega) (by omega)).1]
theorem odd32 (h : Nat) : (h / 8388608 % 256 = 255) ↔ 4 ≤ Cls (W32 h) := by
  rw [cls_ge, W32_mod, (R32_size _ _ (by omega) (by omega)).1]
theorem zero16 (h : Nat) (hh : h < 65536) : (h * 2 % 65536 = 0) ↔ Cls (W16 h) = 1 := by
  rw [cls_1, W16_mod, (R16_size _ _ (by omega) (by omega)).2]; omega
theorem zero32 (h : Nat) (hh : h < 4294967296) : (h * 2 % 4294967296 = 0) ↔ Cls (W32 h) = 1 := by
  rw [cls_1, W32_mod, (R32_size _ _ (by omega) (by omega)).2]; omega
end Go.Proofs.YtocmmdheegkbaaaDoor
