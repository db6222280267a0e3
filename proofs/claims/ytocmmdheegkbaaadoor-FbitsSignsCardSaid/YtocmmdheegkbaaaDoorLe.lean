/- The law FbitsSigns: plain. -/
import Derived.Test.YtocmmdheegkbaaaDoorLc
namespace Go.Proofs.YtocmmdheegkbaaaDoor
open Go.RowKit
set_option linter.unusedVariables false
set_option linter.unusedSimpArgs false

theorem xor_low (k x : Nat) (h : x < 2 ^ k) : x ^^^ 2 ^ k = 2 ^ k + x := by
  apply Nat.eq_of_testBit_eq
  intro i
  rw [Nat.testBit_xor, Nat.testBit_two_pow]
  rcases Nat.lt_trichotomy i k with c | c | c
  · rw [Nat.testBit_two_pow_add_gt c, decide_eq_false (by omega), Bool.xor_false]
  · subst c
    rw [Nat.testBit_two_pow_add_eq, decide_eq_true rfl, Bool.xor_true]
  · have h2 : 2 ^ k + x < 2 ^ i := by
      have : 2 ^ (k + 1) ≤ 2 ^ i := Nat.pow_le_pow_right (by decide) c
      rw [Nat.pow_succ] at this; omega
    rw [Nat.testBit_lt_two_pow h2, Nat.testBit_lt_two_pow (Nat.lt_trans h (Nat.pow_lt_pow_right (by decide) c)), decide_eq_false (by omega)]
    rfl
theorem xor_high (k x : Nat) (h : x < 2 ^ k) : (2 ^ k + x) ^^^ 2 ^ k = x := by
  rw [← xor_low k x h, Nat.xor_assoc, Nat.xor_self, Nat.xor_zero]
/-- The sign turned. -/
def fl (P : Nat) (x : Nat) : Nat := if x < P then P + x else x - P
theorem xor_fl (k P x : Nat) (hP : 2 ^ k = P) (h : x < 2 * P) : x ^^^ P = fl P x := by
  subst hP
  unfold fl
  by_cases c : x < 2 ^ k
  · rw [if_pos c, xor_low k x c]
  · rw [if_neg c]
    obtain ⟨y, rfl⟩ : ∃ y, x = 2 ^ k + y := ⟨x - 2 ^ k, by omega⟩
    rw [xor_high k y (by omega), Nat.add_sub_cancel_left]
theorem fl_fl (P x : Nat) (h : x < 2 * P) : fl P (fl P x) = x := by
  unfold fl
  split <;> split <;> omega
theorem fl_lt (P x : Nat) (h : x < 2 * P) : fl P x < 2 * P := by
  unfold fl
  split <;> omega
theorem xor_both (k P x : Nat) (hP : 2 ^ k = P) (h : x < 2 * P) : x ^^^ fl P x = P := by
  rw [← xor_fl k P x hP h, ← Nat.xor_assoc, Nat.xor_self, Nat.zero_xor]
theorem wd_t (r : Nat) : wd true r = 9223372036854775808 + r := by unfold wd; rw [if_pos rfl]
theorem wd_f (r : Nat) : wd false r = r := by unfold wd; rw [if_neg (by decide)]
theorem W16_fl (h : Nat) (hh : h < 65536) : W16 (fl 32768 h) = fl 9223372036854775808 (W16 h) := by
  have hf := fl_lt 32768 h hh
  have e1 : fl 32768 h / 1024 % 32 = h / 1024 % 32 := by unfold fl; split <;> omega
  have e2 : fl 32768 h % 1024 = h % 1024 := by unfold fl; split <;> omega
  have e3 : (fl 32768 h / 32768 % 2 == 1) = !(h / 32768 % 2 == 1) := by
    by_cases c : h < 32768
    · rw [show h / 32768 % 2 = 0 by omega, show fl 32768 h / 32768 % 2 = 1 by unfold fl; rw [if_pos c]; omega]; rfl
    · rw [show h / 32768 % 2 = 1 by omega, show fl 32768 h / 32768 % 2 = 0 by unfold fl; rw [if_neg c]; omega]; rfl
  unfold W16
  rw [e1, e2, e3]
  have := R16_lt (h / 1024 % 32) (h % 1024) (by omega) (by omega)
  generalize R16 (h / 1024 % 32) (h % 1024) = r at *
  generalize (h / 32768 % 2 == 1) = s
  cases s
  · rw [Bool.not_false, wd_t, wd_f]; unfold fl; rw [if_pos this]
  · rw [Bool.not_true, wd_t, wd_f]; unfold fl; rw [if_neg (by omega), Nat.add_sub_cancel_left]
theorem W32_fl (h : Nat) (hh : h < 4294967296) : W32 (fl 2147483648 h) = fl 9223372036854775808 (W32 h) := by
  have hf := fl_lt 2147483648 h hh
  have e1 : fl 2147483648 h / 8388608 % 256 = h / 8388608 % 256 := by unfold fl; split <;> omega
  have e2 : fl 2147483648 h % 8388608 = h % 8388608 := by unfold fl; split <;> omega
  have e3 : (fl 2147483648 h / 2147483648 % 2 == 1) = !(h / 2147483648 % 2 == 1) := by
    by_cases c : h < 2147483648
    · rw [show h / 2147483648 % 2 = 0 by omega, show fl 2147483648 h / 2147483648 % 2 = 1 by unfold fl; rw [if_pos c]; omega]; rfl
    · rw [show h / 2147483648 % 2 = 1 by omega, show fl 2147483648 h / 2147483648 % 2 = 0 by unfold fl; rw [if_neg c]; omega]; rfl
  unfold W32
  rw [e1, e2, e3]
  have := R32_lt (h / 8388608 % 256) (h % 8388608) (by omega) (by omega)
  generalize R32 (h / 8388608 % 256) (h % 8388608) = r at *
  generalize (h / 2147483648 % 2 == 1) = s
  cases s
  · rw [Bool.not_false, wd_t, wd_f]; unfold fl; rw [if_pos this]
  · rw [Bool.not_true, wd_t, wd_f]; unfold fl; rw [if_neg (by omega), Nat.add_sub_cancel_left]
theorem fl_parts (b : Nat) (hb : b < 18446744073709551616) : fl 9223372036854775808 b % 9223372036854775808 = b % 9223372036854775808 ∧ fl 9223372036854775808 b / 9223372036854775808 % 2 + b / 9223372036854775808 % 2 = 1 := by
  unfold fl
  split <;> constructor <;> omega
theorem I16_fl (b : Nat) (hb : b < 18446744073709551616) : I16 (fl 9223372036854775808 b) = fl 32768 (I16 b) := by
  obtain ⟨h1, h2⟩ := fl_parts b hb
  unfold I16
  rw [h1]
  have := T16_lt (b % 9223372036854775808) (by omega)
  generalize T16 (b % 9223372036854775808) = t at *
  generalize fl 9223372036854775808 b / 9223372036854775808 % 2 = p at *
  generalize b / 9223372036854775808 % 2 = q at *
  unfold fl
  split <;> omega
theorem I32_fl (b : Nat) (hb : b < 18446744073709551616) : I32 (fl 9223372036854775808 b) = fl 2147483648 (I32 b) := by
  obtain ⟨h1, h2⟩ := fl_parts b hb
  unfold I32
  rw [h1]
  have := T32_lt (b % 9223372036854775808) (by omega)
  generalize T32 (b % 9223372036854775808) = t at *
  generalize fl 9223372036854775808 b / 9223372036854775808 % 2 = p at *
  generalize b / 9223372036854775808 % 2 = q at *
  unfold fl
  split <;> omega
theorem Cls_fl (b : Nat) (hb : b < 18446744073709551616) : Cls (fl 9223372036854775808 b) = Cls b := by
  unfold Cls; rw [(fl_parts b hb).1]
def top (n : Nat) : Nat := if n = 16 then 32768 else if n = 32 then 2147483648 else 9223372036854775808
theorem fl_inj (x y : Nat) (hx : x < 18446744073709551616) (hy : y < 18446744073709551616) : fl 9223372036854775808 x = fl 9223372036854775808 y ↔ x = y :=
  ⟨fun e => by rw [← fl_fl 9223372036854775808 x hx, e, fl_fl _ y hy], fun e => by rw [e]⟩
theorem top_16 : top 16 = 32768 := by unfold top; rw [if_pos rfl]
theorem top_32 : top 32 = 2147483648 := by unfold top; rw [if_neg (by decide), if_pos rfl]
theorem top_64 : top 64 = 9223372036854775808 := by unfold top; rw [if_neg (by decide), if_neg (by decide)]
/-- The narrow one of the turned. -/
theorem nar_fl (b : Nat) (hb : b < 18446744073709551616) : Nar (fl 9223372036854775808 b) = ((Nar b).1, fl (top (Nar b).1) (Nar b).2) := by
  unfold Nar
  rw [I16_fl b hb, I32_fl b hb, W16_fl _ (I16_lt b), W32_fl _ (I32_lt b)]
  by_cases c : W16 (I16 b) = b
  · rw [if_pos (by rw [c]), if_pos c]; show _ = (16, fl (top 16) (I16 b)); rw [top_16]
  · rw [if_neg (fun e => c ((fl_inj _ _ (W16_lt _) hb).1 e)), if_neg c]
    by_cases d : W32 (I32 b) = b
    · rw [if_pos (by rw [d]), if_pos d]; show _ = (32, fl (top 32) (I32 b)); rw [top_32]
    · rw [if_neg (fun e => d ((fl_inj _ _ (W32_lt _) hb).1 e)), if_neg d]; show _ = (64, fl (top 64) b); rw [top_64]
theorem nar_top (b : Nat) (hb : b < 18446744073709551616) : (Nar b).2 < 2 * top (Nar b).1 := by
  unfold Nar
  by_cases c : W16 (I16 b) = b
  · rw [if_pos c]; show I16 b < 2 * top 16; rw [top_16]; have := I16_lt b; omega
  · rw [if_neg c]
    by_cases d : W32 (I32 b) = b
    · rw [if_pos d]; show I32 b < 2 * top 32; rw [top_32]; have := I32_lt b; omega
    · rw [if_neg d]; show b < 2 * top 64; rw [top_64]; omega
end Go.Proofs.YtocmmdheegkbaaaDoor
