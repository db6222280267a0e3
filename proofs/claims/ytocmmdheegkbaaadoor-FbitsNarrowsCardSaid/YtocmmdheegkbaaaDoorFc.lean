/- Widening and narrowing in numbers. No program in sight. -/
import Derived.Test.YtocmmdheegkbaaaDoorFb
namespace Go.Proofs.YtocmmdheegkbaaaDoor
set_option linter.unusedVariables false
set_option linter.unusedSimpArgs false

/-- A widened pattern of 16 bits, its rung. -/
def R16 (e fr : Nat) : Nat := if e = 31 then 9218868437227405312 + fr * 4398046511104 else if e = 0 then (if fr = 0 then 0 else (fr.log2 + 998) * 4503599627370496 + fr * 2 ^ (52 - fr.log2)) else (e + 1008) * 4503599627370496 + fr * 4398046511104
def R32 (e fr : Nat) : Nat := if e = 255 then 9218868437227405312 + fr * 536870912 else if e = 0 then (if fr = 0 then 0 else (fr.log2 + 873) * 4503599627370496 + fr * 2 ^ (52 - fr.log2)) else (e + 896) * 4503599627370496 + fr * 536870912
def W16 (h : Nat) : Nat := wd (h / 32768 % 2 == 1) (R16 (h / 1024 % 32) (h % 1024))
def W32 (h : Nat) : Nat := wd (h / 2147483648 % 2 == 1) (R32 (h / 8388608 % 256) (h % 8388608))

/-- The pattern of 16 bits that may be the narrow one, by its size. -/
def T16 (r : Nat) : Nat :=
  if r = 0 then 0 else if 9218868437227405312 ≤ r then 31744 + r % 4503599627370496 / 4398046511104
  else if r / 4503599627370496 = 0 ∨ 1039 ≤ r / 4503599627370496 then 0
  else if 1009 ≤ r / 4503599627370496 then (r / 4503599627370496 - 1008) * 1024 + r % 4503599627370496 / 4398046511104
  else (4503599627370496 + r % 4503599627370496) / 4398046511104 / 2 ^ (1009 - r / 4503599627370496)
def T32 (r : Nat) : Nat :=
  if r = 0 then 0 else if 9218868437227405312 ≤ r then 2139095040 + r % 4503599627370496 / 536870912
  else if r / 4503599627370496 = 0 ∨ 1151 ≤ r / 4503599627370496 then 0
  else if 897 ≤ r / 4503599627370496 then (r / 4503599627370496 - 896) * 8388608 + r % 4503599627370496 / 536870912
  else (4503599627370496 + r % 4503599627370496) / 536870912 / 2 ^ (897 - r / 4503599627370496)

theorem lead' (n : Nat) (hn : n ≠ 0) (h52 : n < 4503599627370496) : 4503599627370496 ≤ n * 2 ^ (52 - n.log2) ∧ n * 2 ^ (52 - n.log2) < 9007199254740992 :=
  lead n _ hn rfl (Nat.le_of_lt ((Nat.log2_lt hn).2 h52))
theorem log_lt {n k : Nat} (hn : n ≠ 0) (h : n < 2 ^ k) : n.log2 < k := (Nat.log2_lt hn).2 h

theorem R16_lt (e fr : Nat) (he : e < 32) (hf : fr < 1024) : R16 e fr < 9223372036854775808 := by
  unfold R16
  split
  · omega
  · split
    · split
      · omega
      · rename_i hn
        have h1 := lead' fr hn (by omega)
        have h2 : fr.log2 < 10 := log_lt hn hf
        omega
    · omega
theorem R32_lt (e fr : Nat) (he : e < 256) (hf : fr < 8388608) : R32 e fr < 9223372036854775808 := by
  unfold R32
  split
  · omega
  · split
    · split
      · omega
      · rename_i hn
        have h1 := lead' fr hn (by omega)
        have h2 : fr.log2 < 23 := log_lt hn hf
        omega
    · omega
theorem T16_lt (r : Nat) (h : r < 9223372036854775808) : T16 r < 32768 := by
  unfold T16
  split
  · omega
  · split
    · omega
    · split
      · omega
      · split
        · omega
        · have h1 : 2 ^ 1 ≤ 2 ^ (1009 - r / 4503599627370496) := Nat.pow_le_pow_right (by decide) (by omega)
          have h2 : (4503599627370496 + r % 4503599627370496) / 4398046511104 / 2 ^ (1009 - r / 4503599627370496) ≤ (4503599627370496 + r % 4503599627370496) / 4398046511104 := Nat.div_le_self _ _
          omega
theorem T32_lt (r : Nat) (h : r < 9223372036854775808) : T32 r < 2147483648 := by
  unfold T32
  split
  · omega
  · split
    · omega
    · split
      · omega
      · split
        · omega
        · have h2 : (4503599627370496 + r % 4503599627370496) / 536870912 / 2 ^ (897 - r / 4503599627370496) ≤ (4503599627370496 + r % 4503599627370496) / 536870912 := Nat.div_le_self _ _
          omega

theorem R16_sub (fr : Nat) (hn : fr ≠ 0) (hf : fr < 1024) : R16 0 fr = (fr.log2 + 998) * 4503599627370496 + fr * 2 ^ (52 - fr.log2) := by
  unfold R16; rw [if_neg (by decide), if_pos rfl, if_neg hn]
theorem R32_sub (fr : Nat) (hn : fr ≠ 0) (hf : fr < 8388608) : R32 0 fr = (fr.log2 + 873) * 4503599627370496 + fr * 2 ^ (52 - fr.log2) := by
  unfold R32; rw [if_neg (by decide), if_pos rfl, if_neg hn]

theorem T16_R16 (e fr : Nat) (he : e < 32) (hf : fr < 1024) : T16 (R16 e fr) = e * 1024 + fr := by
  by_cases c31 : e = 31
  · subst c31
    unfold R16 T16
    rw [if_pos rfl, if_neg (by omega), if_pos (by omega)]
    omega
  by_cases c0 : e = 0
  · subst c0
    by_cases hn : fr = 0
    · subst hn; rfl
    · rw [R16_sub fr hn hf]
      have h1 := lead' fr hn (by omega)
      have h2 : fr.log2 < 10 := log_lt hn hf
      obtain ⟨L, hL⟩ : ∃ L, fr.log2 = L := ⟨_, rfl⟩
      rw [hL] at h1 h2 ⊢
      obtain ⟨m, hm⟩ : ∃ m, fr * 2 ^ (52 - L) = m := ⟨_, rfl⟩
      rw [hm] at h1 ⊢
      have hE : ((L + 998) * 4503599627370496 + m) / 4503599627370496 = L + 999 := by omega
      have hF : ((L + 998) * 4503599627370496 + m) % 4503599627370496 = m - 4503599627370496 := by omega
      unfold T16
      rw [if_neg (by omega), if_neg (by omega), hE, hF, if_neg (by omega), if_neg (by omega), show 4503599627370496 + (m - 4503599627370496) = m by omega, show 1009 - (L + 999) = 10 - L by omega, ← hm]
      have e1 : fr * 2 ^ (52 - L) = fr * 2 ^ (10 - L) * 4398046511104 := by
        rw [show (4398046511104 : Nat) = 2 ^ 42 by decide, Nat.mul_assoc, ← Nat.pow_add, show 10 - L + 42 = 52 - L by omega]
      rw [e1, Nat.mul_div_cancel _ (by decide), Nat.mul_div_cancel _ (Nat.two_pow_pos _)]
      omega
  · unfold R16
    rw [if_neg c31, if_neg c0]
    have hE : ((e + 1008) * 4503599627370496 + fr * 4398046511104) / 4503599627370496 = e + 1008 := by omega
    have hF : ((e + 1008) * 4503599627370496 + fr * 4398046511104) % 4503599627370496 = fr * 4398046511104 := by omega
    unfold T16
    rw [if_neg (by omega), if_neg (by omega), hE, hF, if_neg (by omega), if_pos (by omega)]
    omega
theorem T32_R32 (e fr : Nat) (he : e < 256) (hf : fr < 8388608) : T32 (R32 e fr) = e * 8388608 + fr := by
  by_cases c31 : e = 255
  · subst c31
    unfold R32 T32
    rw [if_pos rfl, if_neg (by omega), if_pos (by omega)]
    omega
  by_cases c0 : e = 0
  · subst c0
    by_cases hn : fr = 0
    · subst hn; rfl
    · rw [R32_sub fr hn hf]
      have h1 := lead' fr hn (by omega)
      have h2 : fr.log2 < 23 := log_lt hn hf
      obtain ⟨L, hL⟩ : ∃ L, fr.log2 = L := ⟨_, rfl⟩
      rw [hL] at h1 h2 ⊢
      obtain ⟨m, hm⟩ : ∃ m, fr * 2 ^ (52 - L) = m := ⟨_, rfl⟩
      rw [hm] at h1 ⊢
      have hE : ((L + 873) * 4503599627370496 + m) / 4503599627370496 = L + 874 := by omega
      have hF : ((L + 873) * 4503599627370496 + m) % 4503599627370496 = m - 4503599627370496 := by omega
      unfold T32
      rw [if_neg (by omega), if_neg (by omega), hE, hF, if_neg (by omega), if_neg (by omega), show 4503599627370496 + (m - 4503599627370496) = m by omega, show 897 - (L + 874) = 23 - L by omega, ← hm]
      have e1 : fr * 2 ^ (52 - L) = fr * 2 ^ (23 - L) * 536870912 := by
        rw [show (536870912 : Nat) = 2 ^ 29 by decide, Nat.mul_assoc, ← Nat.pow_add, show 23 - L + 29 = 52 - L by omega]
      rw [e1, Nat.mul_div_cancel _ (by decide), Nat.mul_div_cancel _ (Nat.two_pow_pos _)]
      omega
  · unfold R32
    rw [if_neg c31, if_neg c0]
    have hE : ((e + 896) * 4503599627370496 + fr * 536870912) / 4503599627370496 = e + 896 := by omega
    have hF : ((e + 896) * 4503599627370496 + fr * 536870912) % 4503599627370496 = fr * 536870912 := by omega
    unfold T32
    rw [if_neg (by omega), if_neg (by omega), hE, hF, if_neg (by omega), if_pos (by omega)]
    omega

/-- With the sign. -/
def I16 (b : Nat) : Nat := b / 9223372036854775808 % 2 * 32768 + T16 (b % 9223372036854775808)
def I32 (b : Nat) : Nat := b / 9223372036854775808 % 2 * 2147483648 + T32 (b % 9223372036854775808)
theorem I16_lt (b : Nat) : I16 b < 65536 := by
  have := T16_lt (b % 9223372036854775808) (by omega)
  unfold I16; omega
theorem I32_lt (b : Nat) : I32 b < 4294967296 := by
  have := T32_lt (b % 9223372036854775808) (by omega)
  unfold I32; omega
theorem wd_div (s : Bool) (r : Nat) (h : r < 9223372036854775808) : wd s r / 9223372036854775808 % 2 = (if s then 1 else 0) ∧ wd s r % 9223372036854775808 = r ∧ wd s r < 18446744073709551616 := by
  cases s
  · simp only [wd, Bool.false_eq_true, if_false]; omega
  · simp only [wd, if_true]; omega
theorem I16_W16 (h : Nat) (hh : h < 65536) : I16 (W16 h) = h := by
  have hb := R16_lt (h / 1024 % 32) (h % 1024) (by omega) (by omega)
  obtain ⟨h1, h2, _⟩ := wd_div (h / 32768 % 2 == 1) _ hb
  unfold I16 W16
  rw [h1, h2, T16_R16 _ _ (by omega) (by omega)]
  by_cases c : h / 32768 % 2 = 1
  · rw [c]; simp; omega
  · rw [show (h / 32768 % 2 == 1) = false from beq_eq_false_iff_ne.2 c]; simp; omega
theorem I32_W32 (h : Nat) (hh : h < 4294967296) : I32 (W32 h) = h := by
  have hb := R32_lt (h / 8388608 % 256) (h % 8388608) (by omega) (by omega)
  obtain ⟨h1, h2, _⟩ := wd_div (h / 2147483648 % 2 == 1) _ hb
  unfold I32 W32
  rw [h1, h2, T32_R32 _ _ (by omega) (by omega)]
  by_cases c : h / 2147483648 % 2 = 1
  · rw [c]; simp; omega
  · rw [show (h / 2147483648 % 2 == 1) = false from beq_eq_false_iff_ne.2 c]; simp; omega
theorem W16_lt (h : Nat) : W16 h < 18446744073709551616 := (wd_div _ _ (R16_lt (h / 1024 % 32) (h % 1024) (by omega) (by omega))).2.2
theorem W32_lt (h : Nat) : W32 h < 18446744073709551616 := (wd_div _ _ (R32_lt (h / 8388608 % 256) (h % 8388608) (by omega) (by omega))).2.2

/-- What Narrow answers. -/
def Nar (b : Nat) : Nat × Nat := if W16 (I16 b) = b then (16, I16 b) else if W32 (I32 b) = b then (32, I32 b) else (64, b)
/-- A guess that finds each pattern that is one's is as good. -/
theorem nar_guess (b g k : Nat) (hg : g < 65536) (hk : k < 4294967296) (h16 : ∀ h, h < 65536 → W16 h = b → g = h) (h32 : ∀ h, h < 4294967296 → W32 h = b → k = h) :
    Nar b = if W16 g = b then (16, g) else if W32 k = b then (32, k) else (64, b) := by
  unfold Nar
  by_cases c : W16 g = b
  · have : I16 b = g := by rw [← c]; exact I16_W16 g hg
    rw [this, if_pos c, if_pos c]
  · have c2 : ¬ W16 (I16 b) = b := fun e => c (by rw [h16 _ (I16_lt b) e]; exact e)
    rw [if_neg c, if_neg c2]
    by_cases d : W32 k = b
    · have : I32 b = k := by rw [← d]; exact I32_W32 k hk
      rw [this]
    · have d2 : ¬ W32 (I32 b) = b := fun e => d (by rw [h32 _ (I32_lt b) e]; exact e)
      rw [if_neg d, if_neg d2]

/-- What Class answers. -/
def Cls (b : Nat) : Nat :=
  if 9218868437227405312 < b % 9223372036854775808 then 5 else if b % 9223372036854775808 = 9218868437227405312 then 4 else if b % 9223372036854775808 = 0 then 1 else if b % 9223372036854775808 < 4503599627370496 then 2 else 3
end Go.Proofs.YtocmmdheegkbaaaDoor
