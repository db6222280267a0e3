/- Words of 64 and of 32 bits as numbers: reading, the nearest word, products by a power of two, comparing. No program in sight. -/
import Ieee.Arith
import Derived.KernelRfl
namespace Go.Proofs.YtocmmdheegkbaaaDoor
open Ieee
set_option linter.unusedVariables false
set_option linter.unusedSimpArgs false

theorem log2_is {n L : Nat} (h1 : 2 ^ L ≤ n) (h2 : n < 2 ^ (L + 1)) : n.log2 = L := by
  have hn : n ≠ 0 := by
    have := Nat.two_pow_pos L
    omega
  exact (Nat.log2_eq_iff hn).2 ⟨h1, h2⟩
theorem log2_mul (m d : Nat) (hm : m ≠ 0) : (m * 2 ^ d).log2 = m.log2 + d := by
  have h1 := Nat.log2_self_le hm
  have h2 := Nat.lt_log2_self (n := m)
  have hp := Nat.two_pow_pos d
  refine log2_is ?_ ?_
  · rw [Nat.pow_add]; exact Nat.mul_le_mul_right _ h1
  · rw [show m.log2 + d + 1 = (m.log2 + 1) + d by omega, Nat.pow_add]; exact Nat.mul_lt_mul_of_pos_right h2 hp

theorem cut_none (s : Bool) (n : Nat) : Toward.even.cut s n 0 = n := by
  simp [Toward.cut, Nat.mod_one]
theorem cut_exact (s : Bool) (m d : Nat) (hm : m ≠ 0) : Toward.even.cut s (m * 2 ^ d) d = m := by
  have h : min d ((m * 2 ^ d).log2 + 2) = d := by rw [log2_mul m d hm]; omega
  have hp := Nat.two_pow_pos d
  simp only [Toward.cut, h, Nat.shiftLeft_eq, Nat.one_mul]
  rw [Nat.mul_div_cancel _ hp, Nat.mul_mod_left]
  have : ¬ (2 ^ d < 2 * 0) := by omega
  have h0 : ¬ (2 ^ d = 0) := by omega
  simp [h0]
theorem cut_zero_exact (s : Bool) (m d : Nat) (hm : m ≠ 0) : Toward.zero.cut s (m * 2 ^ d) d = m := by
  have h : min d ((m * 2 ^ d).log2 + 2) = d := by rw [log2_mul m d hm]; omega
  have hp := Nat.two_pow_pos d
  simp only [Toward.cut, h, Nat.shiftLeft_eq, Nat.one_mul]
  rw [Nat.mul_div_cancel _ hp]
  simp
theorem cut_zero_none (s : Bool) (n : Nat) : Toward.zero.cut s n 0 = n := by
  simp [Toward.cut]
theorem cut_zero_small (s : Bool) (n d : Nat) (h : n < 2 ^ d) : Toward.zero.cut s n d = 0 := by
  simp only [Toward.cut, Nat.shiftLeft_eq, Nat.one_mul]
  have : n / 2 ^ min d (n.log2 + 2) = 0 := by
    apply Nat.div_eq_of_lt
    rcases Nat.le_total d (n.log2 + 2) with h' | h'
    · rw [Nat.min_eq_left h']; exact h
    · rw [Nat.min_eq_right h']
      have h2 := Nat.lt_log2_self (n := n)
      have : 2 ^ (n.log2 + 1) ≤ 2 ^ (n.log2 + 2) := Nat.pow_le_pow_right (by decide) (by omega)
      omega
  rw [this]; simp

section
variable (f : Format)
/-- No digit is lost: the number stands on a place that the format has. -/
theorem near_up (s : Bool) (mag : Nat) (place last : Int) (hm : mag ≠ 0) (hl : max (place + mag.log2 - f.fractionBits) f.leastPlace = last) (h : last ≤ place) :
    f.nearest s mag place = f.word s (min ((last - f.leastPlace).toNat * f.binade + mag * 2 ^ (place - last).toNat) f.infRung) := by
  unfold Format.nearest
  rw [if_neg hm]
  simp only [hl]
  rw [show (last - place).toNat = 0 by omega, cut_none, Nat.shiftLeft_eq]
/-- No digit is lost: what is dropped are zeros. -/
theorem near_down (s : Bool) (m d : Nat) (place last : Int) (hm : m ≠ 0) (hl : max (place + (m * 2 ^ d).log2 - f.fractionBits) f.leastPlace = last) (h : last = place + d) :
    f.nearest s (m * 2 ^ d) place = f.word s (min ((last - f.leastPlace).toNat * f.binade + m) f.infRung) := by
  have hp := Nat.two_pow_pos d
  have h0 : m * 2 ^ d ≠ 0 := by
    have := Nat.mul_pos (Nat.pos_of_ne_zero hm) hp
    omega
  unfold Format.nearest
  rw [if_neg h0]
  simp only [hl]
  rw [show (place - last).toNat = 0 by omega, Nat.shiftLeft_eq, Nat.pow_zero, Nat.mul_one, show (last - place).toNat = d by omega, cut_exact s m d hm]
theorem near_zero (s : Bool) (place : Int) : f.nearest s 0 place = f.word s 0 := by
  unfold Format.nearest; rw [if_pos rfl]
end

/-! ### 64 bits -/
theorem d_least : double.leastPlace = -1074 := by decide
theorem d_bin : double.binade = 4503599627370496 := by decide
theorem d_inf : double.infRung = 9218868437227405312 := by decide
theorem d_sw : double.signWeight = 9223372036854775808 := by decide
theorem d_fr : double.fractionBits = 52 := rfl
theorem s_least : single.leastPlace = -149 := by decide
theorem s_bin : single.binade = 8388608 := by decide
theorem s_inf : single.infRung = 2139095040 := by decide
theorem s_sw : single.signWeight = 2147483648 := by decide
theorem s_fr : single.fractionBits = 23 := rfl

/-- A word of a sign and a rung. -/
def wd (s : Bool) (r : Nat) : Nat := if s then 9223372036854775808 + r else r
theorem word_d (s : Bool) (r : Nat) : double.word s r = wd s r := by unfold Format.word wd; rw [d_sw]
theorem wd_parts (b : Nat) (h : b < 18446744073709551616) : b = wd (b / 9223372036854775808 % 2 == 1) (b % 9223372036854775808) := by
  unfold wd
  by_cases c : b < 9223372036854775808
  · have h0 : b / 9223372036854775808 = 0 := by omega
    rw [h0]; simp; omega
  · have h1 : b / 9223372036854775808 = 1 := by omega
    rw [h1]; simp; omega
theorem wd_sign (s : Bool) (r : Nat) (h : r < 9223372036854775808) : (wd s r / 9223372036854775808 % 2 == 1) = s ∧ wd s r % 9223372036854775808 = r := by
  cases s
  · have : r / 9223372036854775808 = 0 := by omega
    simp only [wd, this]; simp; omega
  · have : (9223372036854775808 + r) / 9223372036854775808 = 1 := by omega
    simp only [wd, if_true, this]; simp; omega

theorem rd_d (s : Bool) (r : Nat) (h : r < 9223372036854775808) :
    double.read (wd s r) = if r < 4503599627370496 then .number s r (-1074) else if r < 9218868437227405312 then .number s (4503599627370496 + r % 4503599627370496) (-1074 + ((r / 4503599627370496 - 1 : Nat) : Int)) else if r = 9218868437227405312 then .infinity s else .nan s (r - 9218868437227405312) := by
  obtain ⟨h1, h2⟩ := wd_sign s r h
  unfold Format.read
  simp only [d_sw, d_bin, d_inf, d_least, h1, h2]
theorem rd_sub (s : Bool) (r : Nat) (h : r < 4503599627370496) : double.read (wd s r) = .number s r (-1074) := by
  rw [rd_d s r (by omega), if_pos h]
theorem rd_norm (s : Bool) (r : Nat) (h : 4503599627370496 ≤ r) (h2 : r < 9218868437227405312) : double.read (wd s r) = .number s (4503599627370496 + r % 4503599627370496) (-1074 + ((r / 4503599627370496 - 1 : Nat) : Int)) := by
  rw [rd_d s r (by omega), if_neg (by omega), if_pos h2]
/-- By exponent and fraction. -/
theorem rd_ef (s : Bool) (e f : Nat) (he : 1 ≤ e) (he2 : e < 2047) (hf : f < 4503599627370496) : double.read (wd s (e * 4503599627370496 + f)) = .number s (4503599627370496 + f) (-1074 + ((e - 1 : Nat) : Int)) := by
  rw [rd_norm s _ (by omega) (by omega), show (e * 4503599627370496 + f) % 4503599627370496 = f by omega, show (e * 4503599627370496 + f) / 4503599627370496 = e by omega]

/-- The value in units of the least place. -/
def vl (r : Nat) : Nat := if r < 4503599627370496 then r else (4503599627370496 + r % 4503599627370496) * 2 ^ (r / 4503599627370496 - 1)
theorem vl_lo (r : Nat) (h : 4503599627370496 ≤ r) : 2 ^ 52 * 2 ^ (r / 4503599627370496 - 1) ≤ vl r := by
  unfold vl; rw [if_neg (by omega)]
  exact Nat.mul_le_mul_right _ (by omega)
theorem vl_hi (r : Nat) (h : 4503599627370496 ≤ r) : vl r < 2 ^ 53 * 2 ^ (r / 4503599627370496 - 1) := by
  unfold vl; rw [if_neg (by omega)]
  exact Nat.mul_lt_mul_of_pos_right (by omega) (Nat.two_pow_pos _)
theorem vl_mono {a b : Nat} (h : a < b) : vl a < vl b := by
  by_cases hb : b < 4503599627370496
  · unfold vl; rw [if_pos hb, if_pos (by omega)]; exact h
  by_cases ha : a < 4503599627370496
  · have h1 := vl_lo b (by omega)
    have h2 := Nat.two_pow_pos (b / 4503599627370496 - 1)
    have h3 : 2 ^ 52 * 1 ≤ 2 ^ 52 * 2 ^ (b / 4503599627370496 - 1) := Nat.mul_le_mul_left _ h2
    have h4 : vl a = a := by unfold vl; rw [if_pos ha]
    rw [h4]; omega
  · by_cases hq : a / 4503599627370496 = b / 4503599627370496
    · unfold vl; rw [if_neg ha, if_neg hb, hq]
      exact Nat.mul_lt_mul_of_pos_right (by omega) (Nat.two_pow_pos _)
    · have h1 := vl_hi a (by omega)
      have h2 := vl_lo b (by omega)
      have h3 : 2 ^ (a / 4503599627370496 - 1 + 1) ≤ 2 ^ (b / 4503599627370496 - 1) := Nat.pow_le_pow_right (by decide) (by omega)
      have h4 : 2 ^ 53 * 2 ^ (a / 4503599627370496 - 1) = 2 ^ 52 * 2 ^ (a / 4503599627370496 - 1 + 1) := by rw [Nat.pow_succ]; omega
      have h5 : 2 ^ 52 * 2 ^ (a / 4503599627370496 - 1 + 1) ≤ 2 ^ 52 * 2 ^ (b / 4503599627370496 - 1) := Nat.mul_le_mul_left _ h3
      omega
theorem vl_lt_iff (a b : Nat) : vl a < vl b ↔ a < b := by
  constructor
  · intro h
    rcases Nat.lt_trichotomy a b with c | c | c
    · exact c
    · subst c; omega
    · have := vl_mono c; omega
  · exact vl_mono
theorem vl_inj {a b : Nat} (h : vl a = vl b) : a = b := by
  rcases Nat.lt_trichotomy a b with c | c | c
  · have := vl_mono c; omega
  · exact c
  · have := vl_mono c; omega

/-- A finite word's number. -/
theorem rd_fin (s : Bool) (r : Nat) (h : r < 9218868437227405312) : ∃ m k, double.read (wd s r) = .number s m (-1074 + (k : Nat)) ∧ vl r = m * 2 ^ k := by
  by_cases c : r < 4503599627370496
  · refine ⟨r, 0, ?_, ?_⟩
    · rw [rd_sub s r c]; rfl
    · unfold vl; rw [if_pos c]; simp
  · refine ⟨_, _, rd_norm s r (by omega) h, ?_⟩
    unfold vl; rw [if_neg c]

theorem cmp_cast (x y : Nat) : compare (x : Int) (y : Int) = compare x y := by
  rcases Nat.lt_trichotomy x y with c | c | c
  · rw [Nat.compare_eq_lt.2 c, Int.compare_eq_lt.2 (by omega)]
  · subst c; simp
  · rw [Nat.compare_eq_gt.2 c, Int.compare_eq_gt.2 (by omega)]
theorem cmp_mul (x y p : Nat) (hp : 0 < p) : compare (x * p) (y * p) = compare x y := by
  rcases Nat.lt_trichotomy x y with c | c | c
  · rw [Nat.compare_eq_lt.2 c, Nat.compare_eq_lt.2 (Nat.mul_lt_mul_of_pos_right c hp)]
  · subst c; simp
  · rw [Nat.compare_eq_gt.2 c, Nat.compare_eq_gt.2 (Nat.mul_lt_mul_of_pos_right c hp)]
/-- Two words without a sign are ordered as their rungs. -/
theorem ord_pos (a b : Nat) (ha : a < 9218868437227405312) (hb : b < 9218868437227405312) : double.order a b = some (compare a b) := by
  obtain ⟨m, i, h1, h2⟩ := rd_fin false a ha
  obtain ⟨n, j, h3, h4⟩ := rd_fin false b hb
  unfold Format.order
  rw [show double.read a = _ from h1, show double.read b = _ from h3]
  simp only [Datum.order]
  have key : ∀ (i j m n : Nat), compare (signed false m ((-1074 + (i : Int)) - min (-1074 + (i : Int)) (-1074 + (j : Int))).toNat) (signed false n ((-1074 + (j : Int)) - min (-1074 + (i : Int)) (-1074 + (j : Int))).toNat) = compare (m * 2 ^ i) (n * 2 ^ j) := by
    intro i j m n
    simp only [signed, Bool.false_eq_true, if_false, Nat.shiftLeft_eq]
    rcases Nat.le_total i j with h | h
    · rw [show min (-1074 + (i : Int)) (-1074 + (j : Int)) = -1074 + (i : Int) by omega, show (-1074 + (i : Int) - (-1074 + (i : Int))).toNat = 0 by omega, show (-1074 + (j : Int) - (-1074 + (i : Int))).toNat = j - i by omega]
      have e : n * 2 ^ j = n * 2 ^ (j - i) * 2 ^ i := by rw [Nat.mul_assoc, ← Nat.pow_add, Nat.sub_add_cancel h]
      rw [e, Nat.pow_zero, Nat.mul_one]
      have hp := Nat.two_pow_pos i
      rw [cmp_cast, cmp_mul _ _ _ hp]
    · rw [show min (-1074 + (i : Int)) (-1074 + (j : Int)) = -1074 + (j : Int) by omega, show (-1074 + (j : Int) - (-1074 + (j : Int))).toNat = 0 by omega, show (-1074 + (i : Int) - (-1074 + (j : Int))).toNat = i - j by omega]
      have e : m * 2 ^ i = m * 2 ^ (i - j) * 2 ^ j := by rw [Nat.mul_assoc, ← Nat.pow_add, Nat.sub_add_cancel h]
      rw [e, Nat.pow_zero, Nat.mul_one]
      have hp := Nat.two_pow_pos j
      rw [cmp_cast, cmp_mul _ _ _ hp]
  rw [key, ← h2, ← h4]
  rcases Nat.lt_trichotomy a b with c | c | c
  · rw [Nat.compare_eq_lt.2 c, Nat.compare_eq_lt.2 (vl_mono c)]
  · subst c; simp
  · rw [Nat.compare_eq_gt.2 c, Nat.compare_eq_gt.2 (vl_mono c)]
/-- No number, or infinity. -/
theorem ord_nan (s : Bool) (r : Nat) (h : 9218868437227405312 < r) (h2 : r < 9223372036854775808) (y : Nat) : double.order (wd s r) y = none := by
  unfold Format.order
  rw [rd_d s r h2, if_neg (by omega), if_neg (by omega), if_neg (by omega)]
  rfl
theorem ord_self (s : Bool) (r : Nat) (h : r ≤ 9218868437227405312) : double.order (wd s r) (wd s r) = some .eq := by
  unfold Format.order
  rcases Nat.lt_or_ge r 9218868437227405312 with c | c
  · obtain ⟨m, i, h1, _⟩ := rd_fin s r c
    rw [h1]; simp [Datum.order]
  · obtain rfl : r = 9218868437227405312 := by omega
    rw [rd_d s _ (by decide), if_neg (by decide), if_neg (by decide), if_pos rfl]
    cases s <;> rfl
theorem ord_inf (y : Nat) (h : y < 9218868437227405312) : double.order 9218868437227405312 y = some .gt ∧ double.order y 9218868437227405312 = some .lt := by
  obtain ⟨m, i, h1, _⟩ := rd_fin false y h
  have h2 := rd_d false 9218868437227405312 (by decide)
  rw [if_neg (by decide), if_neg (by decide), if_pos rfl] at h2
  unfold Format.order
  rw [show double.read y = _ from h1, show double.read 9218868437227405312 = _ from h2]
  exact ⟨rfl, rfl⟩
/-- Is it zero? -/
theorem ord_zero (s : Bool) (r : Nat) (h : r < 9223372036854775808) : (double.order (wd s r) 0 == some .eq) = decide (r = 0) := by
  have z : double.read 0 = .number false 0 (-1074) := rd_sub false 0 (by decide)
  unfold Format.order
  rw [z]
  rcases Nat.lt_or_ge r 9218868437227405312 with c | c
  · obtain ⟨m, i, h1, h2⟩ := rd_fin s r c
    rw [h1]
    simp only [Datum.order]
    have e : min (-1074 + (i : Int)) (-1074) = -1074 := by omega
    rw [e, show (-1074 + (i : Int) - (-1074)).toNat = i by omega, show ((-1074 : Int) - (-1074)).toNat = 0 by omega]
    have hz : (r = 0) ↔ (m * 2 ^ i = 0) := by
      rw [← h2]
      constructor
      · intro h; subst h; rfl
      · intro h; exact vl_inj (h.trans rfl)
    have hs : ∀ x : Nat, (some (compare (if s = true then -((x : Nat) : Int) else (x : Int)) 0) == some Ordering.eq) = decide (x = 0) := by
      intro x
      by_cases hx : x = 0
      · subst hx; cases s <;> rfl
      · have : compare (if s = true then -((x : Nat) : Int) else (x : Int)) 0 ≠ .eq := by
          intro hc
          have := Int.compare_eq_eq.1 hc
          cases s <;> simp at this <;> omega
        rw [decide_eq_false hx]
        cases hc : compare (if s = true then -((x : Nat) : Int) else (x : Int)) 0
        · rfl
        · exact absurd hc this
        · rfl
    have := hs (m * 2 ^ i)
    simp only [signed, Nat.shiftLeft_eq, Bool.false_eq_true, if_false]
    rw [show (((0 * 2 ^ 0 : Nat)) : Int) = 0 by simp, this]
    by_cases hr : r = 0
    · rw [decide_eq_true hr, decide_eq_true (hz.1 hr)]
    · rw [decide_eq_false hr, decide_eq_false (fun h => hr (hz.2 h))]
  · rw [decide_eq_false (by omega), rd_d s r h, if_neg (by omega), if_neg (by omega)]
    split
    · cases s <;> rfl
    · rfl
end Go.Proofs.YtocmmdheegkbaaaDoor
