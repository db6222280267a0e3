/- The operations on floats that fbits uses, at the words that it hands them. No program in sight. -/
import Derived.Test.YtocmmdheegkbaaaDoorFa
import Derived.Laws.FloatArith
namespace Go.Proofs.YtocmmdheegkbaaaDoor
open Ieee
set_option linter.unusedVariables false
set_option linter.unusedSimpArgs false

theorem near_d (s : Bool) (n L : Nat) (p : Int) (x : Nat) (hn : n ≠ 0) (hL : n.log2 = L) (h52 : L ≤ 52) (hx : p + L + 1022 = x) (hx2 : x ≤ 2045) :
    double.nearest s n p = wd s (x * 4503599627370496 + n * 2 ^ (52 - L)) := by
  have hlt := Nat.lt_log2_self (n := n)
  rw [hL] at hlt
  have hb : n * 2 ^ (52 - L) < 2 ^ 53 := by
    have h1 := Nat.mul_lt_mul_of_pos_right hlt (Nat.two_pow_pos (52 - L))
    rw [← Nat.pow_add, show L + 1 + (52 - L) = 53 by omega] at h1
    exact h1
  rw [near_up double s n p (p + L - 52) hn (by rw [hL, d_fr, d_least]; omega) (by omega), word_d, d_bin, d_inf, d_least, show (p + L - 52 - -1074).toNat = x by omega, show (p - (p + L - 52)).toNat = 52 - L by omega, Nat.min_eq_left]
  omega
theorem log2_le (n : Nat) (hn : n ≠ 0) : 2 ^ n.log2 ≤ n ∧ n < 2 ^ (n.log2 + 1) := ⟨Nat.log2_self_le hn, Nat.lt_log2_self⟩
/-- A number's leading digit is laid at place 52. -/
theorem lead (n L : Nat) (hn : n ≠ 0) (hL : n.log2 = L) (h52 : L ≤ 52) : 4503599627370496 ≤ n * 2 ^ (52 - L) ∧ n * 2 ^ (52 - L) < 9007199254740992 := by
  obtain ⟨h1, h2⟩ := log2_le n hn
  rw [hL] at h1 h2
  have hp := Nat.two_pow_pos (52 - L)
  have h3 := Nat.mul_le_mul_right (2 ^ (52 - L)) h1
  have h4 := Nat.mul_lt_mul_of_pos_right h2 hp
  rw [← Nat.pow_add, show L + (52 - L) = 52 by omega] at h3
  rw [← Nat.pow_add, show L + 1 + (52 - L) = 53 by omega] at h4
  exact ⟨h3, h4⟩

/-- float64(n). -/
theorem of_int (n L : Nat) (hn : n ≠ 0) (hL : n.log2 = L) (h52 : L ≤ 52) : FloatKind.nearest .f64 (n : Int) = wd false ((L + 1022) * 4503599627370496 + n * 2 ^ (52 - L)) := by
  unfold FloatKind.nearest FloatKind.encode FloatKind.format Format.write
  rw [show decide ((n : Int) < 0) = false from decide_eq_false (by omega), Int.natAbs_natCast]
  exact near_d false n L 0 (L + 1022) hn hL h52 (by omega) (by omega)
theorem of_zero : FloatKind.nearest .f64 0 = 0 := by decide

theorem log_lead (m : Nat) (h1 : 4503599627370496 ≤ m) (h2 : m < 9007199254740992) : m.log2 = 52 := log2_is (by omega) (by omega)

/-- 1 * x. -/
theorem mul_one_ (s : Bool) (r : Nat) (h1 : 4503599627370496 ≤ r) (h2 : r < 9218868437227405312) : floatBits .mul .f64 4607182418800017408 (wd s r) = some (wd s r) := by
  have e1 : double.read 4607182418800017408 = .number false 4503599627370496 (-52) := by decide
  show double.mul 4607182418800017408 (wd s r) = _
  unfold Format.mul
  rw [e1, rd_norm s r h1 h2]
  simp only [Datum.product, Option.map_some, Format.write, Bool.false_xor]
  generalize hm : 4503599627370496 + r % 4503599627370496 = m
  have hl := log_lead m (by omega) (by omega)
  rw [Nat.mul_comm 4503599627370496 m, show (4503599627370496 : Nat) = 2 ^ 52 from rfl]
  rw [near_down double s m 52 _ (-1074 + ((r / 2 ^ 52 - 1 : Nat) : Int)) (by omega) (by rw [log2_mul m 52 (by omega), hl, d_fr, d_least]; omega) (by omega), word_d, d_bin, d_inf, d_least, Nat.min_eq_left (by omega)]
  congr 2
  omega
/-- x * 2^52, x less than each normal number. -/
theorem mul_up (s : Bool) (r L : Nat) (hr : r ≠ 0) (hL : r.log2 = L) (h2 : r < 4503599627370496) : floatBits .mul .f64 (wd s r) 4841369599423283200 = some (wd s (L * 4503599627370496 + r * 2 ^ (52 - L))) := by
  have e1 : double.read 4841369599423283200 = .number false 4503599627370496 0 := by decide
  have h52 : L < 52 := by
    rw [← hL]; exact (Nat.log2_lt hr).2 h2
  show double.mul (wd s r) 4841369599423283200 = _
  unfold Format.mul
  rw [e1, rd_sub s r h2]
  simp only [Datum.product, Option.map_some, Format.write, Bool.xor_false]
  obtain ⟨h3, h4⟩ := lead r L hr hL (by omega)
  generalize hm : r * 2 ^ (52 - L) = m at *
  have e2 : r * 4503599627370496 = m * 2 ^ L := by
    rw [← hm, Nat.mul_assoc, ← Nat.pow_add, show 52 - L + L = 52 by omega]
  have hl := log_lead m h3 h4
  rw [e2, near_down double s m L _ (-1074 + (L : Int)) (by omega) (by rw [log2_mul m L (by omega), hl, d_fr, d_least]; omega) (by omega), word_d, d_bin, d_inf, d_least, show (-1074 + (L : Int) - -1074).toNat = L by omega, Nat.min_eq_left (by omega)]
/-- x * 2^-53, x tiny: tinier. -/
theorem mul_down (r : Nat) (h1 : 4503599627370496 ≤ r) (h2 : r < 54 * 4503599627370496) : ∃ q, floatBits .mul .f64 4368491638549381120 (wd false r) = some (wd false q) ∧ q ≤ 4503599627370496 := by
  have e1 : double.read 4368491638549381120 = .number false 4503599627370496 (-105) := by decide
  show ∃ q, double.mul 4368491638549381120 (wd false r) = some (wd false q) ∧ q ≤ 4503599627370496
  unfold Format.mul
  rw [e1, rd_norm false r h1 (by omega)]
  simp only [Datum.product, Option.map_some, Format.write, Bool.false_xor]
  generalize hm : 4503599627370496 + r % 4503599627370496 = m
  generalize hk : r / 4503599627370496 - 1 = k
  have hk2 : k ≤ 52 := by omega
  have hl := log_lead m (by omega) (by omega)
  rw [show 4503599627370496 * m = m * 2 ^ 52 by omega]
  have hlog := log2_mul m 52 (by omega)
  rw [hl] at hlog
  have hne : m * 2 ^ 52 ≠ 0 := by omega
  unfold Format.nearest
  rw [if_neg hne]
  simp only [hlog, d_fr, d_least, d_bin, d_inf, word_d]
  rw [show max (-105 + (-1074 + (k : Int)) + ((52 + 52 : Nat) : Int) - ((52 : Nat) : Int)) (-1074) = -1074 by omega,
    show (-105 + (-1074 + (k : Int)) - (-1074)).toNat = 0 by omega, show ((-1074 : Int) - (-105 + (-1074 + (k : Int)))).toNat = 105 - k by omega, Nat.shiftLeft_eq, Nat.pow_zero, Nat.mul_one]
  refine ⟨_, rfl, ?_⟩
  have hc : Toward.even.cut false (m * 2 ^ 52) (105 - k) ≤ 4503599627370496 := by
    simp only [Toward.cut, hlog, Nat.shiftLeft_eq, Nat.one_mul]
    rw [show min (105 - k) (52 + 52 + 2) = 105 - k by omega]
    have hd : m * 2 ^ 52 / 2 ^ (105 - k) < 4503599627370496 := by
      rw [Nat.div_lt_iff_lt_mul (Nat.two_pow_pos _)]
      have : 2 ^ 53 ≤ 2 ^ (105 - k) := Nat.pow_le_pow_right (by decide) (by omega)
      omega
    generalize m * 2 ^ 52 / 2 ^ (105 - k) = q at hd ⊢
    generalize (decide (2 ^ (105 - k) < 2 * (m * 2 ^ 52 % 2 ^ (105 - k))) || 2 ^ (105 - k) == 2 * (m * 2 ^ 52 % 2 ^ (105 - k)) && q % 2 == 1) = b
    cases b <;> simp <;> omega
  omega

/-- uint64(x), x not great. -/
theorem to_int (r : Nat) (h : r < 1075 * 4503599627370496) : ∃ n : Nat, floatToIntVal .f64 (wd false r) .u64 = some (n : Int) ∧ n < 9007199254740992 := by
  have hz : ∀ (m : Nat) (i : Int), i ≤ 0 → m < 9007199254740992 → ∃ n : Nat, ((Datum.number false m i).toInt .zero) = some (n : Int) ∧ n < 9007199254740992 := by
    intro m i hi hm
    refine ⟨Toward.zero.cut false m (-i).toNat, ?_, ?_⟩
    · simp only [Datum.toInt, Datum.integral]
      rw [show i.toNat = 0 by omega, Nat.shiftLeft_eq, Nat.pow_zero, Nat.mul_one]
      simp [signed]
    · simp only [Toward.cut, Bool.toNat_false, Nat.add_zero]
      exact Nat.lt_of_le_of_lt (Nat.div_le_self _ _) hm
  have key : ∃ n : Nat, ((double.read (wd false r)).toInt .zero) = some (n : Int) ∧ n < 9007199254740992 := by
    by_cases c : r < 4503599627370496
    · rw [rd_sub false r c]; exact hz _ _ (by omega) (by omega)
    · rw [rd_norm false r (by omega) (by omega)]; exact hz _ _ (by omega) (by omega)
  obtain ⟨n, h1, h2⟩ := key
  refine ⟨n, ?_, h2⟩
  unfold floatToIntVal
  rw [show (FloatKind.decode .f64 (wd false r)) = double.read (wd false r) from rfl, h1]
  simp only
  rw [if_pos]
  simp [IntKind.min, IntKind.max, IntKind.signed, IntKind.bits]; omega
theorem cut_zero_far (s : Bool) (n d : Nat) (h : n < 9007199254740992) (hd : 53 ≤ d) : Toward.zero.cut s n d = 0 :=
  cut_zero_small s n d (Nat.lt_of_lt_of_le (show n < 2 ^ 53 by omega) (Nat.pow_le_pow_right (by decide) hd))
theorem to_int_zero (r : Nat) (h : r ≤ 4503599627370496) : floatToIntVal .f64 (wd false r) .u64 = some 0 := by
  have key : ((double.read (wd false r)).toInt .zero) = some 0 := by
    by_cases c : r < 4503599627370496
    · rw [rd_sub false r c]
      simp only [Datum.toInt, Datum.integral]
      rw [show (-1074 : Int).toNat = 0 from rfl, show (-(-1074) : Int).toNat = 1074 from rfl, Nat.shiftLeft_eq, Nat.pow_zero, Nat.mul_one, cut_zero_far false r 1074 (by omega) (by decide)]
      rfl
    · obtain rfl : r = 4503599627370496 := by omega
      rw [rd_norm false _ (by omega) (by omega)]
      simp only [Datum.toInt, Datum.integral]
      rw [show (-1074 + ((4503599627370496 / 4503599627370496 - 1 : Nat) : Int)).toNat = 0 from rfl, show (-(-1074 + ((4503599627370496 / 4503599627370496 - 1 : Nat) : Int))).toNat = 1074 from rfl, Nat.shiftLeft_eq, Nat.pow_zero, Nat.mul_one,
        cut_zero_far false _ 1074 (by decide) (by decide)]
      rfl
  unfold floatToIntVal
  rw [show (FloatKind.decode .f64 (wd false r)) = double.read (wd false r) from rfl, key]
  decide
theorem int_of_read (w : Nat) (n : Nat) (h : ((double.read w).toInt .zero) = some (n : Int)) (hb : n < 9007199254740992) : floatToIntVal .f64 w .u64 = some (n : Int) := by
  unfold floatToIntVal
  rw [show (FloatKind.decode .f64 w) = double.read w from rfl, h]
  simp only
  rw [if_pos]
  simp [IntKind.min, IntKind.max, IntKind.signed, IntKind.bits]; omega
theorem toInt_num (n d : Nat) (p : Int) (hn : n ≠ 0) (hp : p = -(d : Int)) : (Datum.number false (n * 2 ^ d) p).toInt .zero = some (n : Int) := by
  simp only [Datum.toInt, Datum.integral]
  rw [show p.toNat = 0 by omega, show (-p).toNat = d by omega, Nat.shiftLeft_eq, Nat.pow_zero, Nat.mul_one, cut_zero_exact false n d hn]
  simp [signed]
/-- A whole number, exactly. -/
theorem to_int_exact (n L : Nat) (hn : n ≠ 0) (hL : n.log2 = L) (h52 : L ≤ 51) : floatToIntVal .f64 (wd false ((L + 1022) * 4503599627370496 + n * 2 ^ (52 - L))) .u64 = some (n : Int) := by
  obtain ⟨h1, h2⟩ := lead n L hn hL (by omega)
  have hb := (log2_le n hn).2
  rw [hL] at hb
  have hb2 : 2 ^ (L + 1) ≤ 2 ^ 52 := Nat.pow_le_pow_right (by decide) (by omega)
  obtain ⟨m, hm⟩ : ∃ m, n * 2 ^ (52 - L) = m := ⟨_, rfl⟩
  rw [hm] at h1 h2
  refine int_of_read _ n ?_ (by omega)
  rw [hm, rd_norm false _ (by omega) (by omega), show ((L + 1022) * 4503599627370496 + m) % 4503599627370496 = m - 4503599627370496 by omega, show ((L + 1022) * 4503599627370496 + m) / 4503599627370496 - 1 = L + 1022 by omega,
      show 4503599627370496 + (m - 4503599627370496) = m by omega, ← hm]
  exact toInt_num n (52 - L) _ hn (by omega)

/-- float32(x). -/
theorem to_single (r : Nat) (h : r < 9218868437227405312) : floatToFloatBits .f64 (wd false r) .f32 = none ∨ ∃ q, floatToFloatBits .f64 (wd false r) .f32 = some q ∧ q < 2147483648 := by
  obtain ⟨m, k, h1, _⟩ := rd_fin false r h
  unfold floatToFloatBits
  rw [if_neg (by decide), show (FloatKind.decode .f64 (wd false r)) = double.read (wd false r) from rfl, h1]
  simp only
  split
  · exact .inl rfl
  · refine .inr ⟨_, rfl, ?_⟩
    show single.nearest false m _ < _
    unfold Format.nearest
    split
    · unfold Format.word; simp
    · simp only [Format.word, Bool.false_eq_true, if_false, s_inf]
      omega
theorem rd_s (q : Nat) (h : q < 2139095040) : (single.read q).isInfinity = false := by
  unfold Format.read
  simp only [s_sw, s_bin, s_inf]
  split
  · rfl
  · split
    · rfl
    · omega
theorem single_norm (e f : Nat) (he : 1 ≤ e) (he2 : e ≤ 254) (hf : f < 8388608) : floatToFloatBits .f64 (wd false ((e + 896) * 4503599627370496 + f * 536870912)) .f32 = some (e * 8388608 + f) := by
  unfold floatToFloatBits
  rw [if_neg (by decide), show (FloatKind.decode .f64 (wd false ((e + 896) * 4503599627370496 + f * 536870912))) = double.read (wd false ((e + 896) * 4503599627370496 + f * 536870912)) from rfl,
    rd_ef false (e + 896) (f * 536870912) (by omega) (by omega) (by omega)]
  simp only
  have key : single.nearest false (4503599627370496 + f * 536870912) (-1074 + ((e + 896 - 1 : Nat) : Int)) = e * 8388608 + f := by
    have hl := log_lead (4503599627370496 + f * 536870912) (by omega) (by omega)
    have e2 : 4503599627370496 + f * 536870912 = (8388608 + f) * 2 ^ 29 := by omega
    rw [e2] at hl ⊢
    rw [near_down single false (8388608 + f) 29 _ ((e : Int) - 150) (by omega) (by rw [hl, s_fr, s_least]; omega) (by omega), s_bin, s_inf, s_least, Nat.min_eq_left (by omega)]
    unfold Format.word
    rw [if_neg (by decide)]
    omega
  rw [show (FloatKind.encode .f32 (Datum.number false (4503599627370496 + f * 536870912) (-1074 + ((e + 896 - 1 : Nat) : Int)))) = single.nearest false (4503599627370496 + f * 536870912) (-1074 + ((e + 896 - 1 : Nat) : Int)) from rfl, key,
    show (FloatKind.decode .f32 (e * 8388608 + f)) = single.read (e * 8388608 + f) from rfl, rd_s _ (by omega)]
  rfl
theorem single_sub (n L : Nat) (hn : n ≠ 0) (hL : n.log2 = L) (h23 : n < 8388608) : floatToFloatBits .f64 (wd false ((L + 873) * 4503599627370496 + n * 2 ^ (52 - L))) .f32 = some n := by
  have hL2 : L < 23 := by rw [← hL]; exact (Nat.log2_lt hn).2 h23
  obtain ⟨h1, h2⟩ := lead n L hn hL (by omega)
  generalize hm : n * 2 ^ (52 - L) = m at *
  unfold floatToFloatBits
  rw [if_neg (by decide), show (FloatKind.decode .f64 (wd false ((L + 873) * 4503599627370496 + m))) = double.read (wd false ((L + 873) * 4503599627370496 + m)) from rfl,
    rd_norm false _ (by omega) (by omega), show ((L + 873) * 4503599627370496 + m) % 4503599627370496 = m - 4503599627370496 by omega, show ((L + 873) * 4503599627370496 + m) / 4503599627370496 - 1 = L + 873 by omega,
      show 4503599627370496 + (m - 4503599627370496) = m by omega]
  simp only
  have hl := log_lead m h1 h2
  have key : single.nearest false m (-1074 + ((L + 873 : Nat) : Int)) = n := by
    rw [← hm] at hl ⊢
    rw [near_down single false n (52 - L) _ (-149) hn (by rw [hl, s_fr, s_least]; omega) (by omega), s_bin, s_inf, s_least, Nat.min_eq_left (by omega)]
    unfold Format.word
    rw [if_neg (by decide)]
    simp
  rw [show (FloatKind.encode .f32 (Datum.number false m (-1074 + ((L + 873 : Nat) : Int)))) = single.nearest false m (-1074 + ((L + 873 : Nat) : Int)) from rfl, key,
    show (FloatKind.decode .f32 n) = single.read n from rfl, rd_s _ (by omega)]
  rfl
theorem single_zero : floatToFloatBits .f64 0 .f32 = some 0 := by decide
end Go.Proofs.YtocmmdheegkbaaaDoor
