/- Decimal digits in numbers. No program in sight. -/
import Derived.RowKit
namespace Go.Proofs.YtcpgcjmamjjokaaGreatDoor
set_option linter.unusedVariables false
set_option linter.unusedSimpArgs false

/-- The digits of a number, the highest first; none of 0. -/
def dgs (n : Nat) : List UInt8 := if h : n = 0 then [] else dgs (n / 10) ++ [UInt8.ofNat (48 + n % 10)]
decreasing_by omega
def dg (n : Nat) : List UInt8 := if n = 0 then [48] else dgs n
def dv (c : UInt8) : Nat := c.toNat - 48
def val (l : List UInt8) : Nat := l.foldl (fun a c => 10 * a + dv c) 0
def isD (l : List UInt8) : Prop := ∀ c ∈ l, 48 ≤ c.toNat ∧ c.toNat ≤ 57

theorem dgs_zero : dgs 0 = [] := by rw [dgs, dif_pos rfl]
theorem dgs_pos {n : Nat} (h : n ≠ 0) : dgs n = dgs (n / 10) ++ [UInt8.ofNat (48 + n % 10)] := by rw [dgs, dif_neg h]
theorem ofNat_dig (d : Nat) (h : d < 10) : (UInt8.ofNat (48 + d)).toNat = 48 + d := by
  rw [UInt8.toNat_ofNat']; omega
theorem val_nil : val [] = 0 := rfl
theorem val_snoc (l : List UInt8) (c : UInt8) : val (l ++ [c]) = 10 * val l + dv c := by unfold val; rw [List.foldl_append]; rfl
theorem isD_nil : isD [] := by intro c h; cases h
theorem isD_snoc {l : List UInt8} {c : UInt8} : isD (l ++ [c]) ↔ isD l ∧ 48 ≤ c.toNat ∧ c.toNat ≤ 57 := by
  unfold isD
  constructor
  · intro h
    exact ⟨fun x hx => h x (List.mem_append_left _ hx), h c (List.mem_append_right _ (List.mem_singleton.2 rfl))⟩
  · rintro ⟨h1, h2⟩ x hx
    rcases List.mem_append.1 hx with h | h
    · exact h1 x h
    · rw [List.mem_singleton.1 h]; exact h2
theorem isD_append {l m : List UInt8} : isD (l ++ m) ↔ isD l ∧ isD m := by
  unfold isD
  constructor
  · intro h
    exact ⟨fun x hx => h x (List.mem_append_left _ hx), fun x hx => h x (List.mem_append_right _ hx)⟩
  · rintro ⟨h1, h2⟩ x hx
    rcases List.mem_append.1 hx with h | h
    · exact h1 x h
    · exact h2 x h
theorem isD_zeros (k : Nat) : isD (List.replicate k 48) := by
  intro c hc; rw [List.eq_of_mem_replicate hc]; decide
theorem val_dgs (n : Nat) : val (dgs n) = n := by
  induction n using Nat.strongRecOn with
  | _ n ih =>
    by_cases h : n = 0
    · subst h; rw [dgs_zero]; rfl
    · rw [dgs_pos h, val_snoc, ih (n / 10) (by omega)]
      unfold dv
      rw [ofNat_dig _ (by omega)]; omega
theorem isD_dgs (n : Nat) : isD (dgs n) := by
  induction n using Nat.strongRecOn with
  | _ n ih =>
    by_cases h : n = 0
    · subst h; rw [dgs_zero]; exact isD_nil
    · rw [dgs_pos h, isD_snoc, ofNat_dig _ (by omega)]
      exact ⟨ih _ (by omega), by omega, by omega⟩
theorem dgs_ne {n : Nat} (h : n ≠ 0) : dgs n ≠ [] := by rw [dgs_pos h]; simp
theorem head_dgs (n : Nat) (h : n ≠ 0) : (dgs n).head? ≠ some 48 := by
  induction n using Nat.strongRecOn with
  | _ n ih =>
    rw [dgs_pos h]
    by_cases h1 : n / 10 = 0
    · rw [h1, dgs_zero]
      simp only [List.nil_append, List.head?_cons, ne_eq, Option.some.injEq]
      intro hc
      have h2 := congrArg UInt8.toNat hc
      rw [ofNat_dig _ (by omega)] at h2
      simp at h2
      omega
    · have h3 := ih (n / 10) (by omega) h1
      have h4 := dgs_ne h1
      rw [List.head?_append]
      cases hh : (dgs (n / 10)).head? with
      | none => rw [List.head?_eq_none_iff] at hh; exact absurd hh h4
      | some x => rw [hh] at h3; exact h3
theorem dv_digit {c : UInt8} (h : 48 ≤ c.toNat ∧ c.toNat ≤ 57) : UInt8.ofNat (48 + dv c) = c ∧ dv c < 10 := by
  unfold dv
  refine ⟨?_, by omega⟩
  apply UInt8.toNat_inj.1
  rw [UInt8.toNat_ofNat']; omega
theorem list_snoc_cases (l : List UInt8) : l = [] ∨ ∃ m c, l = m ++ [c] := by
  rcases List.eq_nil_or_concat l with h | ⟨m, c, h⟩
  · exact .inl h
  · exact .inr ⟨m, c, by rw [h, List.concat_eq_append]⟩
/-- Digits that begin with no nought are those of their value. -/
theorem dgs_val (n : Nat) : ∀ l : List UInt8, l.length = n → isD l → l.head? ≠ some 48 → dgs (val l) = l := by
  induction n with
  | zero => intro l hl _ _; rw [List.length_eq_zero_iff.1 hl]; rw [val_nil, dgs_zero]
  | succ n ih =>
    intro l hl hd hh
    rcases list_snoc_cases l with h | ⟨m, c, rfl⟩
    · subst h; simp at hl
    · rw [isD_snoc] at hd
      obtain ⟨hc1, hc2⟩ := dv_digit hd.2
      have hm : m.length = n := by simpa using hl
      by_cases hm0 : m = []
      · subst hm0
        rw [val_snoc, val_nil]
        have : dv c ≠ 0 := by
          intro h0
          apply hh
          rw [← hc1, h0]; rfl
        rw [dgs_pos (by omega), show (10 * 0 + dv c) / 10 = 0 by omega, dgs_zero, show (10 * 0 + dv c) % 10 = dv c by omega, hc1]
      · have hmh : m.head? ≠ some 48 := by
          intro h0; apply hh
          rw [List.head?_append, h0]; rfl
        have h1 := ih m hm hd.1 hmh
        have h2 : val m ≠ 0 := by
          intro h0; rw [h0, dgs_zero] at h1; exact hm0 h1.symm
        rw [val_snoc, dgs_pos (by omega), show (10 * val m + dv c) / 10 = val m by omega, show (10 * val m + dv c) % 10 = dv c by omega, h1, hc1]
theorem val_zeros_left (k : Nat) (l : List UInt8) : val (List.replicate k 48 ++ l) = val l := by
  unfold val
  rw [List.foldl_append]
  congr 1
  induction k with
  | zero => rfl
  | succ k ih => rw [List.replicate_succ, List.foldl_cons]; exact ih
theorem val_zeros_right (k : Nat) (l : List UInt8) : val (l ++ List.replicate k 48) = val l * 10 ^ k := by
  induction k with
  | zero => rw [List.replicate_zero, List.append_nil, Nat.pow_zero, Nat.mul_one]
  | succ k ih =>
    rw [List.replicate_succ', ← List.append_assoc, val_snoc, ih, Nat.pow_succ]
    show 10 * (val l * 10 ^ k) + 0 = _
    rw [Nat.add_zero, Nat.mul_comm 10, Nat.mul_assoc]
/-- Leading noughts struck. -/
def tl (l : List UInt8) : List UInt8 := l.dropWhile (· == 48)
theorem tl_val (l : List UInt8) (h : isD l) : tl l = dgs (val l) := by
  induction l with
  | nil => rw [val_nil, dgs_zero]; rfl
  | cons c l ih =>
    unfold tl
    by_cases hc : c = 48
    · subst hc
      rw [List.dropWhile_cons_of_pos (by decide)]
      have h1 := ih (fun x hx => h x (List.mem_cons_of_mem _ hx))
      unfold tl at h1
      rw [h1]
      exact congrArg dgs (val_zeros_left 1 l).symm
    · rw [List.dropWhile_cons_of_neg (by simpa using hc)]
      exact (dgs_val _ (c :: l) rfl h (by simpa using hc)).symm
/-- A number without the noughts at its end, and how many there were. -/
def cz (n : Nat) : Nat × Nat := if h : n ≠ 0 ∧ n % 10 = 0 then ((cz (n / 10)).1, (cz (n / 10)).2 + 1) else (n, 0)
decreasing_by all_goals omega
theorem cz_step {n : Nat} (h : n ≠ 0) (h0 : n % 10 = 0) : cz n = ((cz (n / 10)).1, (cz (n / 10)).2 + 1) := by rw [cz, dif_pos ⟨h, h0⟩]
theorem cz_stop {n : Nat} (h : n = 0 ∨ n % 10 ≠ 0) : cz n = (n, 0) := by rw [cz, dif_neg]; omega
theorem cz_mul (n : Nat) : (cz n).1 * 10 ^ (cz n).2 = n ∧ (n ≠ 0 → (cz n).1 % 10 ≠ 0) ∧ (n ≠ 0 → (cz n).1 ≠ 0) ∧ (cz n).1 ≤ n := by
  induction n using Nat.strongRecOn with
  | _ n ih =>
    by_cases h : n ≠ 0 ∧ n % 10 = 0
    · rw [cz_step h.1 h.2]
      obtain ⟨h1, h2, h3, h4⟩ := ih (n / 10) (by omega)
      refine ⟨?_, fun _ => h2 (by omega), fun _ => h3 (by omega), by simp only []; omega⟩
      simp only []
      rw [Nat.pow_succ, ← Nat.mul_assoc, h1]; omega
    · rw [cz_stop (by omega)]
      exact ⟨by simp, fun _ => by omega, fun _ => by omega, Nat.le_refl _⟩
theorem cz_mul10 (n k : Nat) (h : n ≠ 0) : cz (n * 10 ^ k) = ((cz n).1, (cz n).2 + k) := by
  induction k with
  | zero => simp
  | succ k ih =>
    have h1 : n * 10 ^ (k + 1) = n * 10 ^ k * 10 := by rw [Nat.pow_succ, Nat.mul_assoc]
    have h2 : n * 10 ^ k ≠ 0 := Nat.mul_ne_zero h (by simp)
    rw [h1, cz_step (by omega) (by omega), show n * 10 ^ k * 10 / 10 = n * 10 ^ k by omega, ih]
    rfl
theorem dgs_mul10 (n k : Nat) (h : n ≠ 0) : dgs (n * 10 ^ k) = dgs n ++ List.replicate k 48 := by
  induction k with
  | zero => simp
  | succ k ih =>
    have h1 : n * 10 ^ (k + 1) = n * 10 ^ k * 10 := by rw [Nat.pow_succ, Nat.mul_assoc]
    have h2 : n * 10 ^ k ≠ 0 := Nat.mul_ne_zero h (by simp)
    rw [h1, dgs_pos (by omega), show n * 10 ^ k * 10 / 10 = n * 10 ^ k by omega, show n * 10 ^ k * 10 % 10 = 0 by omega, ih, List.replicate_succ', List.append_assoc]
    rfl
theorem last_dgs (n : Nat) (h : n % 10 ≠ 0) : (dgs n).getLast? ≠ some 48 := by
  rw [dgs_pos (by omega), List.getLast?_append]
  simp only [List.getLast?_singleton, Option.some_or, ne_eq, Option.some.injEq]
  intro hc
  have h2 := congrArg UInt8.toNat hc
  rw [ofNat_dig _ (by omega)] at h2
  simp at h2
  omega
/-- Noughts at the end struck. -/
def tr (l : List UInt8) : List UInt8 := (l.reverse.dropWhile (· == 48)).reverse
theorem tr_dgs (n : Nat) (h : n ≠ 0) : tr (dgs n) = dgs (cz n).1 ∧ (dgs n).length = (dgs (cz n).1).length + (cz n).2 := by
  obtain ⟨h1, h2, h3, _⟩ := cz_mul n
  have h4 := dgs_mul10 (cz n).1 (cz n).2 (h3 h)
  rw [h1] at h4
  refine ⟨?_, by rw [h4]; simp⟩
  unfold tr
  rw [h4, List.reverse_append, List.reverse_replicate]
  have h5 := last_dgs _ (h2 h)
  have h6 : ∀ k (m : List UInt8), m.head? ≠ some 48 → (List.replicate k 48 ++ m).dropWhile (· == 48) = m := by
    intro k m hm
    induction k with
    | zero =>
      cases m with
      | nil => rfl
      | cons c m => rw [List.replicate_zero, List.nil_append, List.dropWhile_cons_of_neg (by simpa using hm)]
    | succ k ih => rw [List.replicate_succ, List.cons_append, List.dropWhile_cons_of_pos (by decide)]; exact ih
  rw [h6 _ _ (by rw [List.head?_reverse]; exact h5), List.reverse_reverse]
theorem dgs_len (n k : Nat) (h : n < 10 ^ k) : (dgs n).length ≤ k := by
  induction k generalizing n with
  | zero => rw [show n = 0 by simpa using h, dgs_zero]; simp
  | succ k ih =>
    by_cases h0 : n = 0
    · subst h0; rw [dgs_zero]; simp
    · rw [dgs_pos h0]
      have := ih (n / 10) (by rw [Nat.pow_succ] at h; omega)
      simp; omega
theorem cz_small (n k : Nat) (h : n < 10 ^ k) (h0 : n ≠ 0) : (cz n).2 < k := by
  obtain ⟨h1, _, h3, _⟩ := cz_mul n
  have h4 : 10 ^ (cz n).2 < 10 ^ k := by
    have h5 : 10 ^ (cz n).2 ≤ (cz n).1 * 10 ^ (cz n).2 := Nat.le_mul_of_pos_left _ (Nat.pos_of_ne_zero (h3 h0))
    rw [h1] at h5
    exact Nat.lt_of_le_of_lt h5 h
  exact (Nat.pow_lt_pow_iff_right (by decide)).1 h4
end Go.Proofs.YtcpgcjmamjjokaaGreatDoor
