/- A sum of decimal numbers, digit by digit. No program in sight. -/
import Derived.Test.YtcpgcjmamjjokaaGreatDoorAa
namespace Go.Proofs.YtcpgcjmamjjokaaGreatDoor
set_option linter.unusedVariables false
set_option linter.unusedSimpArgs false

theorem foldl_val (l : List UInt8) (a : Nat) : l.foldl (fun a c => 10 * a + dv c) a = a * 10 ^ l.length + val l := by
  induction l generalizing a with
  | nil => simp [val]
  | cons c l ih =>
    unfold val
    rw [List.foldl_cons, List.foldl_cons, ih, ih (10 * 0 + dv c), List.length_cons, Nat.pow_succ, Nat.add_mul, Nat.mul_zero, Nat.zero_add]
    rw [show 10 * a * 10 ^ l.length = a * (10 ^ l.length * 10) by rw [Nat.mul_comm 10 a, Nat.mul_assoc, Nat.mul_comm 10]]
    omega
theorem val_cons (c : UInt8) (l : List UInt8) : val (c :: l) = dv c * 10 ^ l.length + val l := by
  have h := foldl_val l (dv c)
  rw [← h]
  unfold val
  rw [List.foldl_cons, Nat.mul_zero, Nat.zero_add]
theorem isD_cons {c : UInt8} {l : List UInt8} : isD (c :: l) ↔ (48 ≤ c.toNat ∧ c.toNat ≤ 57) ∧ isD l := by
  unfold isD; simp
theorem val_lt (l : List UInt8) (h : isD l) : val l < 10 ^ l.length := by
  induction l with
  | nil => simp [val]
  | cons c l ih =>
    rw [isD_cons] at h
    have h1 := ih h.2
    have h2 := (dv_digit h.1).2
    rw [val_cons, List.length_cons, Nat.pow_succ]
    have h3 : dv c * 10 ^ l.length ≤ 9 * 10 ^ l.length := Nat.mul_le_mul_right _ (by omega)
    omega
/-- One round of the sum: from place j down. -/
theorem drop_cons {p : List UInt8} {i : Nat} {x : UInt8} (h : p[i]? = some x) : p.drop i = x :: p.drop (i + 1) := by
  obtain ⟨h1, h2⟩ := List.getElem?_eq_some_iff.1 h
  rw [List.drop_eq_getElem_cons h1, h2]
theorem add_step (p q r : List UInt8) (L j : Nat) (s c c' : Int) (v : Nat) (x y : UInt8) (hp : p.length = L) (hq : q.length = L) (hj : 0 < j) (hjl : j ≤ L) (hr : r.length = L - j)
    (hI : (val (p.drop j) : Int) + s * (val (q.drop j) : Int) = (val r : Int) + c * ((10 ^ (L - j) : Nat) : Int)) (hv : v < 10)
    (hx : p[j - 1]? = some x) (hy : q[j - 1]? = some y) (hd : ((dv x : Nat) : Int) + s * ((dv y : Nat) : Int) + c = v + 10 * c') :
    (val (p.drop (j - 1)) : Int) + s * (val (q.drop (j - 1)) : Int) = (val (UInt8.ofNat (48 + v) :: r) : Int) + c' * ((10 ^ (L - (j - 1)) : Nat) : Int) := by
  have h1 := drop_cons hx
  have h2 := drop_cons hy
  rw [show j - 1 + 1 = j by omega] at h1 h2
  have h3 : dv (UInt8.ofNat (48 + v)) = v := by unfold dv; rw [ofNat_dig _ hv]; omega
  rw [h1, h2, val_cons, val_cons, val_cons, h3, List.length_drop, List.length_drop, hp, hq, hr, show L - (j - 1) = (L - j) + 1 by omega, Nat.pow_succ]
  generalize 10 ^ (L - j) = T at *
  generalize dv x = x at *
  generalize dv y = y at *
  have h4 : (v : Int) + 10 * c' = (x : Int) + s * (y : Int) + c := hd.symm
  have h5 : ((v : Int) + 10 * c') * (T : Int) = ((x : Int) + s * (y : Int) + c) * (T : Int) := by rw [h4]
  rw [Int.add_mul, Int.add_mul, Int.add_mul, Int.mul_assoc 10, Int.mul_assoc s] at h5
  push_cast
  rw [Int.mul_add]
  have h6 : c' * ((T : Int) * 10) = 10 * (c' * (T : Int)) := by rw [← Int.mul_assoc, Int.mul_comm]
  rw [h6]
  generalize c' * (T : Int) = A at *
  generalize c * (T : Int) = B at *
  generalize s * ((y : Int) * (T : Int)) = C at *
  generalize (v : Int) * (T : Int) = D at *
  generalize (x : Int) * (T : Int) = E at *
  generalize s * (val (q.drop j) : Int) = F at *
  omega

/-- The number t as the program has it. -/
def NB (t : Int) : Bool := decide (t < 0)
def ND (t : Int) : List UInt8 := dg (cz t.natAbs).1
def NE (t : Int) : Nat := (cz t.natAbs).2
theorem NE_zero : NE 0 = 0 := by unfold NE; rw [show (0 : Int).natAbs = 0 from rfl, cz_stop (.inl rfl)]
theorem ND_zero : ND 0 = [48] := by unfold ND; rw [show (0 : Int).natAbs = 0 from rfl, cz_stop (.inl rfl)]; rfl
theorem ND_pos {t : Int} (h : t ≠ 0) : ND t = dgs (cz t.natAbs).1 := by
  unfold ND dg
  rw [if_neg ((cz_mul t.natAbs).2.2.1 (by omega))]
theorem isD_ND (t : Int) : isD (ND t) := by
  unfold ND dg
  split
  · intro c hc; rw [List.mem_singleton.1 hc]; decide
  · exact isD_dgs _
theorem val_ND (t : Int) : val (ND t) * 10 ^ NE t = t.natAbs := by
  by_cases h : t = 0
  · subst h; rw [ND_zero, NE_zero]; rfl
  · rw [ND_pos h, val_dgs]; exact (cz_mul t.natAbs).1
theorem val_lv (t : Int) (e z : Nat) (he : e ≤ NE t) : val (List.replicate z 48 ++ (ND t ++ List.replicate (NE t - e) 48)) * 10 ^ e = t.natAbs := by
  rw [val_zeros_left, val_zeros_right, Nat.mul_assoc, ← Nat.pow_add, show NE t - e + e = NE t by omega, val_ND]
theorem ND_of {t : Int} {V e : Nat} (h : t.natAbs = V * 10 ^ e) (hV : V ≠ 0) : ND t = dgs (cz V).1 ∧ NE t = (cz V).2 + e := by
  have h1 : t ≠ 0 := by
    intro h0; rw [h0] at h
    have := Nat.mul_ne_zero hV (show 10 ^ e ≠ 0 by simp)
    simp at h; omega
  rw [ND_pos h1]
  unfold NE
  rw [h, cz_mul10 V e hV]
  exact ⟨rfl, rfl⟩
/-- The sign. -/
theorem sum_same (a b : Int) (P Q e : Nat) (h : NB a = NB b) (ha : P * 10 ^ e = a.natAbs) (hb : Q * 10 ^ e = b.natAbs) : (a + b).natAbs = (P + Q) * 10 ^ e ∧ (P + Q ≠ 0 → NB (a + b) = NB a) := by
  unfold NB at h
  rw [decide_eq_decide] at h
  rw [Nat.add_mul, ha, hb]
  refine ⟨by omega, fun hn => ?_⟩
  unfold NB
  rw [decide_eq_decide]
  omega
theorem sum_other (a b : Int) (P Q e : Nat) (h : NB a ≠ NB b) (hPQ : Q ≤ P) (ha : P * 10 ^ e = a.natAbs) (hb : Q * 10 ^ e = b.natAbs) : (a + b).natAbs = (P - Q) * 10 ^ e ∧ (P - Q ≠ 0 → NB (a + b) = NB a) := by
  unfold NB at h
  rw [ne_eq, decide_eq_decide] at h
  have hle : Q * 10 ^ e ≤ P * 10 ^ e := Nat.mul_le_mul_right _ hPQ
  rw [Nat.sub_mul, ha, hb]
  rw [ha, hb] at hle
  refine ⟨by omega, fun hn => ?_⟩
  have hlt : Q * 10 ^ e < P * 10 ^ e := Nat.mul_lt_mul_of_pos_right (by omega) (Nat.pos_of_ne_zero (by simp))
  rw [ha, hb] at hlt
  unfold NB
  rw [decide_eq_decide]
  omega
/-- What is well. -/
theorem ND_len (t : Int) (k : Nat) (h : t.natAbs < 10 ^ k) (hk : 1 ≤ k) : (ND t).length ≤ k := by
  by_cases h0 : t = 0
  · subst h0; rw [ND_zero]; simpa using hk
  · rw [ND_pos h0]
    exact dgs_len _ k (Nat.lt_of_le_of_lt (cz_mul t.natAbs).2.2.2 h)
theorem NE_lt (t : Int) (k : Nat) (h : t.natAbs < 10 ^ k) (hk : 1 ≤ k) : NE t < k := by
  by_cases h0 : t = 0
  · subst h0; rw [NE_zero]; omega
  · exact cz_small _ k h (by omega)
theorem ND_head {t : Int} (h : t ≠ 0) : (ND t).head? ≠ some 48 ∧ (ND t).getLast? ≠ some 48 ∧ ND t ≠ [] := by
  rw [ND_pos h]
  obtain ⟨_, h2, h3, _⟩ := cz_mul t.natAbs
  have h3' := h3 (by omega)
  exact ⟨head_dgs _ h3', last_dgs _ (h2 (by omega)), dgs_ne h3'⟩
end Go.Proofs.YtcpgcjmamjjokaaGreatDoor
