/- Sums: the plain part of num.Add. -/
import Derived.Test.YtcpgcjmamjjokaaGreatDoorAf
namespace Go.Proofs.YtcpgcjmamjjokaaGreatDoor
open Go.RowKit Go.Proofs.YtcpgcjmamjjokaaGreatDoorW.PrintWords Go.Proofs.YtcpgcjmamjjokaaGreatDoorW.PrintMore
set_option linter.unusedVariables false
set_option linter.unusedSimpArgs false
theorem lss_val : ∀ (p q : List UInt8), isD p → isD q → p.length = q.length → Op.bytesLess p q = decide (val p < val q)
  | [], [], _, _, _ => rfl
  | [], _ :: _, _, _, h => by simp at h
  | _ :: _, [], _, _, h => by simp at h
  | a :: x, b :: y, ha, hb, h => by
    rw [isD_cons] at ha hb
    have hl : x.length = y.length := by simpa using h
    have ih := lss_val x y ha.2 hb.2 hl
    have hx := val_lt x ha.2
    have hy := val_lt y hb.2
    have da := dv_digit ha.1
    have db := dv_digit hb.1
    rw [Op.bytesLess, ih, val_cons, val_cons, hl]
    rw [hl] at hx
    have hlt : (a < b) ↔ a.toNat < b.toNat := UInt8.lt_iff_toNat_lt
    have heq : (a = b) ↔ a.toNat = b.toNat := UInt8.toNat_inj.symm
    have ea : dv a + 48 = a.toNat := by unfold dv; omega
    have eb : dv b + 48 = b.toNat := by unfold dv; omega
    generalize 10 ^ y.length = T at *
    rcases Nat.lt_trichotomy (dv a) (dv b) with c | c | c
    · have h1 : (dv a + 1) * T ≤ dv b * T := Nat.mul_le_mul_right _ c
      rw [Nat.add_mul, Nat.one_mul] at h1
      rw [decide_eq_true (hlt.2 (by omega)), decide_eq_true (show dv a * T + val x < dv b * T + val y by omega)]
      rfl
    · rw [decide_eq_false (show ¬ a < b from fun h => by have := hlt.1 h; omega), show (a == b) = true from beq_iff_eq.2 (heq.2 (by omega)), c]
      simp
    · have h1 : (dv b + 1) * T ≤ dv a * T := Nat.mul_le_mul_right _ c
      rw [Nat.add_mul, Nat.one_mul] at h1
      rw [decide_eq_false (show ¬ a < b from fun h => by have := hlt.1 h; omega), show (a == b) = false from beq_eq_false_iff_ne.2 (fun h => by have := heq.1 h; omega), decide_eq_false (show ¬ dv a * T + val x < dv b * T + val y by omega)]
      rfl
/-- Where a sum stands. -/
def SumSt (P Q : List UInt8) (s : Int) (L : Nat) (i c : Int) (r : List UInt8) : Prop :=
  isD r ∧ ((∃ j : Nat, i = (j : Int) - 1 ∧ j ≤ L ∧ r.length = L - j ∧ (val (P.drop j) : Int) + s * (val (Q.drop j) : Int) = (val r : Int) + c * ((10 ^ (L - j) : Nat) : Int) ∧ (c = 0 ∨ c = s)) ∨ (i = -2 ∧ c = 0 ∧ r.length = L + 1 ∧ (val P : Int) + s * (val Q : Int) = (val r : Int)))
theorem sum_start (P Q : List UInt8) (s : Int) (L : Nat) (hp : P.length = L) (hq : Q.length = L) : SumSt P Q s L ((L : Int) - 1) 0 [] := by
  refine ⟨isD_nil, .inl ⟨L, rfl, Nat.le_refl _, by simp, ?_, .inl rfl⟩⟩
  rw [List.drop_of_length_le (by omega), List.drop_of_length_le (by omega)]
  simp [val_nil]
theorem dig_isD {d : Nat} (h : d < 10) : 48 ≤ (UInt8.ofNat (48 + d)).toNat ∧ (UInt8.ofNat (48 + d)).toNat ≤ 57 := by
  rw [ofNat_dig d h]; omega
theorem sum_step (P Q r : List UInt8) (s : Int) (L j : Nat) (c : Int) (x y : UInt8) (hs : s = 1 ∨ s = -1) (hp : P.length = L) (hq : Q.length = L) (h : SumSt P Q s L (j : Int) c r) (hx : P[j]? = some x) (hy : Q[j]? = some y) (hPD : isD P) (hQD : isD Q) :
    ∃ (d : Nat) (c' : Int), d < 10 ∧ SumSt P Q s L ((j : Int) - 1) c' (UInt8.ofNat (48 + d) :: r) ∧
      ((c + ((dv x : Int) + s * (dv y : Int)) < 0 ∧ c + ((dv x : Int) + s * (dv y : Int)) + 10 = d ∧ c' = -1) ∨ (9 < c + ((dv x : Int) + s * (dv y : Int)) ∧ c + ((dv x : Int) + s * (dv y : Int)) - 10 = d ∧ c' = 1) ∨ (0 ≤ c + ((dv x : Int) + s * (dv y : Int)) ∧ c + ((dv x : Int) + s * (dv y : Int)) ≤ 9 ∧ c + ((dv x : Int) + s * (dv y : Int)) = d ∧ c' = 0)) := by
  obtain ⟨hr, ⟨k, hk, hkL, hrl, hI, hc⟩ | ⟨h1, _⟩⟩ := h
  rotate_left 1
  · omega
  have hkj : k = j + 1 := by omega
  subst hkj
  have dx := (dv_digit (hPD x (List.mem_of_getElem? hx))).2
  have dy := (dv_digit (hQD y (List.mem_of_getElem? hy))).2
  have main : ∀ (d : Nat) (c' : Int), d < 10 → ((dv x : Nat) : Int) + s * ((dv y : Nat) : Int) + c = d + 10 * c' → (c' = 0 ∨ c' = s) → SumSt P Q s L ((j : Int) - 1) c' (UInt8.ofNat (48 + d) :: r) := by
    intro d c' hd he hc'
    have := add_step P Q r L (j + 1) s c c' d x y hp hq (by omega) hkL hrl hI hd hx hy he
    refine ⟨isD_cons.2 ⟨dig_isD hd, hr⟩, .inl ⟨j, rfl, by omega, by simp; omega, ?_, hc'⟩⟩
    simpa using this
  obtain ⟨u, hu⟩ : ∃ u, c + ((dv x : Int) + s * (dv y : Int)) = u := ⟨_, rfl⟩
  have hub : (s = 1 → 0 ≤ u ∧ u ≤ 19) ∧ (s = -1 → -10 ≤ u ∧ u ≤ 9) := by
    constructor <;> intro hss <;> subst hss <;> rcases hc with rfl | rfl <;> omega
  rw [hu]
  have hu' : ((dv x : Nat) : Int) + s * ((dv y : Nat) : Int) + c = u := by rw [← hu]; omega
  by_cases c1 : u < 0
  · obtain ⟨d, hd⟩ : ∃ d : Nat, u + 10 = d := ⟨(u + 10).toNat, by omega⟩
    exact ⟨d, -1, by omega, main d (-1) (by omega) (by rw [hu']; omega) (.inr (by omega)), .inl ⟨c1, hd, rfl⟩⟩
  · by_cases c2 : 9 < u
    · obtain ⟨d, hd⟩ : ∃ d : Nat, u - 10 = d := ⟨(u - 10).toNat, by omega⟩
      exact ⟨d, 1, by omega, main d 1 (by omega) (by rw [hu']; omega) (.inr (by omega)), .inr (.inl ⟨c2, hd, rfl⟩)⟩
    · obtain ⟨d, hd⟩ : ∃ d : Nat, u = d := ⟨u.toNat, by omega⟩
      exact ⟨d, 0, by omega, main d 0 (by omega) (by rw [hu']; omega) (.inl rfl), .inr (.inr ⟨by omega, by omega, hd, rfl⟩)⟩
theorem sum_done (P Q r : List UInt8) (s : Int) (L : Nat) (i : Int) (hi : i < 0) (h : SumSt P Q s L i 0 r) : isD r ∧ r.length ≤ L + 1 ∧ (val P : Int) + s * (val Q : Int) = (val r : Int) := by
  obtain ⟨hr, ⟨k, hk, hkL, hrl, hI, hc⟩ | ⟨_, _, h3, h4⟩⟩ := h
  · have : k = 0 := by omega
    subst this
    refine ⟨hr, by omega, ?_⟩
    simpa using hI
  · exact ⟨hr, by omega, h4⟩
theorem sum_over (P Q r : List UInt8) (s : Int) (L : Nat) (i c : Int) (hi : i < 0) (hc0 : c ≠ 0) (hs : s = 1 ∨ (s = -1 ∧ val Q ≤ val P)) (h : SumSt P Q s L i c r) : i = -1 ∧ c = 1 ∧ SumSt P Q s L (-2) 0 (UInt8.ofNat (48 + 1) :: r) := by
  obtain ⟨hr, ⟨k, hk, hkL, hrl, hI, hc⟩ | ⟨_, h2, _⟩⟩ := h
  rotate_left 1
  · exact absurd h2 hc0
  have : k = 0 := by omega
  subst this
  have hcs : c = s := by rcases hc with h | h; exact absurd h hc0; exact h
  subst hcs
  have hlt := val_lt r hr
  rw [List.drop_zero, List.drop_zero] at hI
  rw [Nat.sub_zero] at hrl hI
  rw [hrl] at hlt
  rcases hs with rfl | ⟨rfl, hle⟩
  · refine ⟨by omega, rfl, isD_cons.2 ⟨dig_isD (by decide), hr⟩, .inr ⟨rfl, rfl, by simp; omega, ?_⟩⟩
    rw [val_cons, hrl, hI, show dv (UInt8.ofNat (48 + 1)) = 1 by decide]
    generalize 10 ^ L = T at *
    omega
  · exfalso
    generalize 10 ^ L = T at *
    omega
theorem sum_idx (P : List UInt8) (j : Nat) (h : j < P.length) : ∃ x, P[j]? = some x ∧ ∀ h, (⟨P.toArray⟩ : ByteArray)[j]'h = x := ⟨P[j], List.getElem?_eq_getElem h, fun _ => rfl⟩
theorem sum_i {P Q r : List UInt8} {s : Int} {L : Nat} {i c : Int} (h : SumSt P Q s L i c r) : -2 ≤ i ∧ i < L ∧ r.length ≤ L + 1 ∧ (0 ≤ i → r.length ≤ L) ∧ (s = 1 ∨ s = -1 → -1 ≤ c ∧ c ≤ 1) ∧ (i = -2 → c = 0) ∧ (i = -1 → r.length ≤ L) := by
  obtain ⟨hr, ⟨k, hk, hkL, hrl, hI, hc⟩ | ⟨h1, h2, h3, h4⟩⟩ := h
  · refine ⟨by omega, by omega, by omega, fun _ => by omega, fun hs => ?_, fun _ => by omega, fun _ => by omega⟩
    rcases hc with rfl | rfl <;> omega
  · refine ⟨by omega, by omega, by omega, fun _ => by omega, fun hs => by omega, fun _ => h2, fun _ => by omega⟩
theorem lv_isD (a b : Int) (e : Nat) : isD (lvP a b e) := by
  unfold lvP lv0 zs
  exact isD_append.2 ⟨isD_zeros _, isD_append.2 ⟨isD_ND a, isD_zeros _⟩⟩
theorem lv_len (a b : Int) (e : Nat) : (lvP a b e).length = max (lv0 a e).length (lv0 b e).length := by
  unfold lvP
  rw [List.length_append, zs_len]; omega
theorem lv0_len (a : Int) (e : Nat) (ha : a.natAbs < 1000000000000000) : (lv0 a e).length ≤ 30 := by
  have h1 := NE_lt a 15 ha (by decide)
  have h2 := ND_len a 15 ha (by decide)
  unfold lv0
  rw [List.length_append, zs_len]; omega
theorem lv_val (a b : Int) (e : Nat) (he : e ≤ NE a) : val (lvP a b e) * 10 ^ e = a.natAbs := by
  unfold lvP lv0 zs
  exact val_lv a e _ he
end Go.Proofs.YtcpgcjmamjjokaaGreatDoor
