/- The same at lists of bytes: what stands at the beginning, how many characters there are, and what is wrong. -/
import Derived.Test.YtimfabbielphbaaDoorPa
namespace Go.Proofs.YtimfabbielphbaaDoor.Pl
set_option linter.unusedVariables false
open Go.Lib

theorem stS_err (n b0 b1 b2 b3 sz lo hi : Nat) : (stS n b0 b1 b2 b3 sz lo hi).2.2 = 0 ∨ (stS n b0 b1 b2 b3 sz lo hi).2.2 = 30 ∨ (stS n b0 b1 b2 b3 sz lo hi).2.2 = 31 := by
  unfold stS
  repeat' split
  all_goals simp
theorem stS_width (n b0 b1 b2 b3 sz lo hi : Nat) (h : (stS n b0 b1 b2 b3 sz lo hi).2.2 = 0) : 1 ≤ (stS n b0 b1 b2 b3 sz lo hi).2.1 ∧ (stS n b0 b1 b2 b3 sz lo hi).2.1 ≤ n := by
  revert h
  unfold stS
  repeat' split
  all_goals simp <;> omega
theorem stS_mono (n m b0 b1 b2 b3 c1 c2 c3 sz lo hi : Nat) (hn : n ≤ m) (h1 : 1 < n → c1 = b1) (h2 : 2 < n → c2 = b2) (h3 : 3 < n → c3 = b3)
    (h : (stS n b0 b1 b2 b3 sz lo hi).2.2 ≠ 31) : stS m b0 c1 c2 c3 sz lo hi = stS n b0 b1 b2 b3 sz lo hi := by
  revert h
  unfold stS
  by_cases c2' : n < 2
  · rw [if_pos c2']; simp
  rw [if_neg c2', if_neg (show ¬ m < 2 by omega), h1 (by omega)]
  by_cases k : b1 < lo ∨ hi < b1
  · rw [if_pos k, if_pos k]; simp
  rw [if_neg k, if_neg k]
  by_cases z : sz ≤ 2
  · rw [if_pos z, if_pos z]; simp
  rw [if_neg z, if_neg z]
  by_cases c3' : n < 3
  · rw [if_pos c3']; simp
  rw [if_neg c3', if_neg (show ¬ m < 3 by omega), h2 (by omega)]
  by_cases k : b2 < 128 ∨ 191 < b2
  · rw [if_pos k, if_pos k]; simp
  rw [if_neg k, if_neg k]
  by_cases z : sz ≤ 3
  · rw [if_pos z, if_pos z]; simp
  rw [if_neg z, if_neg z]
  by_cases c4' : n < 4
  · rw [if_pos c4']; simp
  rw [if_neg c4', if_neg (show ¬ m < 4 by omega), h3 (by omega)]
  simp
/-- One byte behind a beginning: if it makes a character, that is all of it. -/
theorem stS_grow (n b0 b1 b2 b3 c1 c2 c3 sz lo hi : Nat) (h1 : 1 < n → c1 = b1) (h2 : 2 < n → c2 = b2) (h3 : 3 < n → c3 = b3)
    (hn : 1 ≤ n) (hsz : sz = 2 ∨ sz = 3 ∨ sz = 4) (h : (stS n b0 b1 b2 b3 sz lo hi).2.2 = 31) (h' : (stS (n + 1) b0 c1 c2 c3 sz lo hi).2.2 = 0) : (stS (n + 1) b0 c1 c2 c3 sz lo hi).2.1 = n + 1 := by
  revert h h'
  unfold stS
  by_cases c2' : n < 2
  · rw [if_pos c2', if_neg (show ¬ n + 1 < 2 by omega)]
    by_cases k : c1 < lo ∨ hi < c1
    · rw [if_pos k]; simp
    rw [if_neg k]
    by_cases z : sz ≤ 2
    · rw [if_pos z]; simp; omega
    rw [if_neg z, if_pos (by omega)]; simp
  rw [if_neg c2', if_neg (show ¬ n + 1 < 2 by omega), h1 (by omega)]
  by_cases k : b1 < lo ∨ hi < b1
  · rw [if_pos k, if_pos k]; simp
  rw [if_neg k, if_neg k]
  by_cases z : sz ≤ 2
  · rw [if_pos z, if_pos z]; simp
  rw [if_neg z, if_neg z, if_neg (show ¬ n + 1 < 3 by omega)]
  by_cases c3' : n < 3
  · rw [if_pos c3']
    by_cases k : c2 < 128 ∨ 191 < c2
    · rw [if_pos k]; simp
    rw [if_neg k]
    by_cases z : sz ≤ 3
    · rw [if_pos z]; simp; omega
    rw [if_neg z, if_pos (by omega)]; simp
  rw [if_neg c3', h2 (by omega)]
  by_cases k : b2 < 128 ∨ 191 < b2
  · rw [if_pos k, if_pos k]; simp
  rw [if_neg k, if_neg k]
  by_cases z : sz ≤ 3
  · rw [if_pos z, if_pos z]; simp
  rw [if_neg z, if_neg z, if_neg (show ¬ n + 1 < 4 by omega)]
  by_cases c4' : n < 4
  · rw [if_pos c4']
    by_cases k : c3 < 128 ∨ 191 < c3
    · rw [if_pos k]; simp
    rw [if_neg k]; simp; omega
  rw [if_neg c4']
  by_cases k : b3 < 128 ∨ 191 < b3
  · rw [if_pos k]; simp
  · rw [if_neg k]; simp
/-- No continuing byte behind a beginning: wrong. -/
theorem stS_other (n m b0 b1 b2 b3 c1 c2 c3 sz lo hi : Nat) (hm : n < m) (h1 : 1 < n → c1 = b1) (h2 : 2 < n → c2 = b2) (h3 : 3 < n → c3 = b3)
    (hn : 1 ≤ n) (hlo : 128 ≤ lo) (hhi : hi ≤ 191) (hx : ∀ x, (n = 1 → x = c1) → (n = 2 → x = c2) → (n = 3 → x = c3) → x < 128 ∨ 191 < x) (hsz : sz = 2 ∨ sz = 3 ∨ sz = 4) (h : (stS n b0 b1 b2 b3 sz lo hi).2.2 = 31) : (stS m b0 c1 c2 c3 sz lo hi).2.2 = 30 := by
  revert h
  unfold stS
  by_cases c2' : n < 2
  · have := hx c1 (fun _ => rfl) (by omega) (by omega)
    rw [if_neg (show ¬ m < 2 by omega), if_pos (show c1 < lo ∨ hi < c1 by omega)]; simp
  rw [if_neg c2', if_neg (show ¬ m < 2 by omega), h1 (by omega)]
  by_cases k : b1 < lo ∨ hi < b1
  · rw [if_pos k, if_pos k]; simp
  rw [if_neg k, if_neg k]
  by_cases z : sz ≤ 2
  · rw [if_pos z]; simp
  rw [if_neg z, if_neg z, if_neg (show ¬ m < 3 by omega)]
  by_cases c3' : n < 3
  · have := hx c2 (by omega) (fun _ => rfl) (by omega)
    rw [if_pos (show c2 < 128 ∨ 191 < c2 by omega)]; simp
  rw [if_neg c3', h2 (by omega)]
  by_cases k : b2 < 128 ∨ 191 < b2
  · rw [if_pos k, if_pos k]; simp
  rw [if_neg k, if_neg k]
  by_cases z : sz ≤ 3
  · rw [if_pos z]; simp
  rw [if_neg z, if_neg z, if_neg (show ¬ m < 4 by omega)]
  by_cases c4' : n < 4
  · have := hx c3 (by omega) (by omega) (fun _ => by omega)
    rw [if_pos (show c3 < 128 ∨ 191 < c3 by omega)]; simp
  rw [if_neg c4']
  by_cases k : b3 < 128 ∨ 191 < b3
  · rw [if_pos k]; simp
  · rw [if_neg k]; simp

theorem lo_ge (p : Prop) [Decidable p] (a : Nat) (ha : 128 ≤ a) : 128 ≤ (if p then a else 128) := by split <;> omega
theorem hi_le (p : Prop) [Decidable p] (a : Nat) (ha : a ≤ 191) : (if p then a else 191) ≤ 191 := by split <;> omega

theorem stF_err (n b0 b1 b2 b3 : Nat) : (stF n b0 b1 b2 b3).2.2 = 0 ∨ (stF n b0 b1 b2 b3).2.2 = 30 ∨ (stF n b0 b1 b2 b3).2.2 = 31 := by
  unfold stF
  repeat' split
  all_goals first | exact stS_err _ _ _ _ _ _ _ _ | simp
theorem stF_width (n b0 b1 b2 b3 : Nat) (hn : 1 ≤ n) (h : (stF n b0 b1 b2 b3).2.2 = 0) : 1 ≤ (stF n b0 b1 b2 b3).2.1 ∧ (stF n b0 b1 b2 b3).2.1 ≤ n := by
  revert h
  unfold stF
  by_cases c0 : b0 < 128
  · simp only [if_pos c0]; intros; omega
  simp only [if_neg c0]
  by_cases c1 : b0 < 194 ∨ 244 < b0
  · simp only [if_pos c1]; intro h; omega
  simp only [if_neg c1]
  by_cases c2 : b0 < 224
  · simp only [if_pos c2]; exact stS_width _ _ _ _ _ _ _ _
  simp only [if_neg c2]
  by_cases c3 : b0 < 240
  · simp only [if_pos c3]; exact stS_width _ _ _ _ _ _ _ _
  simp only [if_neg c3]; exact stS_width _ _ _ _ _ _ _ _
theorem stF_mono (n m b0 b1 b2 b3 c1 c2 c3 : Nat) (hn : n ≤ m) (h1 : 1 < n → c1 = b1) (h2 : 2 < n → c2 = b2) (h3 : 3 < n → c3 = b3)
    (h : (stF n b0 b1 b2 b3).2.2 ≠ 31) : stF m b0 c1 c2 c3 = stF n b0 b1 b2 b3 := by
  revert h
  unfold stF
  by_cases c0 : b0 < 128
  · simp only [if_pos c0]; intros; trivial
  simp only [if_neg c0]
  by_cases c1 : b0 < 194 ∨ 244 < b0
  · simp only [if_pos c1]; intros; trivial
  simp only [if_neg c1]
  by_cases c2 : b0 < 224
  · simp only [if_pos c2]; exact stS_mono _ _ _ _ _ _ _ _ _ _ _ _ hn h1 h2 h3
  simp only [if_neg c2]
  by_cases c3 : b0 < 240
  · simp only [if_pos c3]; exact stS_mono _ _ _ _ _ _ _ _ _ _ _ _ hn h1 h2 h3
  simp only [if_neg c3]; exact stS_mono _ _ _ _ _ _ _ _ _ _ _ _ hn h1 h2 h3
theorem stF_grow (n b0 b1 b2 b3 c1 c2 c3 : Nat) (h1 : 1 < n → c1 = b1) (h2 : 2 < n → c2 = b2) (h3 : 3 < n → c3 = b3)
    (hn : 1 ≤ n) (h : (stF n b0 b1 b2 b3).2.2 = 31) (h' : (stF (n + 1) b0 c1 c2 c3).2.2 = 0) : (stF (n + 1) b0 c1 c2 c3).2.1 = n + 1 := by
  revert h h'
  unfold stF
  by_cases c0 : b0 < 128
  · simp only [if_pos c0]; intro h; omega
  simp only [if_neg c0]
  by_cases c1 : b0 < 194 ∨ 244 < b0
  · simp only [if_pos c1]; intro h; omega
  simp only [if_neg c1]
  by_cases c2 : b0 < 224
  · simp only [if_pos c2]; exact stS_grow _ _ _ _ _ _ _ _ _ _ _ h1 h2 h3 hn (by omega)
  simp only [if_neg c2]
  by_cases c3 : b0 < 240
  · simp only [if_pos c3]; exact stS_grow _ _ _ _ _ _ _ _ _ _ _ h1 h2 h3 hn (by omega)
  simp only [if_neg c3]; exact stS_grow _ _ _ _ _ _ _ _ _ _ _ h1 h2 h3 hn (by omega)
theorem stF_other (n m b0 b1 b2 b3 c1 c2 c3 : Nat) (hm : n < m) (h1 : 1 < n → c1 = b1) (h2 : 2 < n → c2 = b2) (h3 : 3 < n → c3 = b3)
    (hn : 1 ≤ n) (hx : ∀ x, (n = 1 → x = c1) → (n = 2 → x = c2) → (n = 3 → x = c3) → x < 128 ∨ 191 < x) (h : (stF n b0 b1 b2 b3).2.2 = 31) : (stF m b0 c1 c2 c3).2.2 = 30 := by
  revert h
  unfold stF
  by_cases c0 : b0 < 128
  · simp only [if_pos c0]; intro h; omega
  simp only [if_neg c0]
  by_cases c1 : b0 < 194 ∨ 244 < b0
  · simp only [if_pos c1]; intro h; omega
  simp only [if_neg c1]
  by_cases c2 : b0 < 224
  · simp only [if_pos c2]; exact stS_other _ _ _ _ _ _ _ _ _ _ _ _ hm h1 h2 h3 hn (by omega) (by omega) hx (by omega)
  simp only [if_neg c2]
  by_cases c3 : b0 < 240
  · simp only [if_pos c3]; exact stS_other _ _ _ _ _ _ _ _ _ _ _ _ hm h1 h2 h3 hn (lo_ge _ _ (by omega)) (hi_le _ _ (by omega)) hx (by omega)
  simp only [if_neg c3]; exact stS_other _ _ _ _ _ _ _ _ _ _ _ _ hm h1 h2 h3 hn (lo_ge _ _ (by omega)) (hi_le _ _ (by omega)) hx (by omega)
/-- A beginning is of three bytes at most. -/
theorem stF_short (n b0 b1 b2 b3 : Nat) (h : (stF n b0 b1 b2 b3).2.2 = 31) : n < 4 := by
  apply Decidable.byContradiction
  intro hn
  revert h
  unfold stF stS
  simp only [show ¬ n < 2 by omega, show ¬ n < 3 by omega, show ¬ n < 4 by omega, if_false]
  repeat' split
  all_goals simp
/-- What begins a character is no continuing byte. -/
theorem stF_lead (n b0 b1 b2 b3 : Nat) (h : (stF n b0 b1 b2 b3).2.2 = 0) : b0 < 128 ∨ 191 < b0 := by
  revert h
  unfold stF
  by_cases c0 : b0 < 128
  · intro _; omega
  simp only [if_neg c0]
  by_cases c1 : b0 < 194 ∨ 244 < b0
  · simp only [if_pos c1]; intro h; omega
  intro _; omega

/-! ### at lists -/
def nat (l : List UInt8) (i : Nat) : Nat := (l.getD i 0).toNat
theorem nat_lt (l : List UInt8) (i : Nat) : nat l i < 256 := UInt8.toNat_lt _
theorem nat_app (l m : List UInt8) (i : Nat) (h : i < l.length) : nat (l ++ m) i = nat l i := by
  unfold nat; simp only [List.getD, List.getElem?_append_left h]
theorem nat_app_right (l m : List UInt8) (i : Nat) (h : l.length ≤ i) : nat (l ++ m) i = nat m (i - l.length) := by
  unfold nat; simp only [List.getD, List.getElem?_append_right h]
def stL (l : List UInt8) : Nat × Nat × Nat := stF l.length (nat l 0) (nat l 1) (nat l 2) (nat l 3)
def erL (l : List UInt8) : Nat := (stL l).2.2
def wdL (l : List UInt8) : Nat := (stL l).2.1

theorem erL_cases (l : List UInt8) : erL l = 0 ∨ erL l = 30 ∨ erL l = 31 := stF_err _ _ _ _ _
theorem len_pos {l : List UInt8} (h : l ≠ []) : 1 ≤ l.length := by
  cases l with
  | nil => exact absurd rfl h
  | cons a t => simp
theorem wdL_pos (l : List UInt8) (hl : l ≠ []) (h : erL l = 0) : 1 ≤ wdL l ∧ wdL l ≤ l.length := stF_width _ _ _ _ _ (len_pos hl) h
theorem stL_mono (l m : List UInt8) (hl : l ≠ []) (h : erL l ≠ 31) : stL (l ++ m) = stL l := by
  have hp := len_pos hl
  unfold stL
  rw [nat_app l m 0 (by omega)]
  exact stF_mono _ _ _ _ _ _ _ _ _ (by simp) (fun h => nat_app _ _ _ h) (fun h => nat_app _ _ _ h) (fun h => nat_app _ _ _ h) h
theorem stL_grow (l : List UInt8) (x : UInt8) (hl : l ≠ []) (h : erL l = 31) (h' : erL (l ++ [x]) = 0) : wdL (l ++ [x]) = l.length + 1 := by
  have hp := len_pos hl
  revert h'
  unfold erL wdL stL
  rw [nat_app l [x] 0 (by omega), show (l ++ [x]).length = l.length + 1 by simp]
  exact stF_grow _ _ _ _ _ _ _ _ (fun h => nat_app _ _ _ h) (fun h => nat_app _ _ _ h) (fun h => nat_app _ _ _ h) hp h
theorem stL_one (x : UInt8) (h : erL [x] = 0) : wdL [x] = 1 := by
  have := wdL_pos [x] (by simp) h
  simp at this; omega
theorem erL_short (l : List UInt8) (h : erL l = 31) : l.length < 4 := stF_short _ _ _ _ _ h
theorem stL_other (l t : List UInt8) (hl : l ≠ []) (ht : t ≠ []) (h : erL l = 31) (h' : erL t = 0) : erL (l ++ t) = 30 := by
  have hp := len_pos hl
  have hq := len_pos ht
  have hs := erL_short l h
  have h0 : nat t 0 < 128 ∨ 191 < nat t 0 := stF_lead _ _ _ _ _ h'
  unfold erL stL
  rw [nat_app l t 0 (by omega)]
  refine stF_other l.length _ _ (nat l 1) (nat l 2) (nat l 3) _ _ _ (by simp; omega) (fun h => nat_app _ _ _ h) (fun h => nat_app _ _ _ h) (fun h => nat_app _ _ _ h) hp ?_ h
  intro x e1 e2 e3
  have : x = nat (l ++ t) l.length := by
    rcases (show l.length = 1 ∨ l.length = 2 ∨ l.length = 3 by omega) with c | c | c
    · rw [c]; exact e1 c
    · rw [c]; exact e2 c
    · rw [c]; exact e3 c
  rw [this, nat_app_right _ _ _ (Nat.le_refl _), Nat.sub_self]; exact h0

/-- How many characters, and what is wrong. -/
def cntF : Nat → List UInt8 → Nat × Nat
  | 0, _ => (0, 0)
  | f + 1, l => if l = [] then (0, 0) else if erL l = 0 then (if (cntF f (l.drop (wdL l))).2 = 0 then ((cntF f (l.drop (wdL l))).1 + 1, 0) else (0, (cntF f (l.drop (wdL l))).2)) else (0, erL l)
def cnt (l : List UInt8) : Nat × Nat := cntF l.length l
theorem cntF_nil : ∀ f, cntF f [] = (0, 0)
  | 0 => rfl
  | f + 1 => by rw [cntF, if_pos rfl]
theorem cntF_fuel : ∀ (f g : Nat) (l : List UInt8), l.length ≤ f → l.length ≤ g → cntF f l = cntF g l
  | 0, g, l, h, _ => by
    have : l = [] := List.length_eq_zero_iff.1 (by omega)
    subst this; rw [cntF_nil, cntF_nil]
  | f + 1, 0, l, _, h => by
    have : l = [] := List.length_eq_zero_iff.1 (by omega)
    subst this; rw [cntF_nil, cntF_nil]
  | f + 1, g + 1, l, hf, hg => by
    by_cases hl : l = []
    · subst hl; rw [cntF_nil, cntF_nil]
    rw [cntF, cntF, if_neg hl, if_neg hl]
    by_cases he : erL l = 0
    · have hw := wdL_pos l hl he
      rw [if_pos he, if_pos he, cntF_fuel f g (l.drop (wdL l)) (by simp; omega) (by simp; omega)]
    · rw [if_neg he, if_neg he]
theorem cnt_nil : cnt [] = (0, 0) := rfl
theorem cnt_step (l : List UInt8) (hl : l ≠ []) : cnt l = if erL l = 0 then (if (cnt (l.drop (wdL l))).2 = 0 then ((cnt (l.drop (wdL l))).1 + 1, 0) else (0, (cnt (l.drop (wdL l))).2)) else (0, erL l) := by
  have hp := len_pos hl
  obtain ⟨k, hk⟩ : ∃ k, l.length = k + 1 := ⟨l.length - 1, by omega⟩
  unfold cnt
  rw [hk, cntF, if_neg hl]
  by_cases he : erL l = 0
  · have hw := wdL_pos l hl he
    rw [if_pos he, if_pos he, cntF_fuel k (l.drop (wdL l)).length (l.drop (wdL l)) (by simp; omega) (Nat.le_refl _)]
  · rw [if_neg he, if_neg he]
theorem cnt_bad (l : List UInt8) (hl : l ≠ []) (he : erL l ≠ 0) : cnt l = (0, erL l) := by rw [cnt_step l hl, if_neg he]
theorem cnt_good (l : List UInt8) (hl : l ≠ []) (he : erL l = 0) : cnt l = if (cnt (l.drop (wdL l))).2 = 0 then ((cnt (l.drop (wdL l))).1 + 1, 0) else (0, (cnt (l.drop (wdL l))).2) := by rw [cnt_step l hl, if_pos he]
theorem cnt_good2 (l : List UInt8) (hl : l ≠ []) (he : erL l = 0) : (cnt l).2 = (cnt (l.drop (wdL l))).2 := by
  rw [cnt_good l hl he]; split
  · rename_i h; rw [h]
  · rfl
theorem cnt_zero (l : List UInt8) (h : (cnt l).2 ≠ 0) : (cnt l).1 = 0 := by
  by_cases hl : l = []
  · subst hl; rfl
  by_cases he : erL l = 0
  · rw [cnt_good l hl he] at h ⊢
    split
    · rename_i c; rw [if_pos c] at h; exact absurd rfl h
    · rfl
  · rw [cnt_bad l hl he]
theorem cnt_cases : ∀ (k : Nat) (l : List UInt8), l.length ≤ k → (cnt l).2 = 0 ∨ (cnt l).2 = 30 ∨ (cnt l).2 = 31
  | 0, l, h => by
    have : l = [] := List.length_eq_zero_iff.1 (by omega)
    subst this; left; rfl
  | k + 1, l, h => by
    by_cases hl : l = []
    · subst hl; left; rfl
    by_cases he : erL l = 0
    · have hw := wdL_pos l hl he
      rw [cnt_good2 l hl he]
      exact cnt_cases k _ (by simp; omega)
    · rw [cnt_bad l hl he]; exact erL_cases l

theorem wd_app (l m : List UInt8) (hl : l ≠ []) (h : erL l = 0) : erL (l ++ m) = 0 ∧ wdL (l ++ m) = wdL l ∧ (l ++ m).drop (wdL (l ++ m)) = l.drop (wdL l) ++ m := by
  have hw := wdL_pos l hl h
  have e := stL_mono l m hl (by omega)
  have e2 : wdL (l ++ m) = wdL l := by unfold wdL; rw [e]
  refine ⟨by unfold erL; rw [e]; exact h, e2, ?_⟩
  rw [e2, List.drop_append_of_le_length (by omega)]

/-- Behind a text everything counts by itself. -/
theorem cnt_join : ∀ (k : Nat) (d m : List UInt8), d.length ≤ k → (cnt d).2 = 0 → cnt (d ++ m) = if (cnt m).2 = 0 then ((cnt d).1 + (cnt m).1, 0) else (0, (cnt m).2)
  | 0, d, m, h, _ => by
    have : d = [] := List.length_eq_zero_iff.1 (by omega)
    subst this
    rw [cnt_nil, List.nil_append]
    split
    · rename_i c; simp only [Nat.zero_add]; exact Prod.ext rfl c
    · rename_i c; exact Prod.ext (cnt_zero m c) rfl
  | k + 1, d, m, h, h0 => by
    by_cases hl : d = []
    · subst hl
      rw [cnt_nil, List.nil_append]
      split
      · rename_i c; simp only [Nat.zero_add]; exact Prod.ext rfl c
      · rename_i c; exact Prod.ext (cnt_zero m c) rfl
    have he : erL d = 0 := by
      apply Decidable.byContradiction
      intro he; rw [cnt_bad d hl he] at h0; exact he h0
    have hw := wdL_pos d hl he
    obtain ⟨a1, a2, a3⟩ := wd_app d m hl he
    have h0' : (cnt (d.drop (wdL d))).2 = 0 := by rw [← cnt_good2 d hl he]; exact h0
    rw [cnt_good (d ++ m) (by simp [hl]) a1, a3, cnt_join k _ m (by simp; omega) h0', cnt_good d hl he, if_pos h0']
    by_cases c : (cnt m).2 = 0
    · simp only [if_pos c]; simp; omega
    · simp only [if_neg c]
theorem cnt_join' (d m : List UInt8) (h : (cnt d).2 = 0) : cnt (d ++ m) = if (cnt m).2 = 0 then ((cnt d).1 + (cnt m).1, 0) else (0, (cnt m).2) := cnt_join _ d m (Nat.le_refl _) h
theorem cnt_join2 (d m : List UInt8) (h : (cnt d).2 = 0) : (cnt (d ++ m)).2 = (cnt m).2 := by
  rw [cnt_join' d m h]; split
  · rename_i c; rw [c]
  · rfl
theorem cnt_wrong : ∀ (k : Nat) (d m : List UInt8), d.length ≤ k → (cnt d).2 = 30 → (cnt (d ++ m)).2 = 30
  | 0, d, m, h, h0 => by
    have : d = [] := List.length_eq_zero_iff.1 (by omega)
    subst this; cases h0
  | k + 1, d, m, h, h0 => by
    by_cases hl : d = []
    · subst hl; cases h0
    by_cases he : erL d = 0
    · have hw := wdL_pos d hl he
      obtain ⟨a1, a2, a3⟩ := wd_app d m hl he
      rw [cnt_good2 (d ++ m) (by simp [hl]) a1, a3]
      rw [cnt_good2 d hl he] at h0
      exact cnt_wrong k _ m (by simp; omega) h0
    · rw [cnt_bad d hl he] at h0
      have e := stL_mono d m hl (by rw [show erL d = 30 from h0]; decide)
      have e2 : erL (d ++ m) = erL d := by unfold erL; rw [e]
      rw [cnt_bad (d ++ m) (by simp [hl]) (by rw [e2]; exact he), e2]; exact h0
theorem cnt_wrong' (d m : List UInt8) (h : (cnt d).2 = 30) : (cnt (d ++ m)).2 = 30 := cnt_wrong _ d m (Nat.le_refl _) h
/-- Behind the beginning of a character no text makes a text. -/
theorem cnt_half : ∀ (k : Nat) (d m : List UInt8), d.length ≤ k → (cnt d).2 = 31 → (cnt m).2 = 0 → (cnt (d ++ m)).2 ≠ 0
  | 0, d, m, h, h0, _ => by
    have : d = [] := List.length_eq_zero_iff.1 (by omega)
    subst this; cases h0
  | k + 1, d, m, h, h0, hm => by
    by_cases hl : d = []
    · subst hl; cases h0
    by_cases he : erL d = 0
    · have hw := wdL_pos d hl he
      obtain ⟨a1, a2, a3⟩ := wd_app d m hl he
      rw [cnt_good2 (d ++ m) (by simp [hl]) a1, a3]
      rw [cnt_good2 d hl he] at h0
      exact cnt_half k _ m (by simp; omega) h0 hm
    · rw [cnt_bad d hl he] at h0
      by_cases hm0 : m = []
      · subst hm0; rw [List.append_nil, cnt_bad d hl he]; exact he
      have hme : erL m = 0 := by
        apply Decidable.byContradiction
        intro hx; rw [cnt_bad m hm0 hx] at hm; exact hx hm
      have := stL_other d m hl hm0 h0 hme
      rw [cnt_bad (d ++ m) (by simp [hl]) (by omega)]; simp only []; omega
theorem cnt_half' (d m : List UInt8) (h : (cnt d).2 = 31) (hm : (cnt m).2 = 0) : (cnt (d ++ m)).2 ≠ 0 := cnt_half _ d m (Nat.le_refl _) h hm

/-- Is it a character? -/
def isCh (r : Int) : Bool := decide (0 ≤ r) && decide (r ≤ 1114111) && (decide (r < 55296) || decide (57343 < r))

/-! ### what Go's own say -/
theorem dec_st (l : List UInt8) (hl : l ≠ []) : stD (decodeL l) (begF l.length (nat l 0) (nat l 1) (nat l 2)) = stL l := by
  rw [decodeL_N]
  exact stF_eq _ _ _ _ _ (len_pos hl) (nat_lt _ _) (nat_lt _ _) (nat_lt _ _) (nat_lt _ _)
theorem dec_bad (l : List UInt8) (hl : l ≠ []) : ((decodeL l).1 = 65533 ∧ (decodeL l).2 = 1) ↔ erL l ≠ 0 := by
  unfold erL; rw [← dec_st l hl]; unfold stD
  by_cases c : (decodeL l).1 = 65533 ∧ (decodeL l).2 = 1
  · rw [if_pos c]; simp only [c, and_self, true_iff]; split <;> decide
  · rw [if_neg c]; simp [c]
theorem dec_good (l : List UInt8) (hl : l ≠ []) (h : erL l = 0) : stL l = ((decodeL l).1, (decodeL l).2, 0) := by
  rw [← dec_st l hl]; unfold stD; rw [if_neg (fun c => (dec_bad l hl).1 c h)]
theorem dec_wrong (l : List UInt8) (hl : l ≠ []) (h : erL l ≠ 0) : stL l = (0, 0, if begF l.length (nat l 0) (nat l 1) (nat l 2) then 31 else 30) := by
  rw [← dec_st l hl]; unfold stD; rw [if_pos ((dec_bad l hl).2 h)]

theorem valid_cnt : ∀ (k : Nat) (l : List UInt8), l.length ≤ k → validD l = decide ((cnt l).2 = 0)
  | 0, l, h => by
    have : l = [] := List.length_eq_zero_iff.1 (by omega)
    subst this; rfl
  | k + 1, l, h => by
    by_cases hl : l = []
    · subst hl; rfl
    rw [validD_step l hl]
    by_cases he : erL l = 0
    · have hw := wdL_pos l hl he
      rw [if_neg (fun c => (dec_bad l hl).1 c he), show (decodeL l).2 = wdL l by unfold wdL; rw [dec_good l hl he], valid_cnt k _ (by simp; omega), cnt_good2 l hl he]
    · rw [if_pos ((dec_bad l hl).2 he), cnt_bad l hl he]; simp [he]
theorem valid_cnt' (l : List UInt8) : validD l = decide ((cnt l).2 = 0) := valid_cnt _ l (Nat.le_refl _)
end Go.Proofs.YtimfabbielphbaaDoor.Pl
