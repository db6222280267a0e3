/- The checker in plain words: what is left and whether it was wrong, byte by byte; it tells what the whole text is. -/
import Derived.Test.YtimfabbielphbaaDoorPb
namespace Go.Proofs.YtimfabbielphbaaDoor
open Go.Lib
set_option linter.unusedVariables false

/-- One byte more. -/
def stp (s : List UInt8 × Bool) (x : UInt8) : List UInt8 × Bool :=
  if s.2 = true then s else (if Pl.erL (s.1 ++ [x]) = 31 then s.1 ++ [x] else [], decide (Pl.erL (s.1 ++ [x]) = 30))
def fed (s : List UInt8 × Bool) (xs : List UInt8) : List UInt8 × Bool := xs.foldl stp s
theorem fed_nil (s : List UInt8 × Bool) : fed s [] = s := rfl
theorem fed_app (s : List UInt8 × Bool) (xs ys : List UInt8) : fed s (xs ++ ys) = fed (fed s xs) ys := List.foldl_append
theorem fed_bad (lb : List UInt8) (xs : List UInt8) : fed (lb, true) xs = (lb, true) := by
  induction xs with
  | nil => rfl
  | cons x t ih => rw [fed, List.foldl_cons, show stp (lb, true) x = (lb, true) from rfl]; exact ih
theorem fed_take (s : List UInt8 × Bool) (xs : List UInt8) (j : Nat) (x : UInt8) (h : xs[j]? = some x) : fed s (xs.take (j + 1)) = stp (fed s (xs.take j)) x := by
  rw [List.take_add_one, h, fed, List.foldl_append]; rfl
theorem fed_stop (s : List UInt8 × Bool) (xs : List UInt8) (j : Nat) (lb : List UInt8) (h : fed s (xs.take j) = (lb, true)) : fed s xs = (lb, true) := by
  have e : fed s xs = fed (fed s (xs.take j)) (xs.drop j) := by
    conv => lhs; rw [← List.take_append_drop j xs, fed, List.foldl_append]
    rfl
  rw [e, h, fed_bad]
/-- What is left is nothing or a beginning. -/
def Lft (s : List UInt8 × Bool) : Prop := s.1 = [] ∨ Pl.erL s.1 = 31
theorem Lft.short {s : List UInt8 × Bool} (h : Lft s) : s.1.length < 4 := by
  rcases h with h | h
  · rw [h]; simp
  · exact Pl.erL_short _ h
theorem stp_lft (s : List UInt8 × Bool) (x : UInt8) (h : Lft s) : Lft (stp s x) := by
  unfold stp
  split
  · exact h
  · unfold Lft
    by_cases c : Pl.erL (s.1 ++ [x]) = 31
    · right; rw [if_pos c]; exact c
    · left; rw [if_neg c]
theorem fed_lft (s : List UInt8 × Bool) (xs : List UInt8) (h : Lft s) : Lft (fed s xs) := by
  induction xs generalizing s with
  | nil => exact h
  | cons x t ih => rw [fed, List.foldl_cons]; exact ih _ (stp_lft s x h)

/-- What is known of what came. -/
def Came (l : List UInt8) (s : List UInt8 × Bool) : Prop :=
  if s.2 = true then (Pl.cnt l).2 = 30 else ∃ d, l = d ++ s.1 ∧ (Pl.cnt d).2 = 0 ∧ Lft s
theorem cnt_one (r : List UInt8) (x : UInt8) (h : r = [] ∨ Pl.erL r = 31) (he : Pl.erL (r ++ [x]) = 0) : (Pl.cnt (r ++ [x])).2 = 0 := by
  have hw : Pl.wdL (r ++ [x]) = r.length + 1 := by
    by_cases hr : r = []
    · subst hr; exact Pl.stL_one x he
    · rcases h with h | h
      · exact absurd h hr
      · exact Pl.stL_grow r x hr h he
  rw [Pl.cnt_good2 (r ++ [x]) (by simp) he, List.drop_of_length_le (by rw [hw]; simp)]
  rfl
theorem came_step (l : List UInt8) (s : List UInt8 × Bool) (x : UInt8) (h : Came l s) : Came (l ++ [x]) (stp s x) := by
  unfold Came at h
  by_cases hb : s.2 = true
  · rw [if_pos hb] at h
    have e : stp s x = s := by unfold stp; rw [if_pos hb]
    rw [e]; unfold Came; rw [if_pos hb]; exact Pl.cnt_wrong' l [x] h
  · rw [if_neg hb] at h
    obtain ⟨d, rfl, hd, hl⟩ := h
    have e : stp s x = (if Pl.erL (s.1 ++ [x]) = 31 then s.1 ++ [x] else [], decide (Pl.erL (s.1 ++ [x]) = 30)) := by unfold stp; rw [if_neg hb]
    rw [e, List.append_assoc]; unfold Came
    have hne : s.1 ++ [x] ≠ [] := by simp
    by_cases c : Pl.erL (s.1 ++ [x]) = 30
    · rw [if_pos (by simpa using c), Pl.cnt_join2 d _ hd, Pl.cnt_bad _ hne (by omega)]; exact c
    · rw [if_neg (by simpa using c)]
      by_cases c' : Pl.erL (s.1 ++ [x]) = 31
      · exact ⟨d, by simp [c'], hd, by unfold Lft; right; simp only [if_pos c']; exact c'⟩
      · have he : Pl.erL (s.1 ++ [x]) = 0 := by have := Pl.erL_cases (s.1 ++ [x]); omega
        refine ⟨d ++ (s.1 ++ [x]), by simp [c'], ?_, by unfold Lft; left; simp only [if_neg c']⟩
        rw [Pl.cnt_join2 d _ hd]
        exact cnt_one s.1 x hl he
theorem came_fed (l : List UInt8) (s : List UInt8 × Bool) (xs : List UInt8) (h : Came l s) : Came (l ++ xs) (fed s xs) := by
  induction xs generalizing s l with
  | nil => rw [List.append_nil]; exact h
  | cons x t ih =>
    rw [show l ++ x :: t = l ++ [x] ++ t by simp, fed, List.foldl_cons]
    exact ih _ _ (came_step l s x h)
theorem came_nil : Came [] ([], false) := ⟨[], rfl, rfl, .inl rfl⟩

/-- What Feed and End answer, of the state. -/
def feedE (s : List UInt8 × Bool) : Nat := if s.2 then 30 else 0
def endS (s : List UInt8 × Bool) : Nat := if s.2 then 30 else if s.1 = [] then 0 else 31
theorem came_feed (l : List UInt8) (s : List UInt8 × Bool) (h : Came l s) : feedE s = if (Pl.cnt l).2 = 30 then 30 else 0 := by
  unfold Came at h; unfold feedE
  by_cases hb : s.2 = true
  · rw [if_pos hb] at h; rw [if_pos hb, if_pos h]
  · rw [if_neg hb] at h
    obtain ⟨d, rfl, hd, hl⟩ := h
    rw [if_neg hb, if_neg]
    rw [Pl.cnt_join2 d _ hd]
    rcases hl with h0 | h0
    · rw [h0]; decide
    · have hne : s.1 ≠ [] := by intro h; rw [h] at h0; revert h0; decide
      rw [Pl.cnt_bad _ hne (by omega)]; simp only []; omega
theorem came_end (l : List UInt8) (s : List UInt8 × Bool) (h : Came l s) : endS s = (Pl.cnt l).2 := by
  unfold Came at h; unfold endS
  by_cases hb : s.2 = true
  · rw [if_pos hb] at h; rw [if_pos hb, h]
  · rw [if_neg hb] at h
    obtain ⟨d, rfl, hd, hl⟩ := h
    rw [if_neg hb, Pl.cnt_join2 d _ hd]
    rcases hl with h0 | h0
    · rw [if_pos h0, h0]; rfl
    · have hne : s.1 ≠ [] := by intro h; rw [h] at h0; revert h0; decide
      rw [if_neg hne, Pl.cnt_bad _ hne (by omega)]; simp only []; omega
/-- From the beginning on. -/
theorem fed_feed (l : List UInt8) : feedE (fed ([], false) l) = if (Pl.cnt l).2 = 30 then 30 else 0 := by
  have := came_fed [] ([], false) l came_nil
  exact came_feed l _ this
theorem fed_end (l : List UInt8) : endS (fed ([], false) l) = (Pl.cnt l).2 := by
  have := came_fed [] ([], false) l came_nil
  exact came_end l _ this
end Go.Proofs.YtimfabbielphbaaDoor
