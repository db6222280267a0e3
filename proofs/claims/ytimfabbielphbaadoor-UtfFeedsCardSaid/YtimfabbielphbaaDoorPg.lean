/- What is decoded is encoded as itself, and the other way round; how many characters there are at most. -/
import Derived.Test.YtimfabbielphbaaDoorPe
namespace Go.Proofs.YtimfabbielphbaaDoor
open Go.Lib
set_option linter.unusedVariables false
set_option linter.unusedSimpArgs false

theorem st_enc (l : List UInt8) (hne : l ≠ []) (c n : Nat) (h : Pl.stL l = (c, n, 0)) : Pl.isCh (c : Int) = true ∧ encL c = l.take n := by
  rw [← refL_eq l hne] at h
  unfold refL at h
  split at h
  · split at h
    · rename_i hh
      injection h with h1 h2
      injection h2 with h2 _
      rw [h2] at hh h1
      rw [h1] at hh
      exact ⟨hh.2.1, hh.2.2⟩
    · injection h with _ h; injection h with _ h; cases h
  · split at h
    · injection h with _ h; injection h with _ h; cases h
    · injection h with _ h; injection h with _ h; cases h

theorem nat_nats (l : List UInt8) (i : Nat) : Pl.nat l i = (nats l).getD i 0 := by
  unfold Pl.nat nats
  simp only [List.getD_eq_getElem?_getD, List.getElem?_map]
  cases l[i]? <;> rfl
theorem nats_len (l : List UInt8) : (nats l).length = l.length := by simp [nats]

theorem enc_st (r : Nat) (h : Pl.isCh (r : Int) = true) : Pl.stL (encL r) = (r, (encL r).length, 0) ∧ encL r ≠ [] := by
  have hn := nats_encL r h
  have hb := h
  rw [isCh_iff] at hb
  have hl := nats_len (encL r)
  have h0 := nat_nats (encL r) 0
  have h1 := nat_nats (encL r) 1
  have h2 := nat_nats (encL r) 2
  have h3 := nat_nats (encL r) 3
  rw [hn] at hl h0 h1 h2 h3
  have key : ∀ n, (encL r).length = n → n ≠ 0 → longN (Pl.nat (encL r) 0) = n → numL (encL r) n = r → Pl.stL (encL r) = (r, (encL r).length, 0) ∧ encL r ≠ [] := by
    intro n e1 e2 e3 e4
    have hne : encL r ≠ [] := by intro c; rw [c] at e1; simp at e1; omega
    refine ⟨?_, hne⟩
    rw [← refL_eq _ hne]
    unfold refL
    rw [e3, e4, e1, if_pos (Nat.le_refl n), if_pos ⟨e2, h, (List.take_of_length_le (by omega)).symm⟩]
  unfold encB at hl h0 h1 h2 h3
  by_cases c1 : r < 128
  · simp only [if_pos c1] at hl h0
    refine key 1 (by simpa using hl.symm) (by decide) ?_ ?_
    · rw [h0]; simp [longN, c1]
    · unfold numL numN; rw [if_pos rfl, h0]; simp
  by_cases c2 : r < 2048
  · simp only [if_neg c1, if_pos c2] at hl h0 h1
    refine key 2 (by simpa using hl.symm) (by decide) ?_ ?_
    · rw [h0]; simp only [List.getD_cons_zero, longN]
      rw [if_neg (by omega), if_neg (by omega), if_pos (by omega)]
    · unfold numL numN; rw [if_neg (by decide), if_pos rfl, h0, h1]; simp; omega
  by_cases c3 : r < 65536
  · simp only [if_neg c1, if_neg c2, if_pos c3] at hl h0 h1 h2
    refine key 3 (by simpa using hl.symm) (by decide) ?_ ?_
    · rw [h0]; simp only [List.getD_cons_zero, longN]
      rw [if_neg (by omega), if_neg (by omega), if_neg (by omega), if_pos (by omega)]
    · unfold numL numN; rw [if_neg (by decide), if_neg (by decide), if_pos rfl, h0, h1, h2]; simp; omega
  · simp only [if_neg c1, if_neg c2, if_neg c3] at hl h0 h1 h2 h3
    refine key 4 (by simpa using hl.symm) (by decide) ?_ ?_
    · rw [h0]; simp only [List.getD_cons_zero, longN]
      rw [if_neg (by omega), if_neg (by omega), if_neg (by omega), if_neg (by omega), if_pos (by omega)]
    · unfold numL numN; rw [if_neg (by decide), if_neg (by decide), if_neg (by decide), h0, h1, h2, h3]; simp; omega
theorem cnt_whole (l : List UInt8) (c : Nat) (hne : l ≠ []) (e : Pl.stL l = (c, l.length, 0)) : Pl.cnt l = (1, 0) := by
  have he : Pl.erL l = 0 := by unfold Pl.erL; rw [e]
  have hw : Pl.wdL l = l.length := by unfold Pl.wdL; rw [e]
  have h := Pl.cnt_good _ hne he
  rw [hw, List.drop_length, Pl.cnt_nil] at h
  simpa using h
theorem enc_cnt (r : Nat) (h : Pl.isCh (r : Int) = true) : Pl.cnt (encL r) = (1, 0) := by
  obtain ⟨e, hne⟩ := enc_st r h
  exact cnt_whole (encL r) r hne e

theorem cnt_le : ∀ (k : Nat) (l : List UInt8), l.length ≤ k → (Pl.cnt l).1 ≤ l.length
  | 0, l, h => by
    have : l = [] := List.length_eq_zero_iff.1 (by omega)
    subst this; exact Nat.le_refl _
  | k + 1, l, h => by
    by_cases hl : l = []
    · subst hl; exact Nat.le_refl _
    by_cases he : Pl.erL l = 0
    · have hw := Pl.wdL_pos l hl he
      have ih := cnt_le k (l.drop (Pl.wdL l)) (by simp; omega)
      simp at ih
      rw [Pl.cnt_good l hl he]
      split
      · simp only []; omega
      · simp
    · rw [Pl.cnt_bad l hl he]; simp
end Go.Proofs.YtimfabbielphbaaDoor
