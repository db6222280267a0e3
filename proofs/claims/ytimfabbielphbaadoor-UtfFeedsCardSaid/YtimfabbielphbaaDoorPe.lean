/- The reference's decoder is Go's own. -/
import Derived.Test.YtimfabbielphbaaDoorPd
namespace Go.Proofs.YtimfabbielphbaaDoor
open Go.Lib
set_option linter.unusedVariables false
set_option linter.unusedSimpArgs false

theorem take_nats (l : List UInt8) : ∀ n, n ≤ l.length → nats (l.take n) = (List.range n).map (Pl.nat l) := by
  intro n hn
  apply List.ext_getElem?
  intro i
  simp only [nats, List.getElem?_map, List.getElem?_take, List.getElem?_range']
  by_cases hi : i < n
  · have h2 : i < l.length := by omega
    simp [hi, h2, Pl.nat, List.getD]
  · simp [hi]
theorem enc_take (l : List UInt8) (n r : Nat) (hn : n ≤ l.length) (h : Pl.isCh r = true) : encL r = l.take n ↔ encB r = (List.range n).map (Pl.nat l) := by
  constructor
  · intro c
    rw [← nats_encL r h, c, take_nats l n hn]
  · intro c
    apply nats_inj
    rw [nats_encL r h, c, take_nats l n hn]

theorem ref_full (l : List UInt8) (n : Nat) (hn : n ≤ l.length) (h0 : n ≠ 0) :
    (n ≠ 0 ∧ Pl.isCh (numL l n) = true ∧ encL (numL l n) = l.take n) ↔ (Pl.isCh (numL l n) = true ∧ encB (numL l n) = (List.range n).map (Pl.nat l)) := by
  constructor
  · rintro ⟨_, a, b⟩; exact ⟨a, (enc_take l n _ hn a).1 b⟩
  · rintro ⟨a, b⟩; exact ⟨h0, a, (enc_take l n _ hn a).2 b⟩

theorem len_two {l : List UInt8} (h : l.length = 2) : ∃ x y, l = [x, y] := by
  match l, h with
  | [x, y], _ => exact ⟨x, y, rfl⟩
theorem len_three {l : List UInt8} (h : l.length = 3) : ∃ x y z, l = [x, y, z] := by
  match l, h with
  | [x, y, z], _ => exact ⟨x, y, z, rfl⟩

theorem refL_eq (l : List UInt8) (hne : l ≠ []) : refL l = Pl.stL l := by
  have hp := Pl.len_pos hne
  obtain ⟨b0, e0⟩ : ∃ b, Pl.nat l 0 = b := ⟨_, rfl⟩
  obtain ⟨b1, e1⟩ : ∃ b, Pl.nat l 1 = b := ⟨_, rfl⟩
  obtain ⟨b2, e2⟩ : ∃ b, Pl.nat l 2 = b := ⟨_, rfl⟩
  obtain ⟨b3, e3⟩ : ∃ b, Pl.nat l 3 = b := ⟨_, rfl⟩
  have l0 := Pl.nat_lt l 0; have l1 := Pl.nat_lt l 1; have l2 := Pl.nat_lt l 2; have l3 := Pl.nat_lt l 3
  rw [e0] at l0; rw [e1] at l1; rw [e2] at l2; rw [e3] at l3
  unfold refL Pl.stL Pl.stF
  rw [e0, e1, e2, e3]
  by_cases c0 : b0 < 128
  · have hl : longN b0 = 1 := by unfold longN; rw [if_pos c0]
    have hnum : numL l 1 = b0 := by unfold numL numN; rw [if_pos rfl, e0]
    have hch : Pl.isCh (b0 : Int) = true := by rw [isCh_iff]; omega
    have henc : encB b0 = [b0] := by unfold encB; rw [if_pos c0]
    rw [hl, if_pos hp, if_pos ((ref_full l 1 hp (by decide)).2 ⟨by rw [hnum]; exact hch, by rw [hnum, henc]; simp [List.range_succ, e0]⟩), hnum, if_pos c0]
  rw [if_neg c0]
  by_cases c1 : b0 < 192 ∨ 248 ≤ b0
  · have hl : longN b0 = 0 := by unfold longN; repeat' split
                                 all_goals omega
    rw [hl, if_pos (by omega), if_neg (fun c => c.1 rfl), if_pos (by omega)]
  by_cases c2 : b0 < 224
  · have hl : longN b0 = 2 := by unfold longN; rw [if_neg c0, if_neg (by omega), if_pos c2]
    have hnum : numL l 2 = b0 % 32 * 64 + b1 % 64 := by unfold numL numN; rw [if_neg (by decide), if_pos rfl, e0, e1]
    have hr : (List.range 2).map (Pl.nat l) = [b0, b1] := by simp [List.range_succ, e0, e1]
    rw [hl]
    by_cases k : 2 ≤ l.length
    · rw [if_pos k]
      have hf := full2 b0 b1 ⟨by omega, c2⟩ l1
      rw [← hnum, ← hr, ← ref_full l 2 k (by decide)] at hf
      by_cases d : b0 < 194
      · rw [if_neg (fun c => by have := hf.1 c; omega), if_pos (by omega)]
      rw [if_neg (show ¬(b0 < 194 ∨ 244 < b0) by omega), if_pos c2]
      unfold Pl.stS
      rw [if_neg (show ¬ l.length < 2 by omega)]
      by_cases f : b1 < 128 ∨ 191 < b1
      · rw [if_neg (fun c => by have := hf.1 c; omega), if_pos f]
      · rw [if_pos (hf.2 (by omega)), if_neg f, if_pos (by omega), hnum]
    · rw [if_neg k]
      obtain ⟨x, rfl⟩ : ∃ x, l = [x] := List.length_eq_one_iff.1 (by omega)
      have hx : x.toNat = b0 := e0
      have hb := beg21 x (by omega)
      rw [hx] at hb
      by_cases d : b0 < 194
      · rw [if_neg (fun c => by have := hb.1 c; omega), if_pos (by omega)]
      rw [if_pos (hb.2 (by omega)), if_neg (show ¬(b0 < 194 ∨ 244 < b0) by omega), if_pos c2]
      unfold Pl.stS
      rw [if_pos (by simp)]
  by_cases c3 : b0 < 240
  · have hl : longN b0 = 3 := by unfold longN; rw [if_neg c0, if_neg (by omega), if_neg c2, if_pos c3]
    have hnum : numL l 3 = (b0 % 16 * 64 + b1 % 64) * 64 + b2 % 64 := by unfold numL numN; rw [if_neg (by decide), if_neg (by decide), if_pos rfl, e0, e1, e2]
    have hr : (List.range 3).map (Pl.nat l) = [b0, b1, b2] := by simp [List.range_succ, e0, e1, e2]
    rw [hl, if_neg (show ¬(b0 < 194 ∨ 244 < b0) by omega), if_neg c2, if_pos c3]
    obtain ⟨lo, hlo⟩ : ∃ lo, (if b0 = 224 then 160 else 128) = lo := ⟨_, rfl⟩
    obtain ⟨hi, hhi⟩ : ∃ hi, (if b0 = 237 then 159 else 191) = hi := ⟨_, rfl⟩
    unfold Pl.stS
    by_cases k : 3 ≤ l.length
    · rw [if_pos k]
      have hf := full3 b0 b1 b2 ⟨by omega, c3⟩ l1 l2
      rw [← hnum, ← hr, ← ref_full l 3 k (by decide), hlo, hhi] at hf
      rw [hlo, hhi, if_neg (show ¬ l.length < 2 by omega)]
      by_cases f : b1 < lo ∨ hi < b1
      · rw [if_neg (fun c => by have := hf.1 c; omega), if_pos f]
      rw [if_neg f, if_neg (show ¬ 3 ≤ 2 by omega), if_neg (show ¬ l.length < 3 by omega)]
      by_cases g : b2 < 128 ∨ 191 < b2
      · rw [if_neg (fun c => by have := hf.1 c; omega), if_pos g]
      · rw [if_pos (hf.2 (by omega)), if_neg g, if_pos (by omega), hnum]
        simp only [Prod.mk.injEq, and_true]; omega
    · rw [if_neg k, hlo, hhi]
      by_cases k2 : l.length < 2
      · obtain ⟨x, rfl⟩ : ∃ x, l = [x] := List.length_eq_one_iff.1 (by omega)
        have hx : x.toNat = b0 := e0
        rw [if_pos ((beg31 x (by omega)).2 trivial), if_pos (by simp)]
      · obtain ⟨x, y, rfl⟩ : ∃ x y, l = [x, y] := len_two (by omega)
        have hx : x.toNat = b0 := e0
        have hy : y.toNat = b1 := e1
        have hb := beg32 x y (by omega)
        rw [hx, hy, hlo, hhi] at hb
        rw [if_neg k2]
        by_cases f : b1 < lo ∨ hi < b1
        · rw [if_neg (fun c => by have := hb.1 c; omega), if_pos f]
        · rw [if_pos (hb.2 (by omega)), if_neg f, if_neg (show ¬ 3 ≤ 2 by omega), if_pos (by simp)]
  have hl : longN b0 = 4 := by unfold longN; rw [if_neg c0, if_neg (by omega), if_neg c2, if_neg c3, if_pos (by omega)]
  have hnum : numL l 4 = ((b0 % 8 * 64 + b1 % 64) * 64 + b2 % 64) * 64 + b3 % 64 := by unfold numL numN; rw [if_neg (by decide), if_neg (by decide), if_neg (by decide), e0, e1, e2, e3]
  have hr : (List.range 4).map (Pl.nat l) = [b0, b1, b2, b3] := by simp [List.range_succ, e0, e1, e2, e3]
  rw [hl, if_neg c2, if_neg c3]
  obtain ⟨lo, hlo⟩ : ∃ lo, (if b0 = 240 then 144 else 128) = lo := ⟨_, rfl⟩
  obtain ⟨hi, hhi⟩ : ∃ hi, (if b0 = 244 then 143 else 191) = hi := ⟨_, rfl⟩
  unfold Pl.stS
  rw [hlo, hhi]
  by_cases k : 4 ≤ l.length
  · rw [if_pos k]
    have hf := full4 b0 b1 b2 b3 ⟨by omega, by omega⟩ l1 l2 l3
    rw [← hnum, ← hr, ← ref_full l 4 k (by decide), hlo, hhi] at hf
    by_cases d : b0 < 194 ∨ 244 < b0
    · rw [if_neg (fun c => by have := hf.1 c; omega), if_pos d]
    rw [if_neg d, if_neg (show ¬ l.length < 2 by omega)]
    by_cases f : b1 < lo ∨ hi < b1
    · rw [if_neg (fun c => by have := hf.1 c; omega), if_pos f]
    rw [if_neg f, if_neg (show ¬ 4 ≤ 2 by omega), if_neg (show ¬ l.length < 3 by omega)]
    by_cases g : b2 < 128 ∨ 191 < b2
    · rw [if_neg (fun c => by have := hf.1 c; omega), if_pos g]
    rw [if_neg g, if_neg (show ¬ 4 ≤ 3 by omega), if_neg (show ¬ l.length < 4 by omega)]
    by_cases h : b3 < 128 ∨ 191 < b3
    · rw [if_neg (fun c => by have := hf.1 c; omega), if_pos h]
    · rw [if_pos (hf.2 (by omega)), if_neg h, hnum]
      simp only [Prod.mk.injEq, and_true]; omega
  · rw [if_neg k]
    by_cases k2 : l.length < 2
    · obtain ⟨x, rfl⟩ : ∃ x, l = [x] := List.length_eq_one_iff.1 (by omega)
      have hx : x.toNat = b0 := e0
      have hb := beg41 x (by omega)
      rw [hx] at hb
      by_cases d : b0 < 194 ∨ 244 < b0
      · rw [if_neg (fun c => by have := hb.1 c; omega), if_pos d]
      · rw [if_pos (hb.2 (by omega)), if_neg d, if_pos (by simp)]
    rw [if_neg k2]
    by_cases k3 : l.length < 3
    · obtain ⟨x, y, rfl⟩ : ∃ x y, l = [x, y] := len_two (by omega)
      have hx : x.toNat = b0 := e0
      have hy : y.toNat = b1 := e1
      have hb := beg42 x y (by omega)
      rw [hx, hy, hlo, hhi] at hb
      by_cases d : b0 < 194 ∨ 244 < b0
      · rw [if_neg (fun c => by have := hb.1 c; omega), if_pos d]
      rw [if_neg d]
      by_cases f : b1 < lo ∨ hi < b1
      · rw [if_neg (fun c => by have := hb.1 c; omega), if_pos f]
      · rw [if_pos (hb.2 (by omega)), if_neg f, if_neg (show ¬ 4 ≤ 2 by omega), if_pos (by simp)]
    · obtain ⟨x, y, z, rfl⟩ : ∃ x y z, l = [x, y, z] := len_three (by omega)
      have hx : x.toNat = b0 := e0
      have hy : y.toNat = b1 := e1
      have hz : z.toNat = b2 := e2
      have hb := beg43 x y z (by omega)
      rw [hx, hy, hz, hlo, hhi] at hb
      by_cases d : b0 < 194 ∨ 244 < b0
      · rw [if_neg (fun c => by have := hb.1 c; omega), if_pos d]
      rw [if_neg d]
      by_cases f : b1 < lo ∨ hi < b1
      · rw [if_neg (fun c => by have := hb.1 c; omega), if_pos f]
      rw [if_neg f, if_neg (show ¬ 4 ≤ 2 by omega), if_neg k3]
      by_cases g : b2 < 128 ∨ 191 < b2
      · rw [if_neg (fun c => by have := hb.1 c; omega), if_pos g]
      · rw [if_pos (hb.2 (by omega)), if_neg g, if_neg (show ¬ 4 ≤ 3 by omega), if_pos (by simp)]
end Go.Proofs.YtimfabbielphbaaDoor
