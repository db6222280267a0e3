/- The reference's Begins finds the beginnings. -/
import Derived.Test.YtimfabbielphbaaDoorPc
namespace Go.Proofs.YtimfabbielphbaaDoor
open Go.Lib
set_option linter.unusedVariables false
set_option linter.unusedSimpArgs false

theorem encL_len (r : Nat) (h : Pl.isCh r = true) : (encL r).length = (encB r).length := by
  have := congrArg List.length (nats_encL r h)
  rw [nats, List.length_map] at this; exact this
theorem nats_take (l : List UInt8) (k : Nat) : nats (l.take k) = (nats l).take k := by simp [nats, List.map_take]
theorem tst_iff (l : List UInt8) (n r : Nat) (hl : l.length < n) : tst l n r = true ↔ Pl.isCh r = true ∧ (encB r).length = n ∧ (encB r).take l.length = nats l := by
  unfold tst
  by_cases h : Pl.isCh r = true
  · rw [Bool.and_eq_true, Bool.and_eq_true, beq_iff_eq, beq_iff_eq, encL_len r h]
    constructor
    · rintro ⟨⟨_, a⟩, b⟩
      rw [b, Nat.min_eq_left (by omega)] at a
      refine ⟨h, b, ?_⟩
      rw [← nats_encL r h, ← nats_take, a]
    · rintro ⟨_, a, b⟩
      rw [a, Nat.min_eq_left (by omega)]
      refine ⟨⟨h, nats_inj ?_⟩, rfl⟩
      rw [nats_take, nats_encL r h, b]
  · have h' : Pl.isCh r = false := by simpa using h
    rw [h']; simp
theorem encB_len2 (r : Nat) : (encB r).length = 2 ↔ 128 ≤ r ∧ r < 2048 := by
  unfold encB
  repeat' split
  all_goals (simp; omega)
theorem encB_len3 (r : Nat) : (encB r).length = 3 ↔ 2048 ≤ r ∧ r < 65536 := by
  unfold encB
  repeat' split
  all_goals (simp; omega)
theorem encB_len4 (r : Nat) : (encB r).length = 4 ↔ 65536 ≤ r := by
  unfold encB
  repeat' split
  all_goals (simp; omega)
theorem encB_2 (r : Nat) (h : 128 ≤ r ∧ r < 2048) : encB r = [192 + r / 64, 128 + r % 64] := by
  unfold encB; rw [if_neg (by omega), if_pos h.2]
theorem encB_3 (r : Nat) (h : 2048 ≤ r ∧ r < 65536) : encB r = [224 + r / 4096, 128 + r / 64 % 64, 128 + r % 64] := by
  unfold encB; rw [if_neg (by omega), if_neg (by omega), if_pos h.2]
theorem encB_4 (r : Nat) (h : 65536 ≤ r) : encB r = [240 + r / 262144, 128 + r / 4096 % 64, 128 + r / 64 % 64, 128 + r % 64] := by
  unfold encB; rw [if_neg (by omega), if_neg (by omega), if_neg (by omega)]

theorem tst21 (x : UInt8) (r : Nat) : tst [x] 2 r = true ↔ (128 ≤ r ∧ r < 2048) ∧ 192 + r / 64 = x.toNat := by
  rw [tst_iff _ _ _ (by simp), encB_len2, isCh_iff]
  constructor
  · rintro ⟨a, b, c⟩
    rw [encB_2 r b] at c; simp [nats] at c; exact ⟨b, c⟩
  · rintro ⟨b, c⟩
    refine ⟨by omega, b, ?_⟩
    rw [encB_2 r b]; simp [nats]; exact c
theorem tst31 (x : UInt8) (r : Nat) : tst [x] 3 r = true ↔ ((2048 ≤ r ∧ r < 55296) ∨ (57343 < r ∧ r < 65536)) ∧ 224 + r / 4096 = x.toNat := by
  rw [tst_iff _ _ _ (by simp), encB_len3, isCh_iff]
  constructor
  · rintro ⟨a, b, c⟩
    rw [encB_3 r b] at c; simp [nats] at c; exact ⟨by omega, c⟩
  · rintro ⟨b, c⟩
    refine ⟨by omega, by omega, ?_⟩
    rw [encB_3 r (by omega)]; simp [nats]; exact c
theorem tst32 (x y : UInt8) (r : Nat) : tst [x, y] 3 r = true ↔ ((2048 ≤ r ∧ r < 55296) ∨ (57343 < r ∧ r < 65536)) ∧ 224 + r / 4096 = x.toNat ∧ 128 + r / 64 % 64 = y.toNat := by
  rw [tst_iff _ _ _ (by simp), encB_len3, isCh_iff]
  constructor
  · rintro ⟨a, b, c⟩
    rw [encB_3 r b] at c; simp [nats] at c; exact ⟨by omega, c.1, c.2⟩
  · rintro ⟨b, c, d⟩
    refine ⟨by omega, by omega, ?_⟩
    rw [encB_3 r (by omega)]; simp [nats]; exact ⟨c, d⟩
theorem tst41 (x : UInt8) (r : Nat) : tst [x] 4 r = true ↔ (65536 ≤ r ∧ r ≤ 1114111) ∧ 240 + r / 262144 = x.toNat := by
  rw [tst_iff _ _ _ (by simp), encB_len4, isCh_iff]
  constructor
  · rintro ⟨a, b, c⟩
    rw [encB_4 r b] at c; simp [nats] at c; exact ⟨by omega, c⟩
  · rintro ⟨b, c⟩
    refine ⟨by omega, by omega, ?_⟩
    rw [encB_4 r (by omega)]; simp [nats]; exact c
theorem tst42 (x y : UInt8) (r : Nat) : tst [x, y] 4 r = true ↔ (65536 ≤ r ∧ r ≤ 1114111) ∧ 240 + r / 262144 = x.toNat ∧ 128 + r / 4096 % 64 = y.toNat := by
  rw [tst_iff _ _ _ (by simp), encB_len4, isCh_iff]
  constructor
  · rintro ⟨a, b, c⟩
    rw [encB_4 r b] at c; simp [nats] at c; exact ⟨by omega, c.1, c.2⟩
  · rintro ⟨b, c, d⟩
    refine ⟨by omega, by omega, ?_⟩
    rw [encB_4 r (by omega)]; simp [nats]; exact ⟨c, d⟩
theorem tst43 (x y z : UInt8) (r : Nat) : tst [x, y, z] 4 r = true ↔ (65536 ≤ r ∧ r ≤ 1114111) ∧ 240 + r / 262144 = x.toNat ∧ 128 + r / 4096 % 64 = y.toNat ∧ 128 + r / 64 % 64 = z.toNat := by
  rw [tst_iff _ _ _ (by simp), encB_len4, isCh_iff]
  constructor
  · rintro ⟨a, b, c⟩
    rw [encB_4 r b] at c; simp [nats] at c; exact ⟨by omega, c.1, c.2.1, c.2.2⟩
  · rintro ⟨b, c, d, f⟩
    refine ⟨by omega, by omega, ?_⟩
    rw [encB_4 r (by omega)]; simp [nats]; exact ⟨c, d, f⟩

theorem begR_iff (l : List UInt8) (n : Nat) (hn : n = 2 ∨ n = 3 ∨ n = 4) (hl : l.length < n) :
    begR l n = true ↔ tst l n (numL (padL l n 128) n) = true ∨ tst l n (numL (padL l n 191) n) = true ∨
      (numL (padL l n 128) n ≤ least n ∧ least n ≤ numL (padL l n 191) n ∧ (encB (least n)).take l.length = nats l) := by
  unfold begR
  rw [Bool.or_eq_true, Bool.or_eq_true, Bool.and_eq_true, Bool.and_eq_true, decide_eq_true_eq, decide_eq_true_eq, beq_iff_eq, or_assoc, and_assoc]
  have h : (encL (least n)).take l.length = l ↔ (encB (least n)).take l.length = nats l := by
    constructor
    · intro c
      rw [← nats_encL _ (least_ok n hn).1, ← nats_take, c]
    · intro c
      apply nats_inj
      rw [nats_take, nats_encL _ (least_ok n hn).1, c]
  rw [h]

theorem beg21 (x : UInt8) (h : 192 ≤ x.toNat ∧ x.toNat < 224) : begR [x] 2 = true ↔ 194 ≤ x.toNat := by
  rw [begR_iff _ _ (by omega) (by simp), tst21, tst21]
  have eA : numL (padL [x] 2 128) 2 = x.toNat % 32 * 64 + 0 := by simp [numL, numN, padL, Pl.nat]
  have eB : numL (padL [x] 2 191) 2 = x.toNat % 32 * 64 + 63 := by simp [numL, numN, padL, Pl.nat]
  have eL : (encB (least 2)).take 1 = [194] := by decide
  rw [eA, eB, show [x].length = 1 from rfl, eL]
  simp only [least, nats, List.map, List.cons.injEq, and_true, if_true]
  obtain ⟨c, hc⟩ : ∃ c, x.toNat = 192 + c := ⟨x.toNat - 192, by omega⟩
  rw [hc]
  omega
set_option maxRecDepth 100000 in
theorem beg31 (x : UInt8) (h : 224 ≤ x.toNat ∧ x.toNat < 240) : begR [x] 3 = true ↔ True := by
  rw [begR_iff _ _ (by omega) (by simp), tst31, tst31]
  have eA : numL (padL [x] 3 128) 3 = x.toNat % 16 * 4096 := by simp [numL, numN, padL, Pl.nat, List.replicate]; omega
  have eB : numL (padL [x] 3 191) 3 = x.toNat % 16 * 4096 + 4095 := by simp [numL, numN, padL, Pl.nat, List.replicate]; omega
  have eL : (encB (least 3)).take 1 = [224] := by decide
  rw [eA, eB, show [x].length = 1 from rfl, eL]
  simp only [least, nats, List.map, List.cons.injEq, and_true, if_true]
  obtain ⟨c, hc⟩ : ∃ c, x.toNat = 224 + c := ⟨x.toNat - 224, by omega⟩
  rw [hc, show (224 + c) % 16 = c by omega]
  simp only [iff_true]
  omega
set_option maxRecDepth 100000 in
theorem beg32 (x y : UInt8) (h : 224 ≤ x.toNat ∧ x.toNat < 240) : begR [x, y] 3 = true ↔ ((if x.toNat = 224 then 160 else 128) ≤ y.toNat ∧ y.toNat ≤ (if x.toNat = 237 then 159 else 191)) := by
  rw [begR_iff _ _ (by omega) (by simp), tst32, tst32]
  have hy := y.toNat_lt
  have eA : numL (padL [x, y] 3 128) 3 = x.toNat % 16 * 4096 + y.toNat % 64 * 64 := by simp [numL, numN, padL, Pl.nat, List.replicate]; omega
  have eB : numL (padL [x, y] 3 191) 3 = x.toNat % 16 * 4096 + y.toNat % 64 * 64 + 63 := by simp [numL, numN, padL, Pl.nat, List.replicate]; omega
  have eL : (encB (least 3)).take 2 = [224, 160] := by decide
  rw [eA, eB, show [x, y].length = 2 from rfl, eL]
  simp only [nats, List.map, List.cons.injEq, and_true]
  rw [show least 3 = 2048 from rfl]
  obtain ⟨c, hc⟩ : ∃ c, x.toNat = 224 + c := ⟨x.toNat - 224, by omega⟩
  obtain ⟨d, hd⟩ : ∃ d, y.toNat % 64 = d := ⟨_, rfl⟩
  have hdl : d < 64 := by omega
  rw [hc, show (224 + c) % 16 = c by omega, hd]
  obtain ⟨A, hA⟩ : ∃ A, c * 4096 + d * 64 = A := ⟨_, rfl⟩
  have q1 : A / 4096 = c := by omega
  have q2 : A / 64 % 64 = d := by omega
  have q3 : (A + 63) / 4096 = c := by omega
  have q4 : (A + 63) / 64 % 64 = d := by omega
  rw [hA, q1, q2, q3, q4]
  clear q1 q2 q3 q4 eA eB eL
  split <;> split <;> omega
set_option maxRecDepth 100000 in
theorem beg41 (x : UInt8) (h : 240 ≤ x.toNat ∧ x.toNat < 248) : begR [x] 4 = true ↔ x.toNat ≤ 244 := by
  rw [begR_iff _ _ (by omega) (by simp), tst41, tst41]
  have eA : numL (padL [x] 4 128) 4 = x.toNat % 8 * 262144 := by simp [numL, numN, padL, Pl.nat, List.replicate]; omega
  have eB : numL (padL [x] 4 191) 4 = x.toNat % 8 * 262144 + 262143 := by simp [numL, numN, padL, Pl.nat, List.replicate]; omega
  have eL : (encB (least 4)).take 1 = [240] := by decide
  rw [eA, eB, show [x].length = 1 from rfl, eL]
  simp only [nats, List.map, List.cons.injEq, and_true]
  rw [show least 4 = 65536 from rfl]
  obtain ⟨c, hc⟩ : ∃ c, x.toNat = 240 + c := ⟨x.toNat - 240, by omega⟩
  rw [hc, show (240 + c) % 8 = c by omega]
  clear eA eB eL
  omega
set_option maxRecDepth 100000 in
theorem beg42 (x y : UInt8) (h : 240 ≤ x.toNat ∧ x.toNat < 248) : begR [x, y] 4 = true ↔ x.toNat ≤ 244 ∧ ((if x.toNat = 240 then 144 else 128) ≤ y.toNat ∧ y.toNat ≤ (if x.toNat = 244 then 143 else 191)) := by
  rw [begR_iff _ _ (by omega) (by simp), tst42, tst42]
  have hy := y.toNat_lt
  have eA : numL (padL [x, y] 4 128) 4 = x.toNat % 8 * 262144 + y.toNat % 64 * 4096 := by simp [numL, numN, padL, Pl.nat, List.replicate]; omega
  have eB : numL (padL [x, y] 4 191) 4 = x.toNat % 8 * 262144 + y.toNat % 64 * 4096 + 4095 := by simp [numL, numN, padL, Pl.nat, List.replicate]; omega
  have eL : (encB (least 4)).take 2 = [240, 144] := by decide
  rw [eA, eB, show [x, y].length = 2 from rfl, eL]
  simp only [nats, List.map, List.cons.injEq, and_true]
  rw [show least 4 = 65536 from rfl]
  obtain ⟨c, hc⟩ : ∃ c, x.toNat = 240 + c := ⟨x.toNat - 240, by omega⟩
  obtain ⟨d, hd⟩ : ∃ d, y.toNat % 64 = d := ⟨_, rfl⟩
  have hdl : d < 64 := by omega
  rw [hc, show (240 + c) % 8 = c by omega, hd]
  obtain ⟨A, hA⟩ : ∃ A, c * 262144 + d * 4096 = A := ⟨_, rfl⟩
  have q1 : A / 262144 = c := by omega
  have q2 : A / 4096 % 64 = d := by omega
  have q3 : (A + 4095) / 262144 = c := by omega
  have q4 : (A + 4095) / 4096 % 64 = d := by omega
  rw [hA, q1, q2, q3, q4]
  clear q1 q2 q3 q4 eA eB eL
  split <;> split <;> omega
set_option maxRecDepth 100000 in
theorem beg43 (x y z : UInt8) (h : 240 ≤ x.toNat ∧ x.toNat < 248) : begR [x, y, z] 4 = true ↔ x.toNat ≤ 244 ∧ ((if x.toNat = 240 then 144 else 128) ≤ y.toNat ∧ y.toNat ≤ (if x.toNat = 244 then 143 else 191)) ∧ 128 ≤ z.toNat ∧ z.toNat ≤ 191 := by
  rw [begR_iff _ _ (by omega) (by simp), tst43, tst43]
  have hy := y.toNat_lt
  have hz := z.toNat_lt
  have eA : numL (padL [x, y, z] 4 128) 4 = x.toNat % 8 * 262144 + y.toNat % 64 * 4096 + z.toNat % 64 * 64 := by simp [numL, numN, padL, Pl.nat, List.replicate]; omega
  have eB : numL (padL [x, y, z] 4 191) 4 = x.toNat % 8 * 262144 + y.toNat % 64 * 4096 + z.toNat % 64 * 64 + 63 := by simp [numL, numN, padL, Pl.nat, List.replicate]; omega
  have eL : (encB (least 4)).take 3 = [240, 144, 128] := by decide
  rw [eA, eB, show [x, y, z].length = 3 from rfl, eL]
  simp only [nats, List.map, List.cons.injEq, and_true]
  rw [show least 4 = 65536 from rfl]
  obtain ⟨c, hc⟩ : ∃ c, x.toNat = 240 + c := ⟨x.toNat - 240, by omega⟩
  obtain ⟨d, hd⟩ : ∃ d, y.toNat % 64 = d := ⟨_, rfl⟩
  obtain ⟨f, hf⟩ : ∃ f, z.toNat % 64 = f := ⟨_, rfl⟩
  have hdl : d < 64 := by omega
  have hfl : f < 64 := by omega
  rw [hc, show (240 + c) % 8 = c by omega, hd, hf]
  obtain ⟨A, hA⟩ : ∃ A, c * 262144 + d * 4096 + f * 64 = A := ⟨_, rfl⟩
  have q1 : A / 262144 = c := by omega
  have q2 : A / 4096 % 64 = d := by omega
  have q5 : A / 64 % 64 = f := by omega
  have q3 : (A + 63) / 262144 = c := by omega
  have q4 : (A + 63) / 4096 % 64 = d := by omega
  have q6 : (A + 63) / 64 % 64 = f := by omega
  rw [hA, q1, q2, q3, q4, q5, q6]
  clear q1 q2 q3 q4 q5 q6 eA eB eL
  split <;> split <;> omega
end Go.Proofs.YtimfabbielphbaaDoor
