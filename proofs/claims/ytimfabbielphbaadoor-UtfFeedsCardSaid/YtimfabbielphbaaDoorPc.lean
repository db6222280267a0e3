/- The reference's decoder finds what Go's own finds. -/
import Derived.Test.YtimfabbielphbaaDoorWf
namespace Go.Proofs.YtimfabbielphbaaDoor
open Go.Lib
set_option linter.unusedVariables false
set_option linter.unusedSimpArgs false

theorem encL_nat (n : Nat) (h : Pl.isCh n = true) : encL n = (encN n).data.toList := by rw [encL, encode_nat n h]
def encB (n : Nat) : List Nat :=
  if n < 128 then [n] else if n < 2048 then [192 + n / 64, 128 + n % 64] else if n < 65536 then [224 + n / 4096, 128 + n / 64 % 64, 128 + n % 64]
  else [240 + n / 262144, 128 + n / 4096 % 64, 128 + n / 64 % 64, 128 + n % 64]
theorem encN_map (n : Nat) : (encN n).data.toList = (encB n).map UInt8.ofNat := by
  unfold encN encB
  repeat' split
  all_goals rfl
theorem encB_lt (n : Nat) (h : n ≤ 1114111) : ∀ x ∈ encB n, x < 256 := by
  unfold encB
  intro x hx
  repeat' split at hx
  all_goals (simp only [List.mem_cons, List.not_mem_nil, or_false] at hx; omega)
/-- Bytes as numbers. -/
def nats (l : List UInt8) : List Nat := l.map UInt8.toNat
theorem nats_inj {a b : List UInt8} (h : nats a = nats b) : a = b := by
  induction a generalizing b with
  | nil => cases b with
    | nil => rfl
    | cons y t => simp [nats] at h
  | cons x s ih => cases b with
    | nil => simp [nats] at h
    | cons y t =>
      simp only [nats, List.map_cons, List.cons.injEq] at h
      rw [UInt8.toNat_inj.1 h.1, ih h.2]
theorem nats_encL (n : Nat) (h : Pl.isCh n = true) : nats (encL n) = encB n := by
  rw [encL_nat n h, encN_map, nats, List.map_map]
  have hn : n ≤ 1114111 := by rw [isCh_iff] at h; omega
  have := encB_lt n hn
  generalize encB n = L at this ⊢
  induction L with
  | nil => rfl
  | cons x t ih =>
    rw [List.map_cons, ih (fun y hy => this y (List.mem_cons_of_mem _ hy))]
    congr 1
    have := this x (List.mem_cons_self ..)
    show (UInt8.ofNat x).toNat = x
    simp; omega

/-! ### a whole character -/
theorem full2 (b0 b1 : Nat) (h0 : 192 ≤ b0 ∧ b0 < 224) (h1 : b1 < 256) :
    (Pl.isCh ((b0 % 32 * 64 + b1 % 64 : Nat) : Int) = true ∧ encB (b0 % 32 * 64 + b1 % 64) = [b0, b1]) ↔ (194 ≤ b0 ∧ 128 ≤ b1 ∧ b1 ≤ 191) := by
  obtain ⟨c, rfl⟩ : ∃ c, b0 = 192 + c := ⟨b0 - 192, by omega⟩
  obtain ⟨d, hd⟩ : ∃ d, b1 % 64 = d := ⟨_, rfl⟩
  have e : (192 + c) % 32 = c := by omega
  have hdl : d < 64 := by omega
  rw [e, hd, isCh_iff]
  unfold encB
  by_cases k : c * 64 + d < 128
  · rw [if_pos k]
    constructor
    · rintro ⟨_, h⟩; simp at h
    · intro h; omega
  · rw [if_neg k, if_pos (by omega)]
    have q1 : (c * 64 + d) / 64 = c := by omega
    have q2 : (c * 64 + d) % 64 = d := by omega
    rw [q1, q2]
    simp only [List.cons.injEq, and_true, true_and]
    omega
theorem full3 (b0 b1 b2 : Nat) (h0 : 224 ≤ b0 ∧ b0 < 240) (h1 : b1 < 256) (h2 : b2 < 256) :
    (Pl.isCh (((b0 % 16 * 64 + b1 % 64) * 64 + b2 % 64 : Nat) : Int) = true ∧ encB ((b0 % 16 * 64 + b1 % 64) * 64 + b2 % 64) = [b0, b1, b2]) ↔
      (((if b0 = 224 then 160 else 128) ≤ b1 ∧ b1 ≤ (if b0 = 237 then 159 else 191)) ∧ 128 ≤ b2 ∧ b2 ≤ 191) := by
  obtain ⟨c, rfl⟩ : ∃ c, b0 = 224 + c := ⟨b0 - 224, by omega⟩
  obtain ⟨d, hd⟩ : ∃ d, b1 % 64 = d := ⟨_, rfl⟩
  obtain ⟨f, hf⟩ : ∃ f, b2 % 64 = f := ⟨_, rfl⟩
  have e : (224 + c) % 16 = c := by omega
  have hdl : d < 64 := by omega
  have hfl : f < 64 := by omega
  rw [e, hd, hf, isCh_iff]
  obtain ⟨r, hr⟩ : ∃ r, (c * 64 + d) * 64 + f = r := ⟨_, rfl⟩
  have q1 : r / 4096 = c := by omega
  have q2 : r / 64 % 64 = d := by omega
  have q3 : r % 64 = f := by omega
  rw [hr]
  unfold encB
  by_cases k : r < 128
  · rw [if_pos k]
    constructor
    · rintro ⟨_, h⟩; simp at h
    · intro h; split at h <;> split at h <;> omega
  rw [if_neg k]
  by_cases k2 : r < 2048
  · rw [if_pos k2]
    constructor
    · rintro ⟨_, h⟩; simp at h
    · intro h; split at h <;> split at h <;> omega
  rw [if_neg k2, if_pos (by omega), q1, q2, q3]
  simp only [List.cons.injEq, and_true, true_and]
  clear q1 q2 q3
  split <;> split <;> omega
theorem full4 (b0 b1 b2 b3 : Nat) (h0 : 240 ≤ b0 ∧ b0 < 248) (h1 : b1 < 256) (h2 : b2 < 256) (h3 : b3 < 256) :
    (Pl.isCh ((((b0 % 8 * 64 + b1 % 64) * 64 + b2 % 64) * 64 + b3 % 64 : Nat) : Int) = true ∧ encB (((b0 % 8 * 64 + b1 % 64) * 64 + b2 % 64) * 64 + b3 % 64) = [b0, b1, b2, b3]) ↔
      (b0 ≤ 244 ∧ ((if b0 = 240 then 144 else 128) ≤ b1 ∧ b1 ≤ (if b0 = 244 then 143 else 191)) ∧ (128 ≤ b2 ∧ b2 ≤ 191) ∧ 128 ≤ b3 ∧ b3 ≤ 191) := by
  obtain ⟨c, rfl⟩ : ∃ c, b0 = 240 + c := ⟨b0 - 240, by omega⟩
  obtain ⟨d, hd⟩ : ∃ d, b1 % 64 = d := ⟨_, rfl⟩
  obtain ⟨f, hf⟩ : ∃ f, b2 % 64 = f := ⟨_, rfl⟩
  obtain ⟨g, hg⟩ : ∃ g, b3 % 64 = g := ⟨_, rfl⟩
  have e : (240 + c) % 8 = c := by omega
  have hdl : d < 64 := by omega
  have hfl : f < 64 := by omega
  have hgl : g < 64 := by omega
  rw [e, hd, hf, hg, isCh_iff]
  obtain ⟨r, hr⟩ : ∃ r, ((c * 64 + d) * 64 + f) * 64 + g = r := ⟨_, rfl⟩
  have q0 : r / 262144 = c := by omega
  have q1 : r / 4096 % 64 = d := by omega
  have q2 : r / 64 % 64 = f := by omega
  have q3 : r % 64 = g := by omega
  rw [hr]
  unfold encB
  by_cases k : r < 128
  · rw [if_pos k]
    constructor
    · rintro ⟨_, h⟩; simp at h
    · clear q0 q1 q2 q3; intro h; split at h <;> split at h <;> omega
  rw [if_neg k]
  by_cases k2 : r < 2048
  · rw [if_pos k2]
    constructor
    · rintro ⟨_, h⟩; simp at h
    · clear q0 q1 q2 q3; intro h; split at h <;> split at h <;> omega
  rw [if_neg k2]
  by_cases k3 : r < 65536
  · rw [if_pos k3]
    constructor
    · rintro ⟨_, h⟩; simp at h
    · clear q0 q1 q2 q3; intro h; split at h <;> split at h <;> omega
  rw [if_neg k3, q0, q1, q2, q3]
  simp only [List.cons.injEq, and_true, true_and]
  clear q0 q1 q2 q3
  split <;> split <;> omega
end Go.Proofs.YtimfabbielphbaaDoor
