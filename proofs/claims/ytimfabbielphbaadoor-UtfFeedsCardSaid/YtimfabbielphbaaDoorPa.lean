/- What stands at a text's beginning, in numbers: a character, the beginning of one, or neither. No program in sight. -/
import Derived.Lib.TrimUEq
import Derived.Lib.ValidLaws
import Derived.Lib.FieldsU
import Derived.Lib.QuoteLoop
import Derived.Lib.RuneCount
namespace Go.Proofs.YtimfabbielphbaaDoor.Pl
open Go.Lib

/-- By the number of bytes and the second one's bounds. -/
def stS (n b0 b1 b2 b3 sz lo hi : Nat) : Nat × Nat × Nat :=
  if n < 2 then (0, 0, 31)
  else if b1 < lo ∨ hi < b1 then (0, 0, 30)
  else if sz ≤ 2 then (b0 % 32 * 64 + b1 % 64, 2, 0)
  else if n < 3 then (0, 0, 31)
  else if b2 < 128 ∨ 191 < b2 then (0, 0, 30)
  else if sz ≤ 3 then (b0 % 16 * 4096 + b1 % 64 * 64 + b2 % 64, 3, 0)
  else if n < 4 then (0, 0, 31)
  else if b3 < 128 ∨ 191 < b3 then (0, 0, 30)
  else (b0 % 8 * 262144 + b1 % 64 * 4096 + b2 % 64 * 64 + b3 % 64, 4, 0)

/-- The bytes are the beginning of a character's, and not all. -/
def begS (n b1 b2 sz lo hi : Nat) : Bool :=
  decide (n < 2) || (decide (n < sz) && decide (lo ≤ b1 ∧ b1 ≤ hi) && (decide (n < 3) || decide (128 ≤ b2 ∧ b2 ≤ 191)))

/-- What Go's decoder makes of it. -/
def stD (d : Nat × Nat) (beg : Bool) : Nat × Nat × Nat :=
  if d.1 = 65533 ∧ d.2 = 1 then (0, 0, if beg then 31 else 30) else (d.1, d.2, 0)

theorem stD_bad (b : Bool) : stD (65533, 1) b = (0, 0, if b then 31 else 30) := rfl
theorem stD_two (r : Nat) (b : Bool) : stD (r, 2) b = (r, 2, 0) := by simp [stD]
theorem stD_three (r : Nat) (b : Bool) : stD (r, 3) b = (r, 3, 0) := by simp [stD]
theorem stD_four (r : Nat) (b : Bool) : stD (r, 4) b = (r, 4, 0) := by simp [stD]

theorem stS_slow (n b0 b1 b2 b3 sz lo hi : Nat) (hsz : sz = 2 ∨ sz = 3 ∨ sz = 4) (hn : 1 ≤ n) :
    stD (slowN n b0 b1 b2 b3 sz lo hi) (begS n b1 b2 sz lo hi) = stS n b0 b1 b2 b3 sz lo hi := by
  unfold slowN stS begS
  by_cases c2 : n < 2
  · rw [if_pos (show n < sz by omega), if_pos c2, stD_bad]; simp [c2]
  rw [if_neg c2]
  by_cases k : b1 < lo ∨ hi < b1
  · have hk : ¬(lo ≤ b1 ∧ b1 ≤ hi) := by omega
    rw [if_pos k, if_pos k, ite_self, stD_bad]; simp [c2, hk]
  have hk : lo ≤ b1 ∧ b1 ≤ hi := by omega
  rw [if_neg k, if_neg k]
  by_cases z2 : sz ≤ 2
  · rw [if_pos z2, if_pos z2, if_neg (by omega), stD_two]
  rw [if_neg z2, if_neg z2]
  by_cases c3 : n < 3
  · rw [if_pos (show n < sz by omega), if_pos c3, stD_bad]; simp [c3, hk, show n < sz by omega]
  rw [if_neg c3]
  by_cases k2 : b2 < 128 ∨ 191 < b2
  · have hk2 : ¬(128 ≤ b2 ∧ b2 ≤ 191) := by omega
    rw [if_pos k2, if_pos k2, ite_self, stD_bad]; simp [c2, c3, hk2]
  have hk2 : 128 ≤ b2 ∧ b2 ≤ 191 := by omega
  rw [if_neg k2, if_neg k2]
  by_cases z3 : sz ≤ 3
  · rw [if_pos z3, if_pos z3, if_neg (by omega), stD_three]
  rw [if_neg z3, if_neg z3]
  by_cases c4 : n < 4
  · rw [if_pos (show n < sz by omega), if_pos c4, stD_bad]; simp [hk, hk2, show n < sz by omega]
  rw [if_neg c4, if_neg (by omega)]
  by_cases k3 : b3 < 128 ∨ 191 < b3
  · rw [if_pos k3, if_pos k3, stD_bad]; simp [c2, show ¬ n < sz by omega]
  · rw [if_neg k3, if_neg k3, stD_four]

/-- By the forms of the first byte. -/
def stF (n b0 b1 b2 b3 : Nat) : Nat × Nat × Nat :=
  if b0 < 128 then (b0, 1, 0)
  else if b0 < 194 ∨ 244 < b0 then (0, 0, 30)
  else if b0 < 224 then stS n b0 b1 b2 b3 2 128 191
  else if b0 < 240 then stS n b0 b1 b2 b3 3 (if b0 = 224 then 160 else 128) (if b0 = 237 then 159 else 191)
  else stS n b0 b1 b2 b3 4 (if b0 = 240 then 144 else 128) (if b0 = 244 then 143 else 191)

def begF (n b0 b1 b2 : Nat) : Bool :=
  if b0 < 194 ∨ 244 < b0 then false
  else if b0 < 224 then begS n b1 b2 2 128 191
  else if b0 < 240 then begS n b1 b2 3 (if b0 = 224 then 160 else 128) (if b0 = 237 then 159 else 191)
  else begS n b1 b2 4 (if b0 = 240 then 144 else 128) (if b0 = 244 then 143 else 191)

theorem stF_eq (n b0 b1 b2 b3 : Nat) (hn : 1 ≤ n) (h0 : b0 < 256) (h1 : b1 < 256) (h2 : b2 < 256) (h3 : b3 < 256) :
    stD (decodeN n b0 b1 b2 b3) (begF n b0 b1 b2) = stF n b0 b1 b2 b3 := by
  unfold stF begF
  by_cases c0 : b0 < 128
  · rw [decodeN_ascii _ _ _ _ _ c0, if_pos c0]
    unfold stD; rw [if_neg (by simp only []; omega)]
  rw [if_neg c0]
  by_cases c1 : b0 < 194 ∨ 244 < b0
  · rw [decodeN_bad _ _ _ _ _ (by omega), if_pos c1, if_pos c1, stD_bad]; rfl
  rw [if_neg c1, if_neg c1]
  by_cases c2 : b0 < 224
  · rw [if_pos c2, if_pos c2, ← slow_C2 n b0 b1 b2 b3 hn h1 h2 h3 (by omega), stS_slow _ _ _ _ _ _ _ _ (by omega) hn]
  rw [if_neg c2, if_neg c2]
  by_cases c3 : b0 < 240
  · rw [if_pos c3, if_pos c3]
    by_cases d : b0 = 224
    · rw [if_pos d, if_neg (by omega), ← slow_E0 n b0 b1 b2 b3 hn h1 h2 h3 d, stS_slow _ _ _ _ _ _ _ _ (by omega) hn]
    rw [if_neg d]
    by_cases d2 : b0 = 237
    · rw [if_pos d2, ← slow_ED n b0 b1 b2 b3 hn h1 h2 h3 d2, stS_slow _ _ _ _ _ _ _ _ (by omega) hn]
    rw [if_neg d2, ← slow_E1 n b0 b1 b2 b3 hn h1 h2 h3 (by omega), stS_slow _ _ _ _ _ _ _ _ (by omega) hn]
  rw [if_neg c3, if_neg c3]
  by_cases d : b0 = 240
  · rw [if_pos d, if_neg (by omega), ← slow_F0 n b0 b1 b2 b3 hn h1 h2 h3 d, stS_slow _ _ _ _ _ _ _ _ (by omega) hn]
  rw [if_neg d]
  by_cases d2 : b0 = 244
  · rw [if_pos d2, ← slow_F4 n b0 b1 b2 b3 hn h1 h2 h3 d2, stS_slow _ _ _ _ _ _ _ _ (by omega) hn]
  rw [if_neg d2, ← slow_F1 n b0 b1 b2 b3 hn h1 h2 h3 (by omega), stS_slow _ _ _ _ _ _ _ _ (by omega) hn]
end Go.Proofs.YtimfabbielphbaaDoor.Pl
