/- The reference's small functions: Is, bytes, long, number. -/
import Derived.Test.YtimfabbielphbaaDoorPb
import Derived.Test.YtimfabbielphbaaDoorSh
import Derived.IntWalk
import Derived.Test.YtimfabbielphbaaDoorPUtfTextsx1
namespace Go.Proofs.YtimfabbielphbaaDoor
open Go.RowKit Go.Lib Go.Proofs.YtimfabbielphbaaDoorW.PrintWords Go.Proofs.YtimfabbielphbaaDoorW.PrintMore
set_option linter.unusedVariables false
set_option linter.unusedSimpArgs false

theorem is_any (r : Int) (w : World) : Calls Tryd.prog 24 #[.int .i64 r] w fun e w' => e = .returned (.bool (Pl.isCh r)) ∧ ∃ q, w' = w.drewN q := by
  refine (PUtfTexts.calamusref03_Is.calls r (Pl.isCh r) w ?_).mono fun e w' h => ⟨h.1, h.2.out⟩
  unfold PUtfTexts.calamusref03_Is.f Pl.isCh
  by_cases a : r ≥ 0
  · rw [if_pos a]
    by_cases b : r ≤ 1114111
    · rw [if_pos b]
      by_cases c : r < 55296
      · rw [if_pos c, decide_eq_true (show 0 ≤ r by omega), decide_eq_true b, decide_eq_true c]; rfl
      · rw [if_neg c, decide_eq_true (show 0 ≤ r by omega), decide_eq_true b, decide_eq_false c]; rfl
    · rw [if_neg b, decide_eq_false b, Bool.and_false, Bool.false_and]
  · rw [if_neg a, decide_eq_false (show ¬ 0 ≤ r by omega), Bool.false_and, Bool.false_and]

theorem isCh_iff (r : Int) : Pl.isCh r = true ↔ 0 ≤ r ∧ r ≤ 1114111 ∧ (r < 55296 ∨ 57343 < r) := by
  unfold Pl.isCh
  simp only [Bool.and_eq_true, Bool.or_eq_true, decide_eq_true_eq, and_assoc]

theorem td_nat (n k : Nat) : Int.tdiv (n : Int) (k : Int) = ((n / k : Nat) : Int) := by rw [Int.tdiv_eq_ediv_of_nonneg (by omega)]; exact (Int.natCast_ediv _ _).symm
theorem tm_nat (n k : Nat) : Int.tmod (n : Int) (k : Int) = ((n % k : Nat) : Int) := by rw [Int.tmod_eq_emod_of_nonneg (by omega)]; exact (Int.natCast_emod _ _).symm
theorem wr_nat (m : Nat) (hm : m ≤ 1000000000) : wrap64 (m : Int) = m := IntWalk.wrap64_in _ (by omega)
theorem wa_nat (k m : Nat) (hm : k + m ≤ 1000000000) : wrap64 ((k : Int) + (m : Int)) = ((k + m : Nat) : Int) := by rw [← Int.natCast_add]; exact wr_nat _ hm
theorem md_nat (m : Nat) : (m : Int) % 256 = ((m % 256 : Nat) : Int) := (Int.natCast_emod m 256).symm
theorem of_nat (m : Nat) : UInt8.ofNat ((m % 256 : Nat) : Int).toNat = UInt8.ofNat m := by rw [Int.toNat_natCast]; apply UInt8.toNat_inj.1; simp

theorem by_hi (c k n : Nat) (hc : c ≤ 1000) (hn : n ≤ 1114111) : wrap64 ((c : Int) + wrap64 (Int.tdiv (n : Int) (k : Int))) % 256 = (((c + n / k) % 256 : Nat) : Int) := by
  have : n / k ≤ n := Nat.div_le_self _ _
  rw [td_nat, wr_nat _ (by omega), wa_nat _ _ (by omega), md_nat (c + n / k)]
theorem by_lo (n : Nat) : wrap64 (128 + Int.tmod (n : Int) 64) % 256 = (((128 + n % 64) % 256 : Nat) : Int) := by
  have h := tm_nat n 64
  have g := wa_nat 128 (n % 64) (by omega)
  rw [show ((64 : Nat) : Int) = 64 by omega] at h
  rw [show ((128 : Nat) : Int) = 128 by omega] at g
  rw [h, g, md_nat (128 + n % 64)]
theorem by_mid (k n : Nat) (hn : n ≤ 1114111) : wrap64 (128 + Int.tmod (wrap64 (Int.tdiv (n : Int) (k : Int))) 64) % 256 = (((128 + n / k % 64) % 256 : Nat) : Int) := by
  have : n / k ≤ n := Nat.div_le_self _ _
  rw [td_nat, wr_nat _ (by omega), by_lo]

theorem sn1 (x : Nat) : strOfNums [((x % 256 : Nat) : Int)] = ⟨#[UInt8.ofNat x]⟩ := by simp only [strOfNums, List.map, of_nat]
theorem sn2 (x y : Nat) : strOfNums [((x % 256 : Nat) : Int), ((y % 256 : Nat) : Int)] = ⟨#[UInt8.ofNat x, UInt8.ofNat y]⟩ := by simp only [strOfNums, List.map, of_nat]
theorem sn3 (x y z : Nat) : strOfNums [((x % 256 : Nat) : Int), ((y % 256 : Nat) : Int), ((z % 256 : Nat) : Int)] = ⟨#[UInt8.ofNat x, UInt8.ofNat y, UInt8.ofNat z]⟩ := by simp only [strOfNums, List.map, of_nat]
theorem sn4 (x y z u : Nat) : strOfNums [((x % 256 : Nat) : Int), ((y % 256 : Nat) : Int), ((z % 256 : Nat) : Int), ((u % 256 : Nat) : Int)] = ⟨#[UInt8.ofNat x, UInt8.ofNat y, UInt8.ofNat z, UInt8.ofNat u]⟩ := by simp only [strOfNums, List.map, of_nat]

/-- A character's bytes, by its size. -/
def encN (n : Nat) : ByteArray :=
  if n < 128 then ⟨#[UInt8.ofNat n]⟩
  else if n < 2048 then ⟨#[UInt8.ofNat (192 + n / 64), UInt8.ofNat (128 + n % 64)]⟩
  else if n < 65536 then ⟨#[UInt8.ofNat (224 + n / 4096), UInt8.ofNat (128 + n / 64 % 64), UInt8.ofNat (128 + n % 64)]⟩
  else ⟨#[UInt8.ofNat (240 + n / 262144), UInt8.ofNat (128 + n / 4096 % 64), UInt8.ofNat (128 + n / 64 % 64), UInt8.ofNat (128 + n % 64)]⟩
theorem encode_nat (n : Nat) (h : Pl.isCh n = true) : Utf8.encode n = encN n := by
  rw [isCh_iff] at h
  have hv : Utf8.valid (n : Int) = true := by
    unfold Utf8.valid
    simp only [Bool.and_eq_true, Bool.or_eq_true, decide_eq_true_eq]; omega
  unfold Utf8.encode encN
  simp only [hv, if_true, Int.toNat_natCast]

theorem bytes_f (n : Nat) (hn : n ≤ 1114111) : PUtfTexts.calamusref03_bytes.f n = some (encN n) := by
  unfold PUtfTexts.calamusref03_bytes.f encN
  rcases (show n < 128 ∨ (128 ≤ n ∧ n < 2048) ∨ (2048 ≤ n ∧ n < 65536) ∨ 65536 ≤ n by omega) with c | c | c | c
  · refine (if_pos (show (n : Int) < 128 by omega)).trans ?_
    refine (congrArg some ?_).trans (congrArg some (if_pos c).symm)
    refine Eq.trans ?_ (sn1 n)
    exact congrArg strOfNums (congrArg (· :: []) (md_nat n))
  · refine (if_neg (show ¬(n : Int) < 128 by omega)).trans ((if_pos (show (n : Int) < 2048 by omega)).trans ?_)
    refine (congrArg some ?_).trans (congrArg some ((if_neg (show ¬ n < 128 by omega)).trans (if_pos c.2)).symm)
    refine Eq.trans ?_ (sn2 (192 + n / 64) (128 + n % 64))
    rw [← by_hi 192 64 n (by decide) hn, ← by_lo n]; rfl
  · refine (if_neg (show ¬(n : Int) < 128 by omega)).trans ((if_neg (show ¬ (n : Int) < 2048 by omega)).trans ((if_pos (show (n : Int) < 65536 by omega)).trans ?_))
    refine (congrArg some ?_).trans (congrArg some ((if_neg (show ¬ n < 128 by omega)).trans ((if_neg (show ¬ n < 2048 by omega)).trans (if_pos c.2))).symm)
    refine Eq.trans ?_ (sn3 (224 + n / 4096) (128 + n / 64 % 64) (128 + n % 64))
    rw [← by_hi 224 4096 n (by decide) hn, ← by_mid 64 n hn, ← by_lo n]; rfl
  · refine (if_neg (show ¬(n : Int) < 128 by omega)).trans ((if_neg (show ¬ (n : Int) < 2048 by omega)).trans ((if_neg (show ¬ (n : Int) < 65536 by omega)).trans ?_))
    refine (congrArg some ?_).trans (congrArg some ((if_neg (show ¬ n < 128 by omega)).trans ((if_neg (show ¬ n < 2048 by omega)).trans (if_neg (show ¬ n < 65536 by omega)))).symm)
    refine Eq.trans ?_ (sn4 (240 + n / 262144) (128 + n / 4096 % 64) (128 + n / 64 % 64) (128 + n % 64))
    rw [← by_hi 240 262144 n (by decide) hn, ← by_mid 4096 n hn, ← by_mid 64 n hn, ← by_lo n]; rfl
theorem bytes_any (r : Int) (h : Pl.isCh r = true) (w : World) : Calls Tryd.prog 25 #[.int .i64 r] w fun e w' => e = .returned (.string (Utf8.encode r)) ∧ Below w.heap.size w w' := by
  have h' := h
  rw [isCh_iff] at h'
  obtain ⟨n, rfl⟩ : ∃ n : Nat, r = n := ⟨r.toNat, by omega⟩
  rw [encode_nat n h]
  exact PUtfTexts.calamusref03_bytes.calls n (encN n) w (bytes_f n (by omega))

/-- How many bytes a character has that begins with b. -/
def longN (b : Nat) : Nat := if b < 128 then 1 else if b < 192 then 0 else if b < 224 then 2 else if b < 240 then 3 else if b < 248 then 4 else 0

theorem long_any (b : Nat) (w : World) : Calls Tryd.prog 28 #[.int .u8 b] w fun e w' => e = .returned (.int .i64 (longN b)) ∧ ∃ q, w' = w.drewN q := by
  refine (PUtfTexts.calamusref03_long.calls 2 b (longN b) w ?_).mono fun e w' h => ⟨h.1, h.2.out⟩
  unfold PUtfTexts.calamusref03_long.f longN
  by_cases a : b < 128
  · rw [if_pos (by omega), if_pos a]; rfl
  rw [if_neg (by omega), if_neg a]
  by_cases c : b < 192
  · rw [if_neg (by omega), if_pos c, PUtfTexts.calamusref03_long.j0, if_neg (by decide), if_neg (by omega), PUtfTexts.calamusref03_long.j1, if_neg (by decide), if_neg (by omega)]; rfl
  rw [if_pos (by omega), if_neg c]
  by_cases c2 : b < 224
  · rw [PUtfTexts.calamusref03_long.j0, if_pos (decide_eq_true (by omega)), if_pos c2]; rfl
  rw [PUtfTexts.calamusref03_long.j0, decide_eq_false (show ¬ (b : Int) < 224 by omega), if_neg (by decide), if_pos (by omega), if_neg c2, PUtfTexts.calamusref03_long.j1]
  by_cases c3 : b < 240
  · rw [if_pos (decide_eq_true (by omega)), if_pos c3]; rfl
  rw [decide_eq_false (show ¬ (b : Int) < 240 by omega), if_neg (by decide), if_neg c3, if_pos (by omega)]
  by_cases c4 : b < 248
  · rw [if_pos (by omega), if_pos c4]; rfl
  · rw [if_neg (by omega), if_neg c4]; rfl

/-- What n bytes say. -/
def numN (n b0 b1 b2 b3 : Nat) : Nat :=
  if n = 1 then b0 else if n = 2 then b0 % 32 * 64 + b1 % 64 else if n = 3 then (b0 % 16 * 64 + b1 % 64) * 64 + b2 % 64 else ((b0 % 8 * 64 + b1 % 64) * 64 + b2 % 64) * 64 + b3 % 64
def numL (l : List UInt8) (n : Nat) : Nat := numN n (Pl.nat l 0) (Pl.nat l 1) (Pl.nat l 2) (Pl.nat l 3)

theorem bt_nat (s : ByteArray) (i : Nat) (h : i < s.size) : bt s (i : Int) = (Pl.nat s.data.toList i : Int) := by
  unfold bt Pl.nat
  rw [dif_pos (by simpa using h), getD_get!']
  congr 2
  exact (Utf8W.get!_of_lt s i h).symm

theorem step_nat (a b k : Nat) (ha : a ≤ 1000000) (hb : b < 256) : wrap64 (wrap64 (64 * (a : Int)) + Int.tmod (wrap64 (b : Int)) 64) = ((a * 64 + b % 64 : Nat) : Int) := by
  have h := tm_nat b 64
  rw [show ((64 : Nat) : Int) = 64 by omega] at h
  rw [wr_nat b (by omega), h, show (64 : Int) * (a : Int) = ((a * 64 : Nat) : Int) by omega, wr_nat (a * 64) (by omega), wa_nat _ _ (by omega)]

theorem number_any (s : ByteArray) (n : Nat) (h1 : 1 ≤ n) (h4 : n ≤ 4) (hn : n ≤ s.size) (w : World) :
    Calls Tryd.prog 29 #[.string s, .int .i64 n] w fun e w' => e = .returned (.int .i64 (numL s.data.toList n)) ∧ ∃ q, w' = w.drewN q := by
  refine (PUtfTexts.calamusref03_number.calls 5 s n (numL s.data.toList n) w ?_).mono fun e w' h => ⟨h.1, h.2.out⟩
  have l0 := Pl.nat_lt s.data.toList 0; have l1 := Pl.nat_lt s.data.toList 1; have l2 := Pl.nat_lt s.data.toList 2; have l3 := Pl.nat_lt s.data.toList 3
  have b0 : bt s 0 = (Pl.nat s.data.toList 0 : Int) := bt_nat s 0 (by omega)
  unfold PUtfTexts.calamusref03_number.f numL numN
  by_cases n1 : n = 1
  · subst n1
    rw [if_pos (by omega), if_pos (by omega), b0, wr_nat _ (by omega), if_pos rfl]
  rw [if_neg (by omega), if_pos (by omega), if_pos (by omega), if_neg n1, b0, wr_nat _ (by omega)]
  have b1 : bt s 1 = (Pl.nat s.data.toList 1 : Int) := bt_nat s 1 (by omega)
  by_cases n2 : n = 2
  · subst n2
    rw [show shr .i64 128 ((2 : Nat) : Int) = ((32 : Nat) : Int) by decide, if_neg (by omega), if_pos rfl, tm_nat]
    rw [PUtfTexts.calamusref03_number.l0, if_pos (by omega), if_pos (by omega), if_pos (by omega), b1, step_nat _ _ 0 (by omega) l1, show wrap64 (1 + 1) = 2 from IntWalk.wrap64_in _ (by omega)]
    rw [PUtfTexts.calamusref03_number.l0, if_neg (by omega)]
  have b2 : bt s 2 = (Pl.nat s.data.toList 2 : Int) := bt_nat s 2 (by omega)
  rw [if_neg n2]
  by_cases n3 : n = 3
  · subst n3
    rw [show shr .i64 128 ((3 : Nat) : Int) = ((16 : Nat) : Int) by decide, if_neg (by omega), if_pos rfl, tm_nat]
    rw [PUtfTexts.calamusref03_number.l0, if_pos (by omega), if_pos (by omega), if_pos (by omega), b1, step_nat _ _ 0 (by omega) l1, show wrap64 (1 + 1) = 2 from IntWalk.wrap64_in _ (by omega)]
    rw [PUtfTexts.calamusref03_number.l0, if_pos (by omega), if_pos (by omega), if_pos (by omega), b2, step_nat _ _ 0 (by omega) l2, show wrap64 (2 + 1) = 3 from IntWalk.wrap64_in _ (by omega)]
    rw [PUtfTexts.calamusref03_number.l0, if_neg (by omega)]
  have b3 : bt s 3 = (Pl.nat s.data.toList 3 : Int) := bt_nat s 3 (by omega)
  obtain rfl : n = 4 := by omega
  rw [show shr .i64 128 ((4 : Nat) : Int) = ((8 : Nat) : Int) by decide, if_neg (by omega), if_neg n3, tm_nat]
  rw [PUtfTexts.calamusref03_number.l0, if_pos (by omega), if_pos (by omega), if_pos (by omega), b1, step_nat _ _ 0 (by omega) l1, show wrap64 (1 + 1) = 2 from IntWalk.wrap64_in _ (by omega)]
  rw [PUtfTexts.calamusref03_number.l0, if_pos (by omega), if_pos (by omega), if_pos (by omega), b2, step_nat _ _ 0 (by omega) l2, show wrap64 (2 + 1) = 3 from IntWalk.wrap64_in _ (by omega)]
  rw [PUtfTexts.calamusref03_number.l0, if_pos (by omega), if_pos (by omega), if_pos (by omega), b3, step_nat _ _ 0 (by omega) l3, show wrap64 (3 + 1) = 4 from IntWalk.wrap64_in _ (by omega)]
  rw [PUtfTexts.calamusref03_number.l0, if_neg (by omega)]
end Go.Proofs.YtimfabbielphbaaDoor
