/- The reference's Begins. -/
import Derived.Test.YtimfabbielphbaaDoorWd
namespace Go.Proofs.YtimfabbielphbaaDoor
open Go.RowKit Go.Lib Go.Proofs.YtimfabbielphbaaDoorW.PrintWords Go.Proofs.YtimfabbielphbaaDoorW.PrintMore
attribute [local go_sem] max2_int min2_int max_two min_two
set_option linter.unusedVariables false
set_option linter.unusedSimpArgs false

def encL (r : Nat) : List UInt8 := (Utf8.encode r).data.toList
def padL (l : List UInt8) (n : Nat) (x : UInt8) : List UInt8 := l ++ List.replicate (n - l.length) x
/-- Does the number's character begin so, and has it n bytes? -/
def tst (l : List UInt8) (n r : Nat) : Bool := Pl.isCh r && ((encL r).take (min l.length (encL r).length) == l) && ((encL r).length == n)
def least (n : Nat) : Nat := if n = 2 then 128 else if n = 3 then 2048 else 65536
def begR (l : List UInt8) (n : Nat) : Bool :=
  tst l n (numL (padL l n 128) n) || tst l n (numL (padL l n 191) n) ||
    (decide (numL (padL l n 128) n ≤ least n) && decide (least n ≤ numL (padL l n 191) n) && ((encL (least n)).take l.length == l))

def strLen : Value → Nat | .string b => b.size | _ => 0
theorem longN_cases (b : Nat) : longN b = 0 ∨ longN b = 1 ∨ longN b = 2 ∨ longN b = 3 ∨ longN b = 4 := by
  unfold longN
  repeat' split
  all_goals omega
theorem snoc_list (t : ByteArray) (l : List UInt8) (k : Nat) (x : UInt8) (h : l ++ List.replicate k x = t.data.toList) : l ++ List.replicate (k + 1) x = (t ++ ⟨#[x]⟩).data.toList := by
  rw [ByteArray.data_append, Array.toList_append, ← h, List.append_assoc, List.replicate_succ']

theorem ext_take (E : ByteArray) (k : Nat) : (E.extract 0 k).data.toList = E.data.toList.take k := by simp [ByteArray.data_extract]
theorem tst_no (l : List UInt8) (n A : Nat) (h : Pl.isCh A = false) : tst l n A = false := by unfold tst; rw [h]; rfl
theorem tst_short (s E : ByteArray) (n A : Nat) (hE : Utf8.encode A = E) (h : E.size < s.size) : tst s.data.toList n A = false := by
  have hl : s.data.toList.length = s.size := Array.length_toList
  have he : E.data.toList.length = E.size := Array.length_toList
  have : ((encL A).take (min s.data.toList.length (encL A).length) == s.data.toList) = false := by
    rw [encL, hE]
    refine beq_eq_false_iff_ne.2 fun c => ?_
    have := congrArg List.length c
    rw [List.length_take] at this; omega
  unfold tst
  rw [this, Bool.and_false, Bool.false_and]
theorem tst_eq (s E : ByteArray) (n A : Nat) (hc : Pl.isCh A = true) (hE : Utf8.encode A = E) (h : ¬ E.size < s.size) :
    tst s.data.toList n A = (((E.extract 0 s.size).toList == s.toList) && ((E.size : Int) == (n : Int))) := by
  have hl : s.data.toList.length = s.size := Array.length_toList
  have he : E.data.toList.length = E.size := Array.length_toList
  unfold tst
  have a1 : (E.data.toList.take s.size == s.data.toList) = ((E.extract 0 s.size).toList == s.toList) := by
    rw [ByteArray.toList_eq, ByteArray.toList_eq, ext_take]
  have a2 : (E.size == n) = ((E.size : Int) == (n : Int)) := by rw [Bool.eq_iff_iff, beq_iff_eq, beq_iff_eq]; omega
  rw [hc, encL, hE, Bool.true_and, he, hl, Nat.min_eq_left (by omega), a1, a2]
theorem short_ne (s E : ByteArray) (h : E.size < s.size) : (E.toList == s.toList) = false := by
  have hl : s.data.toList.length = s.size := Array.length_toList
  have he : E.data.toList.length = E.size := Array.length_toList
  refine beq_eq_false_iff_ne.2 fun c => ?_
  rw [ByteArray.toList_eq, ByteArray.toList_eq] at c
  have := congrArg List.length c; omega

set_option maxRecDepth 100000 in
theorem least_ok (n : Nat) (h : n = 2 ∨ n = 3 ∨ n = 4) : Pl.isCh (least n) = true ∧ (Utf8.encode (least n)).size = n := by
  rcases h with rfl | rfl | rfl
  · exact ⟨by decide, by decide⟩
  · exact ⟨by decide, by decide⟩
  · exact ⟨by decide, by decide⟩
theorem begR_last (s E : ByteArray) (n A B : Nat) (hA : numL (padL s.data.toList n 128) n = A) (hB : numL (padL s.data.toList n 191) n = B) (tA : tst s.data.toList n A = false) (tB : tst s.data.toList n B = false)
    (hE : Utf8.encode (least n) = E) : begR s.data.toList n = (decide ((A : Int) ≤ (least n : Int)) && decide ((least n : Int) ≤ (B : Int)) && ((E.extract 0 s.size).toList == s.toList)) := by
  have hl : s.data.toList.length = s.size := Array.length_toList
  have a1 : decide (A ≤ least n) = decide ((A : Int) ≤ (least n : Int)) := by rw [Bool.eq_iff_iff, decide_eq_true_eq, decide_eq_true_eq]; omega
  have a2 : decide (least n ≤ B) = decide ((least n : Int) ≤ (B : Int)) := by rw [Bool.eq_iff_iff, decide_eq_true_eq, decide_eq_true_eq]; omega
  rw [begR, hA, hB, tA, tB, Bool.false_or, Bool.false_or, encL, hE, ByteArray.toList_eq, ByteArray.toList_eq, ext_take, hl, a1, a2]

set_option maxHeartbeats 1000000 in
set_option maxRecDepth 1000000 in
theorem begins_any (s : ByteArray) (n : Nat) (w : World) (hp : 0 < s.size) (hn : longN (Pl.nat s.data.toList 0) = n) (hs : s.size < n) :
    Calls Tryd.prog 30 #[.string s] w fun e w' => e = .returned (.bool (begR s.data.toList n)) ∧ Below w.heap.size w w' := by
  have hl : s.data.toList.length = s.size := Array.length_toList
  have hz0 : (0 : Int) < (s.size : Int) := by omega
  have hn4 : n = 2 ∨ n = 3 ∨ n = 4 := by have := longN_cases (Pl.nat s.data.toList 0); omega
  have hs0 : (s[0]'hp).toNat = Pl.nat s.data.toList 0 := by
    rw [Pl.nat, getD_get!']; exact congrArg _ (Utf8W.get!_of_lt s 0 (by omega)).symm
  have hB0 : decide ((s.size : Int) ≥ (n : Int)) = false := decide_eq_false (by omega)
  go_enter Tryd.func30, Tryd.ntmps30
  go_wp2_with fail
  refine (long_any _ _).mono ?_
  rintro e w1 ⟨rfl, q1, rfl⟩
  rw [hn]
  go_wp2_with fail
  go_loopw [4, 5] (fun lo hi w' => ∃ (k : Nat) (t1 t2 : ByteArray), w' = w.drewN q1 ∧ lo = .string t1 ∧ hi = .string t2 ∧ s.size + k ≤ n ∧ s.data.toList ++ List.replicate k 128 = t1.data.toList ∧ s.data.toList ++ List.replicate k 191 = t2.data.toList) (fun lo _ _ => n - strLen lo)
  case atStart => exact ⟨0, s, s, rfl, rfl, rfl, by omega, by simp, by simp⟩
  case round =>
    obtain ⟨k, t1, t2, rfl, rfl, rfl, hk, e1, e2⟩ := hrel
    have z1 : s.size + k = t1.size := by have := congrArg List.length e1; rw [List.length_append, List.length_replicate, hl] at this; exact this.trans Array.length_toList
    have z2 : s.size + k = t2.size := by have := congrArg List.length e2; rw [List.length_append, List.length_replicate, hl] at this; exact this.trans Array.length_toList
    by_cases hkn : s.size + k < n
    · have hd : decide ((t1.size : Int) < (n : Int)) = true := decide_eq_true (by omega)
      go_wp2
      go_roundw
      case rel =>
        refine ⟨k + 1, t1 ++ ⟨#[128]⟩, t2 ++ ⟨#[191]⟩, by first | rfl | trivial, by first | rfl | trivial, by first | rfl | trivial, by omega, ?_, ?_⟩
        · exact snoc_list t1 _ k 128 e1
        · exact snoc_list t2 _ k 191 e2
      case measure =>
        have hx : (⟨#[128]⟩ : ByteArray).size = 1 := rfl
        simp only [strLen, ByteArray.size_append, hx]
        omega
    · have hd : decide ((t1.size : Int) < (n : Int)) = false := decide_eq_false (by omega)
      go_wp2_with fail
      refine (number_any t1 n (by omega) (by omega) (by omega) _).mono ?_
      rintro e w2 ⟨rfl, q2, rfl⟩
      go_wp2_with fail
      refine (number_any t2 n (by omega) (by omega) (by omega) _).mono ?_
      rintro e w3 ⟨rfl, q3, rfl⟩
      have p1 : numL t1.data.toList n = numL (padL s.data.toList n 128) n := by rw [← e1, padL, show n - s.data.toList.length = k by omega]
      have p2 : numL t2.data.toList n = numL (padL s.data.toList n 191) n := by rw [← e2, padL, show n - s.data.toList.length = k by omega]
      obtain ⟨A, hA⟩ : ∃ A, numL (padL s.data.toList n 128) n = A := ⟨_, rfl⟩
      obtain ⟨B, hB⟩ : ∃ B, numL (padL s.data.toList n 191) n = B := ⟨_, rfl⟩
      rw [p1, p2, hA, hB]
      clear p1 p2
      go_wp2_with fail
      have HB : Below w.heap.size w (w.drewN (q1 + q2 + q3)) := pw_below_drewN (Below.refl _ _) _
      replace hA := Aside0.mk hA
      replace hB := Aside0.mk hB
      clear e1 e2 z1 z2 hs0 hn hkn hk
      go_loopw [8, 9] (fun i r w' => Below w.heap.size w w' ∧ (i = .int .i64 0 ∨ (i = .int .i64 1 ∧ tst s.data.toList n A = false) ∨ (i = .int .i64 2 ∧ tst s.data.toList n A = false ∧ tst s.data.toList n B = false))) (fun i _ _ => 2 - (RowKit.intOf i).toNat)
      case atStart => exact ⟨HB, .inl rfl⟩
      case round =>
        clear HB
        obtain ⟨HB, rfl | ⟨rfl, tA⟩ | ⟨rfl, tA, tB⟩⟩ := hrel
        · by_cases cA : Pl.isCh A = true
          · go_wp2_with fail
            refine (is_any _ _).mono ?_
            rintro e w4 ⟨rfl, q4, rfl⟩
            rw [cA]
            go_wp2_with fail
            refine (bytes_any _ cA _).mono ?_
            rintro e w5 ⟨rfl, B5⟩
            obtain ⟨E, hE⟩ : ∃ E, Utf8.encode (A : Int) = E := ⟨_, rfl⟩
            rw [hE]
            replace hE := Aside0.mk hE
            replace HB := below_then (pw_below_drewN (HB.alloc HB.size _) q4) (pw_below_drewN (HB.alloc HB.size _) q4).size B5
            clear B5
            go_wp2_with fail
            refine (bytes_any _ cA _).mono ?_
            rw [hE.out]
            rintro e w6 ⟨rfl, B6⟩
            replace HB := below_then HB HB.size B6
            clear B6
            by_cases cE : E.size < s.size
            · have cEz : (E.size : Int) < (s.size : Int) := by omega
              have cN := short_ne s E cE
              have t0 := tst_short s E n A hE.out cE
              go_wp2_with fail
              exact ⟨⟨HB, .inr (.inl ⟨rfl, t0⟩)⟩, by decide⟩
            · have cEz : ¬ (E.size : Int) < (s.size : Int) := by omega
              have t0 := tst_eq s E n A cA hE.out cE
              by_cases cX : ((E.extract 0 s.size).toList == s.toList) = true
              · by_cases cn : ((E.size : Int) == (n : Int)) = true
                · rw [cX, cn] at t0
                  go_wp2_with fail
                  refine (bytes_any _ cA _).mono ?_
                  rw [hE.out]
                  rintro e w7 ⟨rfl, B7⟩
                  replace HB := below_then HB HB.size B7
                  clear B7
                  replace hA := hA.out
                  replace hB := hB.out
                  have hR : begR s.data.toList n = true := by rw [begR, hA, hB, t0]; simp
                  clear hA hB t0
                  go_wp2
                  go_ret
                  exact ⟨by rw [hR]; rfl, HB⟩
                · have cn : ((E.size : Int) == (n : Int)) = false := by simpa using cn
                  rw [cX, cn] at t0
                  go_wp2_with fail
                  refine (bytes_any _ cA _).mono ?_
                  rw [hE.out]
                  rintro e w7 ⟨rfl, B7⟩
                  replace HB := below_then HB HB.size B7
                  clear B7
                  go_wp2_with fail
                  exact ⟨⟨HB, .inr (.inl ⟨rfl, t0⟩)⟩, by decide⟩
              · have cX : ((E.extract 0 s.size).toList == s.toList) = false := by simpa using cX
                rw [cX, Bool.false_and] at t0
                go_wp2_with fail
                exact ⟨⟨HB, .inr (.inl ⟨rfl, t0⟩)⟩, by decide⟩
          · have cA : Pl.isCh A = false := by simpa using cA
            have t0 := tst_no s.data.toList n A cA
            go_wp2_with fail
            refine (is_any _ _).mono ?_
            rintro e w4 ⟨rfl, q4, rfl⟩
            rw [cA]
            replace HB := pw_below_drewN (HB.alloc HB.size (.cells #[.int .i64 A, .int .i64 B] 3)) q4
            go_wp2_with fail
            exact ⟨⟨HB, .inr (.inl ⟨rfl, t0⟩)⟩, by decide⟩
        · by_cases cA : Pl.isCh B = true
          · go_wp2_with fail
            refine (is_any _ _).mono ?_
            rintro e w4 ⟨rfl, q4, rfl⟩
            rw [cA]
            go_wp2_with fail
            refine (bytes_any _ cA _).mono ?_
            rintro e w5 ⟨rfl, B5⟩
            obtain ⟨E, hE⟩ : ∃ E, Utf8.encode (B : Int) = E := ⟨_, rfl⟩
            rw [hE]
            replace hE := Aside0.mk hE
            replace HB := below_then (pw_below_drewN (HB.alloc HB.size _) q4) (pw_below_drewN (HB.alloc HB.size _) q4).size B5
            clear B5
            go_wp2_with fail
            refine (bytes_any _ cA _).mono ?_
            rw [hE.out]
            rintro e w6 ⟨rfl, B6⟩
            replace HB := below_then HB HB.size B6
            clear B6
            by_cases cE : E.size < s.size
            · have cEz : (E.size : Int) < (s.size : Int) := by omega
              have cN := short_ne s E cE
              have t0 := tst_short s E n B hE.out cE
              go_wp2_with fail
              exact ⟨⟨HB, .inr (.inr ⟨rfl, tA, t0⟩)⟩, by decide⟩
            · have cEz : ¬ (E.size : Int) < (s.size : Int) := by omega
              have t0 := tst_eq s E n B cA hE.out cE
              by_cases cX : ((E.extract 0 s.size).toList == s.toList) = true
              · by_cases cn : ((E.size : Int) == (n : Int)) = true
                · rw [cX, cn] at t0
                  go_wp2_with fail
                  refine (bytes_any _ cA _).mono ?_
                  rw [hE.out]
                  rintro e w7 ⟨rfl, B7⟩
                  replace HB := below_then HB HB.size B7
                  clear B7
                  replace hA := hA.out
                  replace hB := hB.out
                  have hR : begR s.data.toList n = true := by rw [begR, hA, hB, t0]; simp
                  clear hA hB t0
                  go_wp2
                  go_ret
                  exact ⟨by rw [hR]; rfl, HB⟩
                · have cn : ((E.size : Int) == (n : Int)) = false := by simpa using cn
                  rw [cX, cn] at t0
                  go_wp2_with fail
                  refine (bytes_any _ cA _).mono ?_
                  rw [hE.out]
                  rintro e w7 ⟨rfl, B7⟩
                  replace HB := below_then HB HB.size B7
                  clear B7
                  go_wp2_with fail
                  exact ⟨⟨HB, .inr (.inr ⟨rfl, tA, t0⟩)⟩, by decide⟩
              · have cX : ((E.extract 0 s.size).toList == s.toList) = false := by simpa using cX
                rw [cX, Bool.false_and] at t0
                go_wp2_with fail
                exact ⟨⟨HB, .inr (.inr ⟨rfl, tA, t0⟩)⟩, by decide⟩
          · have cA : Pl.isCh B = false := by simpa using cA
            have t0 := tst_no s.data.toList n B cA
            go_wp2_with fail
            refine (is_any _ _).mono ?_
            rintro e w4 ⟨rfl, q4, rfl⟩
            rw [cA]
            replace HB := pw_below_drewN (HB.alloc HB.size (.cells #[.int .i64 A, .int .i64 B] 3)) q4
            go_wp2_with fail
            exact ⟨⟨HB, .inr (.inr ⟨rfl, tA, t0⟩)⟩, by decide⟩
        · rcases hn4 with rfl | rfl | rfl
          · have hch : Pl.isCh (128 : Int) = true := (least_ok 2 (by omega)).1
            have hsz : (Utf8.encode (128 : Int)).size = 2 := (least_ok 2 (by omega)).2
            obtain ⟨E, hE⟩ : ∃ E, Utf8.encode (128 : Int) = E := ⟨_, rfl⟩
            rw [hE] at hsz
            have hR := begR_last s E 2 A B hA.out hB.out tA tB hE
            rw [show ((least 2 : Nat) : Int) = 128 from rfl] at hR
            have hsE : ¬ (E.size : Int) < (s.size : Int) := by omega
            have hsE2 : (s.size : Int) ≤ (E.size : Int) := by omega
            replace hE := Aside0.mk hE
            clear hA hB tA tB hd hB0 hl hz0
            by_cases d1 : (A : Int) ≤ 128
            · have d1z : decide ((A : Int) ≤ 128) = true := decide_eq_true d1
              have d1g : decide ((128 : Int) ≥ (A : Int)) = true := decide_eq_true d1
              by_cases d2 : 128 ≤ (B : Int)
              · have d2z : decide (128 ≤ (B : Int)) = true := decide_eq_true d2
                by_cases cX : ((E.extract 0 s.size).toList == s.toList) = true
                · rw [d1z, d2z, cX] at hR
                  replace hR := Aside0.mk hR
                  go_wp2_with fail
                  refine (bytes_any _ hch _).mono ?_
                  rw [hE.out]
                  rintro e w7 ⟨rfl, B7⟩
                  go_wp2
                  go_ret
                  exact ⟨by rw [hR.out]; rfl, below_then (HB.alloc HB.size _) (HB.alloc HB.size _).size B7⟩
                · have cX : ((E.extract 0 s.size).toList == s.toList) = false := by simpa using cX
                  rw [d1z, d2z, cX] at hR
                  replace hR := Aside0.mk hR
                  go_wp2_with fail
                  refine (bytes_any _ hch _).mono ?_
                  rw [hE.out]
                  rintro e w7 ⟨rfl, B7⟩
                  go_wp2
                  go_ret
                  exact ⟨by rw [hR.out]; rfl, below_then (HB.alloc HB.size _) (HB.alloc HB.size _).size B7⟩
              · have d2z : decide (128 ≤ (B : Int)) = false := decide_eq_false d2
                rw [d1z, d2z] at hR
                replace hR := Aside0.mk hR
                go_wp2
                go_ret
                exact ⟨by rw [hR.out]; rfl, HB.alloc HB.size _⟩
            · have d1z : decide ((A : Int) ≤ 128) = false := decide_eq_false d1
              have d1g : decide ((128 : Int) ≥ (A : Int)) = false := decide_eq_false d1
              rw [d1z] at hR
              replace hR := Aside0.mk hR
              go_wp2
              go_ret
              exact ⟨by rw [hR.out]; rfl, HB.alloc HB.size _⟩
          · have hch : Pl.isCh (2048 : Int) = true := (least_ok 3 (by omega)).1
            have hsz : (Utf8.encode (2048 : Int)).size = 3 := (least_ok 3 (by omega)).2
            obtain ⟨E, hE⟩ : ∃ E, Utf8.encode (2048 : Int) = E := ⟨_, rfl⟩
            rw [hE] at hsz
            have hR := begR_last s E 3 A B hA.out hB.out tA tB hE
            rw [show ((least 3 : Nat) : Int) = 2048 from rfl] at hR
            have hsE : ¬ (E.size : Int) < (s.size : Int) := by omega
            have hsE2 : (s.size : Int) ≤ (E.size : Int) := by omega
            replace hE := Aside0.mk hE
            clear hA hB tA tB hd hB0 hl hz0
            by_cases d1 : (A : Int) ≤ 2048
            · have d1z : decide ((A : Int) ≤ 2048) = true := decide_eq_true d1
              have d1g : decide ((2048 : Int) ≥ (A : Int)) = true := decide_eq_true d1
              by_cases d2 : 2048 ≤ (B : Int)
              · have d2z : decide (2048 ≤ (B : Int)) = true := decide_eq_true d2
                by_cases cX : ((E.extract 0 s.size).toList == s.toList) = true
                · rw [d1z, d2z, cX] at hR
                  replace hR := Aside0.mk hR
                  go_wp2_with fail
                  refine (bytes_any _ hch _).mono ?_
                  rw [hE.out]
                  rintro e w7 ⟨rfl, B7⟩
                  go_wp2
                  go_ret
                  exact ⟨by rw [hR.out]; rfl, below_then (HB.alloc HB.size _) (HB.alloc HB.size _).size B7⟩
                · have cX : ((E.extract 0 s.size).toList == s.toList) = false := by simpa using cX
                  rw [d1z, d2z, cX] at hR
                  replace hR := Aside0.mk hR
                  go_wp2_with fail
                  refine (bytes_any _ hch _).mono ?_
                  rw [hE.out]
                  rintro e w7 ⟨rfl, B7⟩
                  go_wp2
                  go_ret
                  exact ⟨by rw [hR.out]; rfl, below_then (HB.alloc HB.size _) (HB.alloc HB.size _).size B7⟩
              · have d2z : decide (2048 ≤ (B : Int)) = false := decide_eq_false d2
                rw [d1z, d2z] at hR
                replace hR := Aside0.mk hR
                go_wp2
                go_ret
                exact ⟨by rw [hR.out]; rfl, HB.alloc HB.size _⟩
            · have d1z : decide ((A : Int) ≤ 2048) = false := decide_eq_false d1
              have d1g : decide ((2048 : Int) ≥ (A : Int)) = false := decide_eq_false d1
              rw [d1z] at hR
              replace hR := Aside0.mk hR
              go_wp2
              go_ret
              exact ⟨by rw [hR.out]; rfl, HB.alloc HB.size _⟩
          · have hch : Pl.isCh (65536 : Int) = true := (least_ok 4 (by omega)).1
            have hsz : (Utf8.encode (65536 : Int)).size = 4 := (least_ok 4 (by omega)).2
            obtain ⟨E, hE⟩ : ∃ E, Utf8.encode (65536 : Int) = E := ⟨_, rfl⟩
            rw [hE] at hsz
            have hR := begR_last s E 4 A B hA.out hB.out tA tB hE
            rw [show ((least 4 : Nat) : Int) = 65536 from rfl] at hR
            have hsE : ¬ (E.size : Int) < (s.size : Int) := by omega
            have hsE2 : (s.size : Int) ≤ (E.size : Int) := by omega
            replace hE := Aside0.mk hE
            clear hA hB tA tB hd hB0 hl hz0
            by_cases d1 : (A : Int) ≤ 65536
            · have d1z : decide ((A : Int) ≤ 65536) = true := decide_eq_true d1
              have d1g : decide ((65536 : Int) ≥ (A : Int)) = true := decide_eq_true d1
              by_cases d2 : 65536 ≤ (B : Int)
              · have d2z : decide (65536 ≤ (B : Int)) = true := decide_eq_true d2
                by_cases cX : ((E.extract 0 s.size).toList == s.toList) = true
                · rw [d1z, d2z, cX] at hR
                  replace hR := Aside0.mk hR
                  go_wp2_with fail
                  refine (bytes_any _ hch _).mono ?_
                  rw [hE.out]
                  rintro e w7 ⟨rfl, B7⟩
                  go_wp2
                  go_ret
                  exact ⟨by rw [hR.out]; rfl, below_then (HB.alloc HB.size _) (HB.alloc HB.size _).size B7⟩
                · have cX : ((E.extract 0 s.size).toList == s.toList) = false := by simpa using cX
                  rw [d1z, d2z, cX] at hR
                  replace hR := Aside0.mk hR
                  go_wp2_with fail
                  refine (bytes_any _ hch _).mono ?_
                  rw [hE.out]
                  rintro e w7 ⟨rfl, B7⟩
                  go_wp2
                  go_ret
                  exact ⟨by rw [hR.out]; rfl, below_then (HB.alloc HB.size _) (HB.alloc HB.size _).size B7⟩
              · have d2z : decide (65536 ≤ (B : Int)) = false := decide_eq_false d2
                rw [d1z, d2z] at hR
                replace hR := Aside0.mk hR
                go_wp2
                go_ret
                exact ⟨by rw [hR.out]; rfl, HB.alloc HB.size _⟩
            · have d1z : decide ((A : Int) ≤ 65536) = false := decide_eq_false d1
              have d1g : decide ((65536 : Int) ≥ (A : Int)) = false := decide_eq_false d1
              rw [d1z] at hR
              replace hR := Aside0.mk hR
              go_wp2
              go_ret
              exact ⟨by rw [hR.out]; rfl, HB.alloc HB.size _⟩
end Go.Proofs.YtimfabbielphbaaDoor
