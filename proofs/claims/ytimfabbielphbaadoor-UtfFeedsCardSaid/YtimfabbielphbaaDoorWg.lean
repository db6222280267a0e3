/- The reference's Count and Encode. -/
import Derived.Test.YtimfabbielphbaaDoorPe
namespace Go.Proofs.YtimfabbielphbaaDoor
open Go.RowKit Go.Lib Go.Proofs.YtimfabbielphbaaDoorW.PrintWords Go.Proofs.YtimfabbielphbaaDoorW.PrintMore
set_option linter.unusedVariables false
set_option linter.unusedSimpArgs false

theorem refA_eq (l : List UInt8) (p : Int) : refA l p = dcL l p := by
  unfold refA dcL
  by_cases c : p < 0 ∨ (l.length : Int) ≤ p
  · rw [if_pos c, if_pos c]
  · rw [if_neg c, if_neg c, refL_eq]
    intro h
    have := congrArg List.length h
    simp at this; omega

theorem refDecode (s : ByteArray) (p : Int) (w : World) :
    Calls Tryd.prog 17 #[.string s, .int .i64 p] w fun e w' => e = .returned (trip (dcL s.data.toList p)) ∧ Below w.heap.size w w' := by
  rw [← refA_eq]; exact refDecode_any s p w

set_option maxHeartbeats 1000000 in
set_option maxRecDepth 1000000 in
theorem refEncode_any (r : Int) (w : World) :
    Calls Tryd.prog 15 #[.int .i64 r] w fun e w' => e = .returned (if Pl.isCh r then .tuple #[.string (Utf8.encode r), .int .i64 0] else .tuple #[.string ⟨#[]⟩, .int .i64 1]) ∧ Below w.heap.size w w' := by
  by_cases hc : Pl.isCh r = true
  · rw [hc]
    go_enter Tryd.func15, Tryd.ntmps15
    go_wp2_with fail
    refine (is_any _ _).mono ?_
    rintro e w1 ⟨rfl, q, rfl⟩
    rw [hc]
    go_wp2_with fail
    refine (bytes_any _ hc _).mono ?_
    rintro e w2 ⟨rfl, B⟩
    go_wp2
    go_ret2
    exact ⟨rfl, drawn_then w _ B⟩
  · have hc' : Pl.isCh r = false := by simpa using hc
    rw [hc']
    go_enter Tryd.func15, Tryd.ntmps15
    go_wp2_with fail
    refine (is_any _ _).mono ?_
    rintro e w1 ⟨rfl, q, rfl⟩
    rw [hc']
    go_wp2
    go_ret2
    exact ⟨rfl, pw_below_drewN (Below.refl _ _) _⟩

/-- What the reference counts. -/
theorem cnt_at (l : List UInt8) (p : Nat) (h : p < l.length) : dcL l p = Pl.stL (l.drop p) := by
  unfold dcL; rw [if_neg (by omega), Int.toNat_natCast]

set_option maxHeartbeats 1000000 in
set_option maxRecDepth 1000000 in
theorem refCount_any (s : ByteArray) (w : World) (hs : s.size ≤ 1000000000) :
    Calls Tryd.prog 11 #[.string s] w fun e w' => e = .returned (.tuple #[.int .i64 (Pl.cnt s.data.toList).1, .int .i64 (Pl.cnt s.data.toList).2]) ∧ Below w.heap.size w w' := by
  have hl : s.data.toList.length = s.size := Array.length_toList
  obtain ⟨C, hC⟩ : ∃ C, Pl.cnt s.data.toList = C := ⟨_, rfl⟩
  rw [hC]
  replace hC := Aside0.mk hC
  go_enter Tryd.func11, Tryd.ntmps11
  go_wp2_with fail
  go_loopw [4, 5] (fun n a w' => ∃ (k p : Nat), Below w.heap.size w w' ∧ n = .int .i64 k ∧ a = .int .i64 p ∧ k ≤ p ∧ p ≤ s.size ∧ Aside0 (C = if (Pl.cnt (s.data.toList.drop p)).2 = 0 then (k + (Pl.cnt (s.data.toList.drop p)).1, 0) else (0, (Pl.cnt (s.data.toList.drop p)).2))) (fun n a _ => s.size - (RowKit.intOf a).toNat)
  case atStart =>
    refine ⟨0, 0, Below.refl _ _, rfl, rfl, by omega, by omega, ⟨?_⟩⟩
    rw [← hC.out, List.drop_zero]
    by_cases h : (Pl.cnt s.data.toList).2 = 0
    · rw [if_pos h]; exact Prod.ext (by simp) h
    · rw [if_neg h]; exact Prod.ext (Pl.cnt_zero _ h) rfl
  case round =>
    obtain ⟨k, p, HB, rfl, rfl, hkp, hps, HC⟩ := hrel
    by_cases hp : p < s.size
    · have hd : decide ((p : Int) < (s.size : Int)) = true := decide_eq_true (by omega)
      have hne : s.data.toList.drop p ≠ [] := by intro h; have := congrArg List.length h; simp at this; omega
      have hdc : dcL s.data.toList p = Pl.stL (s.data.toList.drop p) := cnt_at _ _ (by omega)
      obtain ⟨D, hD⟩ : ∃ D, Pl.stL (s.data.toList.drop p) = D := ⟨_, rfl⟩
      rw [hD] at hdc
      replace hdc := Aside0.mk hdc
      by_cases he : D.2.2 = 0
      · have hew : Pl.erL (s.data.toList.drop p) = 0 := by unfold Pl.erL; rw [hD]; exact he
        have hwl : Pl.wdL (s.data.toList.drop p) = D.2.1 := by unfold Pl.wdL; rw [hD]
        have hw := Pl.wdL_pos _ hne hew
        have hg := Pl.cnt_good _ hne hew
        have hg2 := Pl.cnt_good2 _ hne hew
        rw [hwl, List.drop_drop] at hg hg2
        rw [hwl, List.length_drop, hl] at hw
        have hez : ((D.2.2 : Int) != 0) = false := bne_eq_false_iff_eq.2 (by omega)
        have hez' : ((D.2.2 : Int) == 0) = true := beq_iff_eq.2 (by omega)
        have hx1 : IntKind.i64.wrap ((p : Int) + (D.2.1 : Int)) = ((p + D.2.1 : Nat) : Int) := by rw [← Int.natCast_add]; exact IntWalk.i64_in _ (by omega)
        have hx2 : IntKind.i64.wrap ((k : Int) + 1) = ((k + 1 : Nat) : Int) := by rw [Int.natCast_add]; exact IntWalk.i64_in _ (by omega)
        have HC' : C = if (Pl.cnt (s.data.toList.drop (p + D.2.1))).2 = 0 then (k + 1 + (Pl.cnt (s.data.toList.drop (p + D.2.1))).1, 0) else (0, (Pl.cnt (s.data.toList.drop (p + D.2.1))).2) := by
          rw [HC.out, hg2]
          by_cases z : (Pl.cnt (s.data.toList.drop (p + D.2.1))).2 = 0
          · rw [if_pos z, if_pos z, hg, if_pos z]; simp only [Prod.mk.injEq, and_true]; omega
          · rw [if_neg z, if_neg z]
        replace HC' := Aside0.mk HC'
        clear hg hg2 HC hew hwl
        replace hD := Aside0.mk hD
        replace hx1 := Aside0.mk hx1
        go_wp2_with fail
        refine (refDecode _ _ _).mono ?_
        rw [hdc.out]
        rintro e w1 ⟨rfl, B1⟩
        replace HB := below_then HB HB.size B1
        replace hx1 := hx1.out
        unfold trip
        go_wp2
        go_roundw
        case rel => exact ⟨k + 1, p + D.2.1, HB, by go_num, by go_num, by omega, by omega, HC'⟩
        case measure => simp [RowKit.intOf]; omega
      · have hew : Pl.erL (s.data.toList.drop p) ≠ 0 := by unfold Pl.erL; rw [hD]; exact he
        have hb := Pl.cnt_bad _ hne hew
        have hee : Pl.erL (s.data.toList.drop p) = D.2.2 := by unfold Pl.erL; rw [hD]
        have HC' : C = (0, D.2.2) := by
          rw [HC.out, hb, hee, if_neg he]
        have hez : ((D.2.2 : Int) != 0) = true := bne_iff_ne.2 (by omega)
        replace HC' := Aside0.mk HC'
        clear HC hb hee hew
        replace hD := Aside0.mk hD
        go_wp2_with fail
        refine (refDecode _ _ _).mono ?_
        rw [hdc.out]
        rintro e w1 ⟨rfl, B1⟩
        replace HB := below_then HB HB.size B1
        unfold trip
        go_wp2
        go_ret2
        exact ⟨by rw [HC'.out]; rfl, HB⟩
    · have hd : decide ((p : Int) < (s.size : Int)) = false := decide_eq_false (by omega)
      have HC' : C = (k, 0) := by
        rw [HC.out, List.drop_of_length_le (by omega)]; rfl
      replace HC' := Aside0.mk HC'
      clear HC
      go_wp2
      go_ret2
      exact ⟨by rw [HC'.out]; rfl, HB⟩
end Go.Proofs.YtimfabbielphbaaDoor
