/- The reference's Decode. -/
import Derived.Test.YtimfabbielphbaaDoorWe
import Derived.Test.YtimfabbielphbaaDoorWc
namespace Go.Proofs.YtimfabbielphbaaDoor
open Go.RowKit Go.Lib Go.Proofs.YtimfabbielphbaaDoorW.PrintWords Go.Proofs.YtimfabbielphbaaDoorW.PrintMore
set_option linter.unusedVariables false
set_option linter.unusedSimpArgs false

/-- What the reference finds at a text's beginning. -/
def refL (l : List UInt8) : Nat × Nat × Nat :=
  if longN (Pl.nat l 0) ≤ l.length then
    if longN (Pl.nat l 0) ≠ 0 ∧ Pl.isCh (numL l (longN (Pl.nat l 0))) = true ∧ encL (numL l (longN (Pl.nat l 0))) = l.take (longN (Pl.nat l 0)) then (numL l (longN (Pl.nat l 0)), longN (Pl.nat l 0), 0) else (0, 0, 30)
  else if begR l (longN (Pl.nat l 0)) = true then (0, 0, 31) else (0, 0, 30)
def refA (l : List UInt8) (p : Int) : Nat × Nat × Nat := if p < 0 ∨ (l.length : Int) ≤ p then (0, 0, 1) else refL (l.drop p.toNat)

theorem drawn_then (w : World) (k : Nat) {w2 : World} (h : Below (w.drewN k).heap.size (w.drewN k) w2) : Below w.heap.size w w2 :=
  below_then (pw_below_drewN (Below.refl w.heap.size w) k) (pw_below_drewN (Below.refl w.heap.size w) k).size h

set_option maxHeartbeats 4000000 in
set_option maxRecDepth 1000000 in
theorem refDecode_any (s : ByteArray) (p : Int) (w : World) :
    Calls Tryd.prog 17 #[.string s, .int .i64 p] w fun e w' => e = .returned (trip (refA s.data.toList p)) ∧ Below w.heap.size w w' := by
  have hl : s.data.toList.length = s.size := Array.length_toList
  by_cases c1 : p < 0
  · rw [show refA s.data.toList p = (0, 0, 1) by unfold refA; rw [if_pos (.inl c1)]]
    go_enter Tryd.func17, Tryd.ntmps17
    go_wp2
    go_ret3
    exact ⟨rfl, Below.refl _ _⟩
  have c1' : ¬ p < 0 := c1
  by_cases c2 : (s.size : Int) ≤ p
  · rw [show refA s.data.toList p = (0, 0, 1) by unfold refA; rw [if_pos (.inr (by omega))]]
    have c2' : p ≥ (s.size : Int) := c2
    go_enter Tryd.func17, Tryd.ntmps17
    go_wp2
    go_ret3
    exact ⟨rfl, Below.refl _ _⟩
  have c2' : ¬ p ≥ (s.size : Int) := c2
  rw [show refA s.data.toList p = refL (s.data.toList.drop p.toNat) by unfold refA; rw [if_neg (by omega)]]
  obtain ⟨k, rfl⟩ : ∃ k : Nat, p = k := ⟨p.toNat, by omega⟩
  simp only [Int.toNat_natCast]
  obtain ⟨t, ht⟩ : ∃ t, s.extract k s.size = t := ⟨_, rfl⟩
  have hts : t.size = s.size - k := by rw [← ht, Lib.ext_size]
  have htl : s.data.toList.drop k = t.data.toList := by rw [← ht, Lib.ext_list]
  rw [htl]
  have hlt : t.data.toList.length = t.size := Array.length_toList
  have htp : 0 < t.size := by omega
  have htz : (0 : Int) < (t.size : Int) := by omega
  obtain ⟨b, hb⟩ : ∃ b, Pl.nat t.data.toList 0 = b := ⟨_, rfl⟩
  have hs0 : (t[0]'htp).toNat = b := by
    rw [← hb, Pl.nat, getD_get!']; exact congrArg _ (Utf8W.get!_of_lt t 0 (by omega)).symm
  obtain ⟨n, hn⟩ : ∃ n, longN b = n := ⟨_, rfl⟩
  have hn4 : n ≤ 4 := by have := longN_cases b; omega
  have hR : refL t.data.toList = (if n ≤ t.size then (if n ≠ 0 ∧ Pl.isCh (numL t.data.toList n) = true ∧ encL (numL t.data.toList n) = t.data.toList.take n then (numL t.data.toList n, n, 0) else (0, 0, 30)) else if begR t.data.toList n = true then (0, 0, 31) else (0, 0, 30)) := by
    unfold refL; rw [hb, hn, hlt]
  replace hb := Aside0.mk hb
  replace hn := Aside0.mk hn
  replace htl := Aside0.mk htl
  by_cases c3 : n ≤ t.size
  · rw [if_pos c3] at hR
    have g1 : decide ((n : Int) > (t.size : Int)) = false := decide_eq_false (by omega)
    have g2 : decide ((t.size : Int) ≥ (n : Int)) = true := decide_eq_true (by omega)
    by_cases c4 : n = 0
    · rw [if_neg (fun c => c.1 c4)] at hR
      subst c4
      replace hR := Aside0.mk hR
      go_enter Tryd.func17, Tryd.ntmps17
      go_wp2_with fail
      refine (long_any _ _).mono ?_
      rintro e w1 ⟨rfl, q1, rfl⟩
      rw [hn.out]
      go_wp2
      go_ret3
      exact ⟨by rw [hR.out]; rfl, pw_below_drewN (Below.refl _ _) _⟩
    · have g3 : decide ((n : Int) > 0) = true := decide_eq_true (by omega)
      obtain ⟨r, hr⟩ : ∃ r, numL t.data.toList n = r := ⟨_, rfl⟩
      rw [hr] at hR
      by_cases c5 : Pl.isCh r = true
      · obtain ⟨E, hE⟩ : ∃ E, Utf8.encode r = E := ⟨_, rfl⟩
        have hEq : encL r = t.data.toList.take n ↔ (E.toList == (t.extract 0 n).toList) = true := by
          rw [encL, hE, ByteArray.toList_eq, ByteArray.toList_eq, ext_take, beq_iff_eq]
        replace hr := Aside0.mk hr
        replace hE := Aside0.mk hE
        by_cases c6 : (E.toList == (t.extract 0 n).toList) = true
        · rw [if_pos ⟨c4, c5, hEq.2 c6⟩] at hR
          clear hEq
          replace hR := Aside0.mk hR
          go_enter Tryd.func17, Tryd.ntmps17
          go_wp2_with fail
          refine (long_any _ _).mono ?_
          rintro e w1 ⟨rfl, q1, rfl⟩
          rw [hn.out]
          go_wp2_with fail
          refine (number_any t n (by omega) hn4 c3 _).mono ?_
          rintro e w2 ⟨rfl, q2, rfl⟩
          rw [hr.out]
          go_wp2_with fail
          go_region_with (first | (go_at_call 24; refine (is_any _ _).mono ?_; rintro e w3 ⟨rfl, q3, rfl⟩; rw [c5]) | (go_at_call 25; refine (bytes_any _ c5 _).mono ?_; rw [hE.out]; rintro e w4 ⟨rfl, B4⟩))
          all_goals go_wp2
          all_goals go_ret3
          all_goals exact ⟨by rw [hR.out]; rfl, by first | exact drawn_then w _ B4 | exact pw_below_drewN (drawn_then w _ B4) _⟩
        · have c6' : (E.toList == (t.extract 0 n).toList) = false := by simpa using c6
          rw [if_neg (fun c => c6 (hEq.1 c.2.2))] at hR
          clear hEq
          replace hR := Aside0.mk hR
          go_enter Tryd.func17, Tryd.ntmps17
          go_wp2_with fail
          refine (long_any _ _).mono ?_
          rintro e w1 ⟨rfl, q1, rfl⟩
          rw [hn.out]
          go_wp2_with fail
          refine (number_any t n (by omega) hn4 c3 _).mono ?_
          rintro e w2 ⟨rfl, q2, rfl⟩
          rw [hr.out]
          go_wp2_with fail
          go_region_with (first | (go_at_call 24; refine (is_any _ _).mono ?_; rintro e w3 ⟨rfl, q3, rfl⟩; rw [c5]) | (go_at_call 25; refine (bytes_any _ c5 _).mono ?_; rw [hE.out]; rintro e w4 ⟨rfl, B4⟩))
          all_goals go_wp2
          all_goals go_ret3
          all_goals exact ⟨by rw [hR.out]; rfl, by first | exact drawn_then w _ B4 | exact pw_below_drewN (drawn_then w _ B4) _⟩
      · have c5' : Pl.isCh r = false := by simpa using c5
        rw [if_neg (fun c => c5 c.2.1)] at hR
        replace hr := Aside0.mk hr
        replace hR := Aside0.mk hR
        go_enter Tryd.func17, Tryd.ntmps17
        go_wp2_with fail
        refine (long_any _ _).mono ?_
        rintro e w1 ⟨rfl, q1, rfl⟩
        rw [hn.out]
        go_wp2_with fail
        refine (number_any t n (by omega) hn4 c3 _).mono ?_
        rintro e w2 ⟨rfl, q2, rfl⟩
        rw [hr.out]
        go_wp2_with fail
        have HB : Below w.heap.size w (w.drewN (q1 + q2)) := pw_below_drewN (Below.refl _ _) _
        generalize w.drewN (q1 + q2) = W1 at *
        have HT : ∀ q, Calls Tryd.prog 24 #[.int .i64 r] (W1.drewN q) fun e w' => e = .returned (.bool false) ∧ ∃ k, w' = (W1.drewN q).drewN k := fun q => by
          have := is_any r (W1.drewN q)
          rw [c5'] at this; exact this
        go_quiet ((go_at_call 24; exact Calls.quiet_of (HT _)))
        go_wp2
        go_ret3
        exact ⟨by rw [hR.out]; rfl, pw_below_drewN HB _⟩
  · rw [if_neg c3] at hR
    have g1 : decide ((n : Int) > (t.size : Int)) = true := decide_eq_true (by omega)
    have g2 : decide ((t.size : Int) ≥ (n : Int)) = false := decide_eq_false (by omega)
    have g3 : decide ((n : Int) > 0) = true := decide_eq_true (by omega)
    have hbe : longN (Pl.nat t.data.toList 0) = n := by rw [hb.out, hn.out]
    have hc := fun w => begins_any t n w htp hbe (by omega)
    replace hbe := Aside0.mk hbe
    obtain ⟨B, hB⟩ : ∃ B, begR t.data.toList n = B := ⟨_, rfl⟩
    rw [hB] at hR hc
    replace hc := Aside0.mk hc
    cases B
    all_goals
      replace hB := Aside0.mk hB
      replace hR := Aside0.mk hR
      go_enter Tryd.func17, Tryd.ntmps17
      go_wp2_with fail
      refine (long_any _ _).mono ?_
      rintro e w1 ⟨rfl, q1, rfl⟩
      rw [hn.out]
      go_wp2_with fail
      refine (hc.out _).mono ?_
      rintro e w2 ⟨rfl, B2⟩
      go_wp2
      go_ret3
      exact ⟨by rw [hR.out]; rfl, drawn_then w _ B2⟩
end Go.Proofs.YtimfabbielphbaaDoor
