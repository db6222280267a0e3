/- utf.Decode. -/
import Derived.Test.YtimfabbielphbaaDoorWa
import Derived.Test.YtimfabbielphbaaDoorWb
namespace Go.Proofs.YtimfabbielphbaaDoor
open Go.RowKit Go.Lib Go.Proofs.YtimfabbielphbaaDoorW.PrintWords Go.Proofs.YtimfabbielphbaaDoorW.PrintMore
set_option linter.unusedVariables false
set_option linter.unusedSimpArgs false

/-- What Decode answers. -/
def dcL (l : List UInt8) (p : Int) : Nat × Nat × Nat := if p < 0 ∨ (l.length : Int) ≤ p then (0, 0, 1) else Pl.stL (l.drop p.toNat)
def trip (x : Nat × Nat × Nat) : Value := .tuple #[.int .i64 x.1, .int .i64 x.2.1, .int .i64 x.2.2]

theorem ext_nat (s : ByteArray) (k i : Nat) : ((s.extract k s.size).get! i).toNat = Pl.nat (s.data.toList.drop k) i := by
  rw [Pl.nat, ← Lib.ext_list, getD_get!']

set_option maxHeartbeats 4000000 in
set_option maxRecDepth 1000000 in
theorem decode_any (s : ByteArray) (p : Int) (w : World) (hT : Lib.Utf8Tabs 0 1 w) (hs : s.size ≤ 9223372036854775806) :
    Calls Tryd.prog 16 #[.string s, .int .i64 p] w fun e w' => e = .returned (trip (dcL s.data.toList p)) ∧ Below w.heap.size w w' := by
  have hl : s.data.toList.length = s.size := Array.length_toList
  by_cases c1 : p < 0
  · rw [show dcL s.data.toList p = (0, 0, 1) by unfold dcL; rw [if_pos (.inl c1)]]
    go_enter Tryd.func16, Tryd.ntmps16
    go_wp2
    go_ret3
    exact ⟨rfl, Below.refl _ _⟩
  have c1' : ¬ p < 0 := c1
  by_cases c2 : (s.size : Int) ≤ p
  · rw [show dcL s.data.toList p = (0, 0, 1) by unfold dcL; rw [if_pos (.inr (by omega))]]
    have c2' : p ≥ (s.size : Int) := c2
    go_enter Tryd.func16, Tryd.ntmps16
    go_wp2
    go_ret3
    exact ⟨rfl, Below.refl _ _⟩
  have c2' : ¬ p ≥ (s.size : Int) := c2
  rw [show dcL s.data.toList p = Pl.stL (s.data.toList.drop p.toNat) by unfold dcL; rw [if_neg (by omega)]]
  obtain ⟨k, rfl⟩ : ∃ k : Nat, p = k := ⟨p.toNat, by omega⟩
  simp only [Int.toNat_natCast]
  obtain ⟨t, ht⟩ : ∃ t, s.extract k s.size = t := ⟨_, rfl⟩
  have hts : t.size = s.size - k := by rw [← ht, Lib.ext_size]
  have htl : t.data.toList = s.data.toList.drop k := by rw [← ht, Lib.ext_list]
  have hne : s.data.toList.drop k ≠ [] := by intro h; have := congrArg List.length h; simp at this; omega
  have hdec : Lib.decodeGo t = Lib.decodeL (s.data.toList.drop k) := by
    unfold Lib.decodeGo; rw [if_neg (by omega), ← htl, ← List.drop_zero (l := t.data.toList), decodeL_drop]
  have hbeg : Pl.begF t.size (t.get! 0).toNat (t.get! 1).toNat (t.get! 2).toNat = Pl.begF (s.data.toList.drop k).length (Pl.nat (s.data.toList.drop k) 0) (Pl.nat (s.data.toList.drop k) 1) (Pl.nat (s.data.toList.drop k) 2) := by
    rw [← ht, ext_nat, ext_nat, ext_nat, ht, hts, List.length_drop, hl]
  obtain ⟨D, hD⟩ : ∃ D, Lib.decodeL (s.data.toList.drop k) = D := ⟨_, rfl⟩
  have hbad := Pl.dec_bad _ hne
  rw [hD] at hbad
  by_cases he : Pl.erL (s.data.toList.drop k) = 0
  · have hst := Pl.dec_good _ hne he
    rw [hD] at hst
    rw [hst]
    have hnb : ¬(D.1 = 65533 ∧ D.2 = 1) := fun c => hbad.1 c he
    have hr : D.1 ≤ 1114111 := by rw [← hD]; exact decodeL_rune _
    by_cases e1 : D.1 = 65533
    · have e2 : ¬ D.2 = 1 := fun c => hnb ⟨e1, c⟩
      have e1z : ((D.1 : Int) == 65533) = true := beq_iff_eq.2 (by omega)
      have e2z : ((D.2 : Int) == 1) = false := beq_eq_false_iff_ne.2 (by omega)
      go_enter Tryd.func16, Tryd.ntmps16
      go_wp2_with (refine (Tryd.utf8_DecodeRuneInString _ _ hT).mono ?_; rw [hdec, hD]; rintro e w1 ⟨rfl, B1⟩)
      go_ret3
      refine ⟨?_, B1⟩
      rw [e1]; rfl
    · have e1z : ((D.1 : Int) == 65533) = false := beq_eq_false_iff_ne.2 (by omega)
      go_enter Tryd.func16, Tryd.ntmps16
      go_wp2_with (refine (Tryd.utf8_DecodeRuneInString _ _ hT).mono ?_; rw [hdec, hD]; rintro e w1 ⟨rfl, B1⟩)
      go_ret3
      exact ⟨rfl, B1⟩
  · have hst := Pl.dec_wrong _ hne he
    rw [hst, ← hbeg]
    obtain ⟨b1, b2⟩ := hbad.2 he
    have e1z : ((D.1 : Int) == 65533) = true := beq_iff_eq.2 (by omega)
    have e2z : ((D.2 : Int) == 1) = true := beq_iff_eq.2 (by omega)
    obtain ⟨b, hb⟩ : ∃ b, Pl.begF t.size (t.get! 0).toNat (t.get! 1).toNat (t.get! 2).toNat = b := ⟨_, rfl⟩
    have hF := fun (w : World) (hT : Lib.Utf8Tabs 0 1 w) => full_any t w hT (by omega)
    rw [hb] at hF ⊢
    clear hbeg hb
    cases b
    · go_enter Tryd.func16, Tryd.ntmps16
      go_wp2_with (first | (go_at_call 26; refine (Tryd.utf8_DecodeRuneInString _ _ hT).mono ?_; rw [hdec, hD]; rintro e w1 ⟨rfl, B1⟩) | (go_at_call 27; refine (hF _ (Utf8Tabs_below hT B1)).mono ?_; rintro e w2 ⟨rfl, B2⟩))
      go_ret3
      exact ⟨rfl, below_then B1 B1.size B2⟩
    · go_enter Tryd.func16, Tryd.ntmps16
      go_wp2_with (first | (go_at_call 26; refine (Tryd.utf8_DecodeRuneInString _ _ hT).mono ?_; rw [hdec, hD]; rintro e w1 ⟨rfl, B1⟩) | (go_at_call 27; refine (hF _ (Utf8Tabs_below hT B1)).mono ?_; rintro e w2 ⟨rfl, B2⟩))
      go_ret3
      exact ⟨rfl, below_then B1 B1.size B2⟩
end Go.Proofs.YtimfabbielphbaaDoor
