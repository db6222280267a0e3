/- The reference: Unhex. -/
import Derived.Test.YtocmmdheegkbaaaDoorRh
namespace Go.Proofs.YtocmmdheegkbaaaDoor
open Go.RowKit Go.Proofs.YtocmmdheegkbaaaDoorW.PrintWords Go.Proofs.YtocmmdheegkbaaaDoorW.PrintMore
set_option linter.unusedVariables false
set_option linter.unusedSimpArgs false
def lvs : Nat → List UInt8 → Option Nat
  | acc, [] => some acc
  | acc, c :: cs => match lv c with | none => none | some d => lvs (16 * acc + d) cs
def ru (s : ByteArray) : Nat × Nat := if s.size = 16 then (match lvs 0 s.data.toList with | some n => (n, 0) | none => (0, 20)) else (0, 20)
theorem lv_lt (c : UInt8) (d : Nat) (h : lv c = some d) : d < 16 := by
  unfold lv at h
  split at h
  · injection h; omega
  · split at h
    · injection h; omega
    · cases h
set_option maxHeartbeats 2000000 in
set_option maxRecDepth 100000 in
theorem refUnhex_any (s : ByteArray) (w : World) :
    Calls Tryd.prog 19 #[.string s] w fun e w' => e = .returned (.tuple #[.int .u64 ((ru s).1 : Int), .int .i64 ((ru s).2 : Int)]) ∧ Drawn0 w w' := by
  obtain ⟨R, hR⟩ : ∃ R, ru s = R := ⟨_, rfl⟩
  rw [hR]
  unfold ru at hR
  by_cases h16 : s.size = 16
  · rw [if_pos h16] at hR
    go_enter Tryd.func19, Tryd.ntmps19
    go_wp2_with fail
    have hH := Lib.hid hR
    clear hR
    obtain ⟨bs, hL⟩ : ∃ bs, bs = s.data.toList := ⟨_, rfl⟩
    have hLn : bs.length = 16 := by rw [hL, ← Lib.size_eq]; exact h16
    go_loopw [4, 5, 6] (fun v4 v5 v6 w' => ∃ (i b : Nat), v4 = .int .u64 b ∧ v5 = .int .i64 i ∧ i ≤ 16 ∧ b < 16 ^ i ∧ Hid (lvs 0 bs = lvs b (bs.drop i)) ∧ Drawn0 w w') (fun _ v5 _ _ => 16 - (intOf v5).toNat)
    case atStart => exact ⟨0, 0, rfl, rfl, by omega, by decide, rfl, by repeat (first | exact Drawn0.refl _ | apply Drawn0.step)⟩
    case round =>
      obtain ⟨i, b, rfl, rfl, hi, hb, hd, ⟨m1, rfl⟩⟩ := hrel
      by_cases c : i < 16
      · have hlt : decide ((i : Int) < 16) = true := decide_eq_true (by omega)
        go_wp2_with fail
        obtain ⟨ch, hch⟩ : ∃ ch, s[i]'(by omega) = ch := ⟨_, rfl⟩
        have hbi : bs[i]'(by omega) = ch := by subst hL; exact hch
        rw [hch]
        have hdr : bs.drop i = ch :: bs.drop (i + 1) := by rw [← hbi]; exact List.drop_eq_getElem_cons (by omega)
        have hd' := hd.out
        rw [hdr, lvs] at hd'
        refine (Digit_any _ _).mono ?_
        rintro e w1 ⟨rfl, rfl⟩
        unfold lvI
        cases hv : lv ch with
        | none =>
          rw [hv] at hd'
          have hR := hH.out
          rw [← hL, hd'] at hR
          simp only [] at hR
          subst hR
          clear hd' hd hdr hbi hch hL hLn
          go_wp2_with fail
          go_ret2
          exact ⟨rfl, by repeat (first | exact Drawn0.refl _ | apply Drawn0.step)⟩
        | some d =>
          rw [hv] at hd'
          have hd16 := lv_lt ch d hv
          have hpow : 16 ^ (i + 1) ≤ 16 ^ 16 := Nat.pow_le_pow_right (by decide) (by omega)
          have hbl : 16 * b + d < 16 ^ (i + 1) := by rw [Nat.pow_succ]; omega
          have hbl2 : 16 * b + d < 18446744073709551616 := Nat.lt_of_lt_of_le hbl hpow
          have hw0 : IntKind.u64.wrap (d : Int) = (d : Int) := by rw [IntKind.wrap_u64]; omega
          have hw1 : IntKind.u64.wrap (16 * (b : Int)) = ((16 * b : Nat) : Int) := by rw [IntKind.wrap_u64]; omega
          have hw2 : IntKind.u64.wrap (((16 * b : Nat) : Int) + (d : Int)) = ((16 * b + d : Nat) : Int) := by rw [IntKind.wrap_u64]; omega
          have hN : Hid (16 * b + d < 16 ^ (i + 1) ∧ lvs 0 bs = lvs (16 * b + d) (bs.drop (i + 1))) := Lib.hid ⟨hbl, hd'⟩
          clear hpow hbl hd' hd hdr hbi hch hb
          go_wp2_with fail
          go_roundw
          case rel => exact ⟨i + 1, 16 * b + d, rfl, rfl, by omega, hN.out.1, hN.out.2, by repeat (first | exact Drawn0.refl _ | apply Drawn0.step)⟩
          case measure => simp [intOf]; omega
      · have hi16 : i = 16 := by omega
        subst hi16
        have hd' := hd.out
        rw [List.drop_of_length_le (by omega), lvs] at hd'
        have hR := hH.out
        rw [← hL, hd'] at hR
        simp only [] at hR
        subst hR
        clear hd' hd hL hLn
        go_wp2_with fail
        go_ret2
        exact ⟨rfl, by repeat (first | exact Drawn0.refl _ | apply Drawn0.step)⟩
  · rw [if_neg h16] at hR
    subst hR
    go_enter Tryd.func19, Tryd.ntmps19
    go_wp2_with fail
    go_ret2
    exact ⟨rfl, by repeat (first | exact Drawn0.refl _ | apply Drawn0.step)⟩
end Go.Proofs.YtocmmdheegkbaaaDoor
