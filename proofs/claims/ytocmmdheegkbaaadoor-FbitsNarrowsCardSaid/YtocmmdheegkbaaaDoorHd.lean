/- internal/strconv.ParseUint at base 16, 64 bits. -/
import Derived.Test.YtocmmdheegkbaaaDoorHc
namespace Go.Proofs.YtocmmdheegkbaaaDoor
open Go.RowKit Go.Proofs.YtocmmdheegkbaaaDoorW.PrintWords Go.Proofs.YtocmmdheegkbaaaDoorW.PrintMore
set_option linter.unusedVariables false
set_option linter.unusedSimpArgs false

/-- A digit's value. -/
def dv (c : UInt8) : Option Nat :=
  if 48 ≤ c.toNat ∧ c.toNat ≤ 57 then some (c.toNat - 48)
  else if 97 ≤ (c.toNat ||| 32) ∧ (c.toNat ||| 32) ≤ 102 then some ((c.toNat ||| 32) - 87) else none
inductive PR where
  | ok (n : Nat) | syn | rng
def p16 : Nat → List UInt8 → PR
  | acc, [] => .ok acc
  | acc, c :: cs => match dv c with
    | none => .syn
    | some d => if 1152921504606846976 ≤ acc then .rng else p16 (acc * 16 + d) cs
def PR.tup : PR → Value
  | .ok n => .tuple #[.int .u64 (n : Int), .nilIface]
  | .syn => .tuple #[.int .u64 0, .iface 68 (.int .i64 2)]
  | .rng => .tuple #[.int .u64 18446744073709551615, .iface 68 (.int .i64 1)]
theorem p16_some (acc : Nat) (c : UInt8) (cs : List UInt8) (d : Nat) (h : dv c = some d) (ha : acc < 1152921504606846976) : p16 acc (c :: cs) = p16 (acc * 16 + d) cs := by
  rw [p16, h]; simp only []; rw [if_neg (by omega)]
theorem p16_rng (acc : Nat) (c : UInt8) (cs : List UInt8) (d : Nat) (h : dv c = some d) (ha : 1152921504606846976 ≤ acc) : p16 acc (c :: cs) = .rng := by
  rw [p16, h]; simp only []; rw [if_pos ha]
theorem p16_none (acc : Nat) (c : UInt8) (cs : List UInt8) (h : dv c = none) : p16 acc (c :: cs) = .syn := by
  rw [p16, h]

set_option maxHeartbeats 32000000 in
set_option maxRecDepth 100000 in
theorem iparse_16 (t : ByteArray) (hmax : t.size ≤ 281474976710656) (w : World) :
    Calls Tryd.prog 42 #[.string t, .int .i64 16, .int .i64 64] w fun e w' => e = .returned (if t.size = 0 then PR.syn else p16 0 t.data.toList).tup ∧ Below w.heap.size w w' := by
  by_cases hne : t.size = 0
  · rw [if_pos hne]
    have hs : t = ⟨#[]⟩ := by
      apply ByteArray.ext
      exact Array.eq_empty_of_size_eq_zero hne
    subst hs
    go_enter Tryd.func42, Tryd.ntmps42
    go_wp2
    go_ret2
    exact ⟨rfl, Below.refl _ _⟩
  rw [if_neg hne]
  have hemp0 : t.data.toList.isEmpty = false := by
    rw [List.isEmpty_eq_false_iff]
    intro h
    have h2 := congrArg List.length h
    rw [← Lib.size_eq] at h2
    exact hne h2
  have hemp : t.toList.isEmpty = false := by
    rw [← decide_eq_emptyBytes]
    exact decide_eq_false (fun h => hne (by rw [h]; rfl))
  have hcv := Lib.run_convert_string_bytes (P := Tryd.prog) w 9 70 5 t (u := .string) Tryd.underlying9 Tryd.underlying70 Tryd.underlying5
  have hB : ∀ j, j < t.size → (Lib.bytesWorld w 5 t).cell? ⟨w.heap.size, j, none⟩ = some (.int .u8 (t.data.toList.getD j 0).toNat) := fun j hj => Lib.bytesWorld_cell w 5 t j hj
  have hBel : Below w.heap.size w (Lib.bytesWorld w 5 t) := Lib.bytesWorld_below _ _ _
  obtain ⟨W1, hW1⟩ : ∃ W1, W1 = Lib.bytesWorld w 5 t := ⟨_, rfl⟩
  rw [← hW1] at hcv hB hBel
  clear hW1
  obtain ⟨bs, hL⟩ : ∃ bs, bs = t.data.toList := ⟨_, rfl⟩
  have hLn : bs.length = t.size := by rw [hL, Lib.size_eq]
  rw [← hL] at hB ⊢
  clear hL
  have hmv : IntKind.u64.wrap (IntKind.u64.wrap 18446744073709551616 - 1) = 18446744073709551615 := by
    rw [IntKind.wrap_u64, IntKind.wrap_u64]
    decide
  go_enter Tryd.func42, Tryd.ntmps42
  go_wp2
  go_loop [12, 13, 101] (fun vu vn vi => ∃ (k acc : Nat) (a : Int), vu = .bool false ∧ vn = .int .u64 a ∧ vi = .int .i64 k ∧ k ≤ t.size ∧ Hid (a = (acc : Int) ∧ acc < 18446744073709551616 ∧ p16 0 bs = p16 acc (bs.drop k)))
    (fun _ _ vi => t.size - (intOf vi).toNat)
  case atStart => exact ⟨0, 0, 0, rfl, rfl, rfl, by omega, rfl, by omega, rfl⟩
  case round =>
    obtain ⟨k, acc, a, rfl, rfl, rfl, hk, hh⟩ := hrel
    obtain ⟨ha, hacc, hdec⟩ := hh.out
    clear hh
    have a0 : 0 ≤ a := by omega
    have a1 : a < 18446744073709551616 := by omega
    by_cases hkn : k < t.size
    · have hc := hB k hkn
      have hdrop : bs.drop k = bs[k]'(by omega) :: bs.drop (k + 1) := List.drop_eq_getElem_cons (by omega)
      have hget : bs.getD k 0 = bs[k]'(by omega) := by simp [List.getD, List.getElem?_eq_getElem (show k < bs.length by omega)]
      rw [hdrop] at hdec
      rw [hget] at hc
      generalize bs[k]'(by omega) = c at hc hdec
      have hc256 : c.toNat < 256 := c.toNat_lt
      clear hB hdrop hget
      by_cases hdig : 48 ≤ c.toNat ∧ c.toNat ≤ 57
      · obtain ⟨hd0, hd1⟩ := hdig
        have hdv : dv c = some (c.toNat - 48) := by unfold dv; rw [if_pos ⟨hd0, hd1⟩]
        by_cases hcut : 1152921504606846976 ≤ acc
        · have hF := p16_rng acc c (bs.drop (k + 1)) _ hdv hcut
          rw [hF] at hdec
          have icut : 1152921504606846976 ≤ a := by omega
          replace hdec := Lib.hid hdec
          clear hcut hacc hF ha hdv
          go_wp2
          go_ret2
          exact ⟨by rw [hdec.out]; rfl, hBel⟩
        · have hF := p16_some acc c (bs.drop (k + 1)) _ hdv (by omega)
          have HN : Hid (a * 16 + ((c.toNat : Int) - 48) = ((acc * 16 + (c.toNat - 48) : Nat) : Int) ∧ acc * 16 + (c.toNat - 48) < 18446744073709551616 ∧ p16 0 bs = p16 (acc * 16 + (c.toNat - 48)) (bs.drop (k + 1))) := Lib.hid ⟨by omega, by omega, hdec.trans hF⟩
          have icut : a < 1152921504606846976 := by omega
          have iov : a * 16 + ((c.toNat : Int) - 48) < 18446744073709551616 := by omega
          clear hcut hacc hF hdec ha hdv
          go_wp2
          refine ⟨⟨k + 1, acc * 16 + (c.toNat - 48), a * 16 + ((c.toNat : Int) - 48), rfl, (by first | rfl | (congr 1; omega)), (by first | rfl | (congr 1; omega)), by omega, HN⟩, by simp [intOf]; omega⟩
      · have hor := or32 c
        have hv0 := bits_lo_u8 .or (c.toNat : Int) 32
        have hv1 := bits_hi_u8 .or (c.toNat : Int) 32
        obtain ⟨v, hv⟩ : ∃ v : Nat, v = (c.toNat ||| 32) := ⟨_, rfl⟩
        rw [← hv] at hor
        rw [hor] at hv0 hv1
        by_cases h95 : c.toNat = 95
        · have hdv : dv c = none := by unfold dv; rw [if_neg hdig, h95]; decide
          have hF := p16_none acc c (bs.drop (k + 1)) hdv
          rw [hF] at hdec
          replace hdec := Lib.hid hdec
          have h127 : bits .or .u8 95 32 = 127 := by decide
          rw [h95] at hc
          clear hacc hF ha hdv hv hv0 hv1 hor hc256 hdig h95
          go_wp2_with (go_at_call 47; refine (lower_any _ _).mono ?_; rintro e w' ⟨rfl, rfl⟩; rw [h127])
          all_goals go_ret2
          all_goals exact ⟨by rw [hdec.out]; rfl, hBel⟩
        by_cases hlet : 97 ≤ v ∧ v ≤ 102
        · obtain ⟨hl0, hl1⟩ := hlet
          have hdv : dv c = some (v - 87) := by unfold dv; rw [if_neg hdig, ← hv, if_pos ⟨hl0, hl1⟩]
          by_cases hcut : 1152921504606846976 ≤ acc
          · have hF := p16_rng acc c (bs.drop (k + 1)) _ hdv hcut
            rw [hF] at hdec
            have icut : 1152921504606846976 ≤ a := by omega
            replace hdec := Lib.hid hdec
            clear hcut hacc hF ha hdv hv
            go_wp2_with (go_at_call 47; refine (lower_any _ _).mono ?_; rintro e w' ⟨rfl, rfl⟩; rw [hor])
            all_goals go_ret2
            all_goals exact ⟨by rw [hdec.out]; rfl, hBel⟩
          · have hF := p16_some acc c (bs.drop (k + 1)) _ hdv (by omega)
            have HN : Hid (a * 16 + ((v : Int) - 87) = ((acc * 16 + (v - 87) : Nat) : Int) ∧ acc * 16 + (v - 87) < 18446744073709551616 ∧ p16 0 bs = p16 (acc * 16 + (v - 87)) (bs.drop (k + 1))) := Lib.hid ⟨by omega, by omega, hdec.trans hF⟩
            have icut : a < 1152921504606846976 := by omega
            have iov : a * 16 + ((v : Int) - 97 + 10) < 18446744073709551616 := by omega
            clear hcut hacc hF hdec ha hdv hv
            go_wp2_with (go_at_call 47; refine (lower_any _ _).mono ?_; rintro e w' ⟨rfl, rfl⟩; rw [hor])
            all_goals refine ⟨⟨k + 1, acc * 16 + (v - 87), a * 16 + ((v : Int) - 87), rfl, (by first | rfl | (congr 1; omega)), (by first | rfl | (congr 1; omega)), by omega, HN⟩, by simp [intOf]; omega⟩
        · have hdv : dv c = none := by unfold dv; rw [if_neg hdig, ← hv, if_neg hlet]
          have hF := p16_none acc c (bs.drop (k + 1)) hdv
          rw [hF] at hdec
          replace hdec := Lib.hid hdec
          clear hacc hF ha hdv hv
          go_wp2_with (go_at_call 47; refine (lower_any _ _).mono ?_; rintro e w' ⟨rfl, rfl⟩; rw [hor])
          all_goals go_ret2
          all_goals exact ⟨by rw [hdec.out]; rfl, hBel⟩
    · have hkk : k = t.size := by omega
      subst hkk
      have hF : p16 acc (bs.drop t.size) = .ok acc := by rw [List.drop_eq_nil_of_le (by omega)]; rfl
      rw [hF] at hdec
      subst ha
      replace hdec := Lib.hid hdec
      clear hacc hF a0 a1
      go_wp2
      go_ret2
      exact ⟨by rw [hdec.out]; rfl, hBel⟩
end Go.Proofs.YtocmmdheegkbaaaDoor
