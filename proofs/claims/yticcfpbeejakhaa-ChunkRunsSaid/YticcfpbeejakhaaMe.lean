/- The contracts of the helpers: told, Lend, Back. -/
import Derived.Test.YticcfpbeejakhaaMd
namespace Go.Proofs.Yticcfpbeejakhaa
open Go.RowKit Go.Proofs.YticcfpbeejakhaaW.PrintWords Go.Proofs.YticcfpbeejakhaaW.PrintMore
set_option linter.unusedVariables false
set_option linter.unusedSimpArgs false

set_option maxHeartbeats 400000 in
set_option maxRecDepth 100000 in
/-- told, of bytes that are just these. -/
theorem told_zero (w : World) (B : Nat) (A : Option Addr) (c : Nat) (HO : w.ownsRow B 5 1 (.slice A 0 c) 0 (nums .u8 [])) (ok : Bool) :
    Calls Try.prog 22 #[.slice A 0 c, .bool ok, .string (strOfNums []), .bool ok] w fun e w' => e = .returned (.bool true) ∧ Below w.heap.size w w' := by
  have hcv := own_string (P := Try.prog) (src := 33) (dst := 9) (e := 5) Try.underlying33 Try.underlying5 Try.underlying9 HO
  go_enter Try.func22, Try.ntmps22
  go_wp2
  go_loop [10] (fun i => i = .int .i64 0) (fun i => 0)
  case atStart => rfl
  case round =>
    obtain rfl := hrel
    go_wp2
    go_ret
    exact ⟨by simp, Below.refl _ _⟩

set_option maxHeartbeats 400000 in
set_option maxRecDepth 100000 in
theorem told_some (w : World) (B gb n c : Nat) (xs : List Int) (HO : w.ownsRow B 5 1 (.slice (some ⟨gb, 0, none⟩) n c) n (nums .u8 xs)) (ok : Bool) :
    Calls Try.prog 22 #[.slice (some ⟨gb, 0, none⟩) n c, .bool ok, .string (strOfNums xs), .bool ok] w fun e w' => e = .returned (.bool true) ∧ Kp w w' (fun k => k = gb) := by
  have hcv := own_string (P := Try.prog) (src := 33) (dst := 9) (e := 5) Try.underlying33 Try.underlying5 Try.underlying9 HO
  have hmx : n ≤ 9223372036854775807 := by
    rcases HO.2 with ⟨h, _⟩ | ⟨g', cap', cur, h, _, _, hn, hm, _⟩
    · cases h
    · simp only [maxLen] at hm; omega
  go_enter Try.func22, Try.ntmps22
  go_wp2
  go_loopw [10] (fun i wr => ∃ (k : Nat) (zs : List Int), k ≤ n ∧ i = .int .i64 k ∧ wr.ownsRow B 5 1 (.slice (some ⟨gb, 0, none⟩) n c) n (nums .u8 zs) ∧ Kp w wr (fun k => k = gb)) (fun i _ => n - (intOf i).toNat)
  case atStart => exact ⟨0, xs, Nat.zero_le _, rfl, HO, Kp.refl _ _⟩
  case round =>
    obtain ⟨k, zs, hk, rfl, hO, hK⟩ := hrel
    clear hcv HO
    by_cases hlt : k < n
    · obtain ⟨hc, hf⟩ := own_at hO (k : Int) (by omega) (by omega)
      rw [Int.toNat_natCast] at hc hf
      have hst := own_store hO (k : Int) ((rd zs k + 99) % 256)
      rw [Int.toNat_natCast] at hst
      have H1 := Lib.hid hst
      have H2 := Lib.hid hK
      clear hst hO hK
      go_wp2
      go_roundw
      case rel => exact ⟨k + 1, _, by omega, by go_num, H1.out.1, H2.out.set_ (p := ⟨gb, k, none⟩) (.inl rfl) _⟩
      case measure => simp [intOf]; omega
    · go_wp2
      go_ret
      exact ⟨by simp, hK⟩
end Go.Proofs.Yticcfpbeejakhaa
