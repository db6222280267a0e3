/- strconv.FormatUint at base 16; fbits.Hex. -/
import Derived.Test.YtocmmdheegkbaaaDoorHa
namespace Go.Proofs.YtocmmdheegkbaaaDoor
open Go.RowKit Go.Proofs.YtocmmdheegkbaaaDoorW.PrintWords Go.Proofs.YtocmmdheegkbaaaDoorW.PrintMore
set_option linter.unusedVariables false
set_option linter.unusedSimpArgs false

/-- Just n digits. -/
def hexF : Nat → Nat → List UInt8
  | 0, _ => []
  | n + 1, b => hexF n (b / 16) ++ [dgt (b % 16)]
theorem hexF_len : ∀ n b, (hexF n b).length = n
  | 0, b => rfl
  | n + 1, b => by simp [hexF, hexF_len n]
theorem hexF_zero : ∀ n, hexF n 0 = List.replicate n 48
  | 0 => rfl
  | n + 1 => by
    rw [hexF, Nat.zero_div, hexF_zero n, List.replicate_succ']; rfl
theorem hexF_small (n b : Nat) (h : b < 16) : hexF (n + 1) b = List.replicate n 48 ++ [dgt b] := by
  rw [hexF, Nat.div_eq_of_lt h, hexF_zero, Nat.mod_eq_of_lt h]
theorem hexF_hx : ∀ f b, b < 16 ^ f → 1 ≤ f → List.replicate (f - (hx f b).length) 48 ++ hx f b = hexF f b
  | 0, b, h, h1 => by omega
  | f + 1, b, h, _ => by
    rw [hx]
    split
    · rename_i hb
      rw [hexF_small f b hb]; simp
    · rename_i hb
      have hf : 1 ≤ f := by
        rcases f with _ | f
        · simp at h; omega
        · omega
      have := hexF_hx f (b / 16) (by rw [Nat.pow_succ] at h; omega) hf
      rw [hexF, ← this]
      simp
theorem hx16_len (b : Nat) (h : b < 18446744073709551616) : 1 ≤ (hx 16 b).length ∧ (hx 16 b).length ≤ 16 := hx_len 16 b h (by decide)

set_option maxHeartbeats 1000000 in
set_option maxRecDepth 1000000 in
theorem ifmt_16 (b : Nat) (hb : b < 18446744073709551616) (w : World) (hc : w.cell? ⟨7, 15, none⟩ = some (.int .u8 4)) :
    Calls Tryd.prog 44 #[.int .u64 (b : Int), .int .i64 16] w fun e w' => e = .returned (.string ⟨(hx 16 b).toArray⟩) ∧ Below w.heap.size w w' := by
  go_enter Tryd.func44, Tryd.ntmps44
  go_wp2_with fail
  refine (formatBits_16 b hb _ hc).mono ?_
  rintro e w1 ⟨rfl, hB⟩
  go_wp2_with fail
  go_ret
  exact ⟨rfl, hB⟩
set_option maxHeartbeats 1000000 in
set_option maxRecDepth 1000000 in
theorem fmt_16 (b : Nat) (hb : b < 18446744073709551616) (w : World) (hc : w.cell? ⟨7, 15, none⟩ = some (.int .u8 4)) :
    Calls Tryd.prog 35 #[.int .u64 (b : Int), .int .i64 16] w fun e w' => e = .returned (.string ⟨(hx 16 b).toArray⟩) ∧ Below w.heap.size w w' := by
  go_enter Tryd.func35, Tryd.ntmps35
  go_wp2_with fail
  refine (ifmt_16 b hb _ hc).mono ?_
  rintro e w1 ⟨rfl, hB⟩
  go_wp2_with fail
  go_ret
  exact ⟨rfl, hB⟩
def hexS (b : Nat) : ByteArray := ⟨(hexF 16 b).toArray⟩
set_option maxHeartbeats 1000000 in
set_option maxRecDepth 1000000 in
theorem Hex_any (b : Nat) (hb : b < 18446744073709551616) (w : World) (hc : w.cell? ⟨7, 15, none⟩ = some (.int .u8 4)) :
    Calls Tryd.prog 20 #[.int .u64 (b : Int)] w fun e w' => e = .returned (.string (hexS b)) ∧ Below w.heap.size w w' := by
  have hl := hx16_len b hb
  have hcat : List.replicate (16 - (hx 16 b).length) 48 ++ hx 16 b = hexF 16 b := hexF_hx 16 b hb (by decide)
  generalize hx16 : hx 16 b = xs at hl hcat
  obtain ⟨n, hn⟩ : ∃ n, xs.length = n := ⟨_, rfl⟩
  have hsz : (⟨xs.toArray⟩ : ByteArray).size = n := hn
  rw [hn] at hl hcat
  go_enter Tryd.func20, Tryd.ntmps20
  go_wp2_with fail
  refine (fmt_16 b hb _ hc).mono ?_
  rintro e w1 ⟨rfl, hB⟩
  rw [hx16]
  go_wp2_with fail
  go_ret
  refine ⟨?_, hB⟩
  have key : ((⟨#[48, 48, 48, 48, 48, 48, 48, 48, 48, 48, 48, 48, 48, 48, 48, 48]⟩ : ByteArray).extract n 16 ++ ⟨xs.toArray⟩) = hexS b := by
    apply ByteArray.ext
    rw [ByteArray.data_append, ByteArray.data_extract, hexS, ← hcat]
    apply Array.ext'
    have h48 : ([48, 48, 48, 48, 48, 48, 48, 48, 48, 48, 48, 48, 48, 48, 48, 48] : List UInt8) = List.replicate 16 48 := by decide
    simp
    rw [h48, List.drop_replicate, List.take_of_length_le (by simp)]
  exact congrArg (fun x => Ending.returned (Value.string x)) key
end Go.Proofs.YtocmmdheegkbaaaDoor
