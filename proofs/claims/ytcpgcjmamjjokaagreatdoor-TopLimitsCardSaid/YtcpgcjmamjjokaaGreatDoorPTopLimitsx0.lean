-- PRINTED BY print.sh 35421559b90ae4d0a3588c463048766b98c2df88dd9212a6774a882060cdf62d: not written by this session
import Derived.Test.YtcpgcjmamjjokaaGreatDoorProg
import Derived.Below
import Derived.Deep.Draws
import Derived.Deep.AppendLies
import Derived.Maps.AppendAt
import Derived.OwnWalk
import Derived.Laws.BytesArg
import Derived.Laws.MakeOwn
import Derived.Laws.OwnMore
import Derived.Deep.OwnRows
import Derived.Tactics
import Derived.Lib.ConvBytes
import Derived.Laws.Slices
import Derived.WalkKit
import Derived.KernelRfl
import Derived.RowKit3
import Derived.Deep.LoopGhost
import Derived.Deep.QuietTactic
import Derived.BigQuiet
import Derived.WideLaws
import Derived.Deep.DeepCutAuto
import Derived.Deep.CutBlock
import Derived.Deep.RegionHeld3
import Derived.Laws.Rows
import Derived.Lib.AppendStr
import Derived.ArgAppend
import Derived.Laws.IdiomCopy
import Derived.OrdersHeld
import Derived.Laws.BitsLemmas
import Derived.RowKit
import Derived.Test.YtcpgcjmamjjokaaGreatDoorWWords
import Derived.Test.YtcpgcjmamjjokaaGreatDoorWLast
import Derived.Test.YtcpgcjmamjjokaaGreatDoorWTab
import Derived.Test.YtcpgcjmamjjokaaGreatDoorWFour
import Derived.Test.YtcpgcjmamjjokaaGreatDoorWQPut
import Derived.Test.YtcpgcjmamjjokaaGreatDoorWApart
import Derived.Test.YtcpgcjmamjjokaaGreatDoorWArr
import Derived.Test.YtcpgcjmamjjokaaGreatDoorWZeros
import Derived.Test.YtcpgcjmamjjokaaGreatDoorWFoot
import Derived.Test.YtcpgcjmamjjokaaGreatDoorWKept
import Derived.Test.YtcpgcjmamjjokaaGreatDoorWShare
import Derived.Test.YtcpgcjmamjjokaaGreatDoorWN
import Derived.Test.YtcpgcjmamjjokaaGreatDoorWFootNe
import Derived.Test.YtcpgcjmamjjokaaGreatDoorWAt
import Derived.Test.YtcpgcjmamjjokaaGreatDoorWEqStruct
import Derived.Test.YtcpgcjmamjjokaaGreatDoorWRepsOne
import Derived.Test.YtcpgcjmamjjokaaGreatDoorWInv
import Derived.Test.YtcpgcjmamjjokaaGreatDoorWInvWords
import Derived.Test.YtcpgcjmamjjokaaGreatDoorWGuard
import Derived.Test.YtcpgcjmamjjokaaGreatDoorWNEv
import Derived.Test.YtcpgcjmamjjokaaGreatDoorWMore
namespace Go.Proofs.YtcpgcjmamjjokaaGreatDoor.PTopLimits
open Go.RowKit Go.Proofs.YtcpgcjmamjjokaaGreatDoorW.PrintWords Go.Proofs.YtcpgcjmamjjokaaGreatDoorW.PrintLast Go.Proofs.YtcpgcjmamjjokaaGreatDoorW.PrintMore
attribute [local go_sem] max2_int min2_int max_two min_two max_three min_three max_four min_four   -- for this text's walks alone
set_option linter.unusedVariables false
set_option linter.unusedSimpArgs false



def errW : Option Int → Value
  | none => .nilIface
  | some c => .iface 281 (.int .i64 c)
theorem errW_none : errW none = .nilIface := rfl
theorem errW_some (c : Int) : errW (some c) = .iface 281 (.int .i64 c) := rfl

theorem info5 : (Tryz.prog.info? 5).map (fun i => (i.zero, i.size, i.bytes)) = some (some (.int .u8 0), 1, 1) := by kernel_rfl
-- the values' own types
/-! #### struct type 32 -/
structure S32 where
  f0 : Bool
  f1 : ByteArray
  f2 : Int
def z32 : S32 := ⟨false, (⟨#[]⟩ : ByteArray), (0 : Int)⟩
def k32 : Kd S32 := Kd.iso (Kd.pair Kd.bool (Kd.pair Kd.string (Kd.int .i64))) (fun x : S32 => (x.f0, x.f1, x.f2))
theorem k32_open {w : World} {x : S32} {cs : List Value} (h : k32.K w x cs) : cs = [.bool x.f0, .string x.f1, .int .i64 x.f2] := by
  obtain ⟨_, _, rfl, rfl, ⟨_, _, rfl, rfl, rfl⟩⟩ := h
  exact rfl
theorem k32_openM {w : World} {base : Nat} {ok : Nat → Prop} {x : S32} {cs : List Value} (h : k32.M w base ok x cs) : cs = [.bool x.f0, .string x.f1, .int .i64 x.f2] := by
  obtain ⟨_, _, rfl, rfl, ⟨_, _, rfl, rfl, rfl⟩⟩ := h
  exact rfl
theorem k32_mk (w : World) (x : S32)  : k32.K w x [.bool x.f0, .string x.f1, .int .i64 x.f2] := ⟨[.bool x.f0], [.string x.f1, .int .i64 x.f2], rfl, rfl, ⟨[.string x.f1], [.int .i64 x.f2], rfl, rfl, rfl⟩⟩
theorem k32_mkM (w : World) (base : Nat) (ok : Nat → Prop) (x : S32)  : k32.M w base ok x [.bool x.f0, .string x.f1, .int .i64 x.f2] := ⟨[.bool x.f0], [.string x.f1, .int .i64 x.f2], rfl, rfl, ⟨[.string x.f1], [.int .i64 x.f2], rfl, rfl, rfl⟩⟩
def rd_T32 (xs : List S32) (i : Int) : S32 := xs.getD i.toNat z32
theorem at_T32 {w : World} {A : Option Addr} {n : Nat} {xs : List S32} (h : Kd.C k32 w A n xs) (i : Int) (h0 : 0 ≤ i) (h1 : i < n) : ∃ ad , A = some ad ∧ w.cell? (ad.add (i.toNat * 3)) = some (.bool (rd_T32 xs i).f0) ∧ w.cell? ⟨(ad.add (i.toNat * 3)).block, (ad.add (i.toNat * 3)).off + 1, none⟩ = some (.string (rd_T32 xs i).f1) ∧ w.cell? ⟨(ad.add (i.toNat * 3)).block, (ad.add (i.toNat * 3)).off + 2, none⟩ = some (.int .i64 (rd_T32 xs i).f2) := by
  obtain ⟨ad, c, e, _, hK, hc0⟩ := Kd.C_get h z32 i h0 h1
  have hc : ∀ j u, c[j]? = some u → w.cell? (ad.add (i.toNat * 3 + j)) = some u := hc0
  obtain rfl := k32_open hK
  exact ⟨ad, e, hc 0 _ rfl, by rw [← add_field _ _ 1 (by omega)]; exact hc 1 _ rfl, by rw [← add_field _ _ 2 (by omega)]; exact hc 2 _ rfl⟩

def rd_L5 (xs : List (List ByteArray)) (i : Int) : (List ByteArray) := xs.getD i.toNat ([] : List ByteArray)
theorem at_L5 {w : World} {A : Option Addr} {n : Nat} {xs : List (List ByteArray)} (h : Kd.C (Kd.slice 9 Kd.string) w A n xs) (i : Int) (h0 : 0 ≤ i) (h1 : i < n) : ∃ ad A0 c0, A = some ad ∧ w.cell? (ad.add i.toNat) = some (.slice A0 (rd_L5 xs i).length c0) ∧ (rd_L5 xs i).length ≤ c0 ∧ Kd.string.C w A0 (rd_L5 xs i).length (rd_L5 xs i) := by
  obtain ⟨ad, c, e, _, hK, hc0⟩ := Kd.C_get h ([] : List ByteArray) i h0 h1
  have hc : ∀ j u, c[j]? = some u → w.cell? (ad.add (i.toNat * 1 + j)) = some u := hc0
  obtain ⟨A0, c0, rfl, l0, g0⟩ := hK
  exact ⟨ad, A0, c0, e, by have hq := hc 0 _ rfl; rwa [Nat.mul_one, Nat.add_zero] at hq, l0, g0⟩

/-! #### struct type 36, nested in itself -/
structure S36 where
  f0 : Int
  f1 : Bool
  f2 : S32
  f3 : Int
  f4 : ByteArray
  f5 : (List ByteArray)
  f6 : (List S36)
def z36 : S36 := ⟨(0 : Int), false, z32, (0 : Int), (⟨#[]⟩ : ByteArray), ([] : List ByteArray), ([] : List S36)⟩
def F36 (d : Kd S36) : Kd S36 := Kd.iso (Kd.pair (Kd.int .i64) (Kd.pair Kd.bool (Kd.pair k32 (Kd.pair (Kd.int .u64) (Kd.pair Kd.string (Kd.pair (Kd.slice 9 Kd.string) (Kd.slice 36 d))))))) (fun x : S36 => (x.f0, x.f1, x.f2, x.f3, x.f4, x.f5, x.f6))
theorem mono36 : Kd.Mono F36 := Kd.mono_iso _ (Kd.mono_pair (Kd.mono_const _) (Kd.mono_pair (Kd.mono_const _) (Kd.mono_pair (Kd.mono_const _) (Kd.mono_pair (Kd.mono_const _) (Kd.mono_pair (Kd.mono_const _) (Kd.mono_pair (Kd.mono_const _) (Kd.mono_slice 36 Kd.mono_id)))))))
theorem sub36 : Kd.Sub F36 [9, 36] := Kd.sub_iso _ (Kd.sub_pair (Kd.sub_const _ (by decide)) (Kd.sub_pair (Kd.sub_const _ (by decide)) (Kd.sub_pair (Kd.sub_const _ (by decide)) (Kd.sub_pair (Kd.sub_const _ (by decide)) (Kd.sub_pair (Kd.sub_const _ (by decide)) (Kd.sub_pair (Kd.sub_const _ (by decide)) (Kd.sub_slice 36 (by decide) Kd.sub_id)))))))
theorem sz36 : ∀ n, (Kd.upto F36 9 [9, 36] n).sz = 9 := Kd.upto_sz (fun _ => rfl)
def k36 : Kd S36 := Kd.fix F36 9 [9, 36] sz36 (Kd.upto_E sub36)
theorem k36_open {w : World} {x : S36} {cs : List Value} (h : k36.K w x cs) : ∃ A7 c7 A8 c8, cs = [.int .i64 x.f0, .bool x.f1, .bool x.f2.f0, .string x.f2.f1, .int .i64 x.f2.f2, .int .u64 x.f3, .string x.f4, .slice A7 x.f5.length c7, .slice A8 x.f6.length c8] ∧ x.f5.length ≤ c7 ∧ Kd.string.C w A7 x.f5.length x.f5 ∧ x.f6.length ≤ c8 ∧ k36.C w A8 x.f6.length x.f6 := by
  obtain ⟨n, h⟩ := h
  cases n with
  | zero => exact h.elim
  | succ n =>
    obtain ⟨_, _, rfl, rfl, ⟨_, _, rfl, rfl, ⟨_, _, rfl, s2, ⟨_, _, rfl, rfl, ⟨_, _, rfl, rfl, ⟨_, _, rfl, ⟨A7, c7, rfl, l7, g7⟩, ⟨A8, c8, rfl, l8, g8⟩⟩⟩⟩⟩⟩⟩ := h
    obtain rfl := k32_open s2
    exact ⟨A7, c7, A8, c8, rfl, l7, g7, l8, Kd.fix_C g8⟩
theorem k36_openM {w : World} {base : Nat} {ok : Nat → Prop} {x : S36} {cs : List Value} (h : k36.M w base ok x cs) : ∃ v7 v8, cs = [.int .i64 x.f0, .bool x.f1, .bool x.f2.f0, .string x.f2.f1, .int .i64 x.f2.f2, .int .u64 x.f3, .string x.f4, v7, v8] ∧ Kd.string.R 9 w base ok v7 x.f5 ∧ k36.R 36 w base ok v8 x.f6 := by
  obtain ⟨n, h⟩ := h
  cases n with
  | zero => exact h.elim
  | succ n =>
    obtain ⟨_, _, rfl, rfl, ⟨_, _, rfl, rfl, ⟨_, _, rfl, s2, ⟨_, _, rfl, rfl, ⟨_, _, rfl, rfl, ⟨_, _, rfl, ⟨v7, rfl, g7⟩, ⟨v8, rfl, g8⟩⟩⟩⟩⟩⟩⟩ := h
    obtain rfl := k32_openM s2
    exact ⟨v7, v8, rfl, g7, Kd.fix_R g8⟩
theorem k36_mk (w : World) (x : S36) {A7 : Option Addr} {c7 : Nat} (l7 : x.f5.length ≤ c7) (g7 : Kd.string.C w A7 x.f5.length x.f5) {A8 : Option Addr} {c8 : Nat} (l8 : x.f6.length ≤ c8) (g8 : k36.C w A8 x.f6.length x.f6) : k36.K w x [.int .i64 x.f0, .bool x.f1, .bool x.f2.f0, .string x.f2.f1, .int .i64 x.f2.f2, .int .u64 x.f3, .string x.f4, .slice A7 x.f5.length c7, .slice A8 x.f6.length c8] := by
  obtain ⟨n8, q8⟩ := Kd.fix_C_back mono36 g8
  have r8 := Kd.upto_C_le mono36 sz36 (show n8 ≤ n8 by omega) q8
  exact ⟨n8 + 1, ⟨[.int .i64 x.f0], [.bool x.f1, .bool x.f2.f0, .string x.f2.f1, .int .i64 x.f2.f2, .int .u64 x.f3, .string x.f4, .slice A7 x.f5.length c7, .slice A8 x.f6.length c8], rfl, rfl, ⟨[.bool x.f1], [.bool x.f2.f0, .string x.f2.f1, .int .i64 x.f2.f2, .int .u64 x.f3, .string x.f4, .slice A7 x.f5.length c7, .slice A8 x.f6.length c8], rfl, rfl, ⟨[.bool x.f2.f0, .string x.f2.f1, .int .i64 x.f2.f2], [.int .u64 x.f3, .string x.f4, .slice A7 x.f5.length c7, .slice A8 x.f6.length c8], rfl, (k32_mk w x.f2 ), ⟨[.int .u64 x.f3], [.string x.f4, .slice A7 x.f5.length c7, .slice A8 x.f6.length c8], rfl, rfl, ⟨[.string x.f4], [.slice A7 x.f5.length c7, .slice A8 x.f6.length c8], rfl, rfl, ⟨[.slice A7 x.f5.length c7], [.slice A8 x.f6.length c8], rfl, ⟨A7, c7, rfl, l7, g7⟩, ⟨A8, c8, rfl, l8, r8⟩⟩⟩⟩⟩⟩⟩⟩
theorem k36_mkM (w : World) (base : Nat) (ok : Nat → Prop) (x : S36) {v7 : Value} (g7 : Kd.string.R 9 w base ok v7 x.f5) {v8 : Value} (g8 : k36.R 36 w base ok v8 x.f6) : k36.M w base ok x [.int .i64 x.f0, .bool x.f1, .bool x.f2.f0, .string x.f2.f1, .int .i64 x.f2.f2, .int .u64 x.f3, .string x.f4, v7, v8] := by
  obtain ⟨n8, q8⟩ := Kd.fix_R_back mono36 g8
  have r8 := Kd.upto_R_le mono36 sz36 (show n8 ≤ n8 by omega) q8
  exact ⟨n8 + 1, ⟨[.int .i64 x.f0], [.bool x.f1, .bool x.f2.f0, .string x.f2.f1, .int .i64 x.f2.f2, .int .u64 x.f3, .string x.f4, v7, v8], rfl, rfl, ⟨[.bool x.f1], [.bool x.f2.f0, .string x.f2.f1, .int .i64 x.f2.f2, .int .u64 x.f3, .string x.f4, v7, v8], rfl, rfl, ⟨[.bool x.f2.f0, .string x.f2.f1, .int .i64 x.f2.f2], [.int .u64 x.f3, .string x.f4, v7, v8], rfl, (k32_mkM w base ok x.f2 ), ⟨[.int .u64 x.f3], [.string x.f4, v7, v8], rfl, rfl, ⟨[.string x.f4], [v7, v8], rfl, rfl, ⟨[v7], [v8], rfl, ⟨v7, rfl, g7⟩, ⟨v8, rfl, r8⟩⟩⟩⟩⟩⟩⟩⟩
def rd_T36 (xs : List S36) (i : Int) : S36 := xs.getD i.toNat z36
theorem at_T36 {w : World} {A : Option Addr} {n : Nat} {xs : List S36} (h : Kd.C k36 w A n xs) (i : Int) (h0 : 0 ≤ i) (h1 : i < n) : ∃ ad A7 c7 A8 c8, A = some ad ∧ w.cell? (ad.add (i.toNat * 9)) = some (.int .i64 (rd_T36 xs i).f0) ∧ w.cell? ⟨(ad.add (i.toNat * 9)).block, (ad.add (i.toNat * 9)).off + 1, none⟩ = some (.bool (rd_T36 xs i).f1) ∧ w.cell? ⟨(ad.add (i.toNat * 9)).block, (ad.add (i.toNat * 9)).off + 2, none⟩ = some (.bool (rd_T36 xs i).f2.f0) ∧ w.cell? ⟨(ad.add (i.toNat * 9)).block, (ad.add (i.toNat * 9)).off + 3, none⟩ = some (.string (rd_T36 xs i).f2.f1) ∧ w.cell? ⟨(ad.add (i.toNat * 9)).block, (ad.add (i.toNat * 9)).off + 4, none⟩ = some (.int .i64 (rd_T36 xs i).f2.f2) ∧ w.cell? ⟨(ad.add (i.toNat * 9)).block, (ad.add (i.toNat * 9)).off + 5, none⟩ = some (.int .u64 (rd_T36 xs i).f3) ∧ w.cell? ⟨(ad.add (i.toNat * 9)).block, (ad.add (i.toNat * 9)).off + 6, none⟩ = some (.string (rd_T36 xs i).f4) ∧ w.cell? ⟨(ad.add (i.toNat * 9)).block, (ad.add (i.toNat * 9)).off + 7, none⟩ = some (.slice A7 (rd_T36 xs i).f5.length c7) ∧ w.cell? ⟨(ad.add (i.toNat * 9)).block, (ad.add (i.toNat * 9)).off + 8, none⟩ = some (.slice A8 (rd_T36 xs i).f6.length c8) ∧ (rd_T36 xs i).f5.length ≤ c7 ∧ Kd.string.C w A7 (rd_T36 xs i).f5.length (rd_T36 xs i).f5 ∧ (rd_T36 xs i).f6.length ≤ c8 ∧ k36.C w A8 (rd_T36 xs i).f6.length (rd_T36 xs i).f6 := by
  obtain ⟨ad, c, e, _, hK, hc0⟩ := Kd.C_get h z36 i h0 h1
  have hc : ∀ j u, c[j]? = some u → w.cell? (ad.add (i.toNat * 9 + j)) = some u := hc0
  obtain ⟨A7, c7, A8, c8, rfl, l7, g7, l8, g8⟩ := k36_open hK
  exact ⟨ad, A7, c7, A8, c8, e, hc 0 _ rfl, by rw [← add_field _ _ 1 (by omega)]; exact hc 1 _ rfl, by rw [← add_field _ _ 2 (by omega)]; exact hc 2 _ rfl, by rw [← add_field _ _ 3 (by omega)]; exact hc 3 _ rfl, by rw [← add_field _ _ 4 (by omega)]; exact hc 4 _ rfl, by rw [← add_field _ _ 5 (by omega)]; exact hc 5 _ rfl, by rw [← add_field _ _ 6 (by omega)]; exact hc 6 _ rfl, by rw [← add_field _ _ 7 (by omega)]; exact hc 7 _ rfl, by rw [← add_field _ _ 8 (by omega)]; exact hc 8 _ rfl, l7, g7, l8, g8⟩

end Go.Proofs.YtcpgcjmamjjokaaGreatDoor.PTopLimits
