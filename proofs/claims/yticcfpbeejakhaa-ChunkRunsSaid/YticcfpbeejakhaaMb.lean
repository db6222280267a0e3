/- The contracts of chunk's own methods that write: Take, Back. -/
import Derived.Test.YticcfpbeejakhaaMa
import Derived.Test.YticcfpbeejakhaaWMore
namespace Go.Proofs.Yticcfpbeejakhaa
open Go.RowKit Go.Proofs.YticcfpbeejakhaaW.PrintWords Go.Proofs.YticcfpbeejakhaaW.PrintMore
attribute [local go_sem] max2_int min2_int max_two min_two
set_option linter.unusedVariables false
set_option linter.unusedSimpArgs false

set_option maxHeartbeats 400000 in
set_option maxRecDepth 100000 in
theorem take_nil (w : World) (m : Int) : Calls Try.prog 13 #[.pointer none, .int .i64 m] w fun e w' => e = .returned (.tuple #[.slice none 0 0, .bool false]) ∧ w = w' := by
  go_enter Try.func13, Try.ntmps13
  go_wp2_with (go_at_call 17; refine (peek_nil _ _).mono ?_; rintro e w' ⟨rfl, rfl⟩)
  go_ret2
  exact ⟨rfl, rfl⟩

set_option maxHeartbeats 400000 in
set_option maxRecDepth 100000 in
theorem take_no (w : World) (g : Nat) (A : Option Addr) (n c : Nat) (pos once gone limit : Int) (h : SrcB w g (.slice A n c) pos once gone limit)
    (h0 : 0 ≤ pos) (h1 : pos ≤ 1000000) (h2 : n ≤ 1000000) (m : Int) (hm : m < 0 ∨ (n : Int) - pos < m) :
    Calls Try.prog 13 #[.pointer (some ⟨g, 0, none⟩), .int .i64 m] w fun e w' => e = .returned (.tuple #[.slice none 0 0, .bool false]) ∧ Below w.heap.size w w' := by
  go_enter Try.func13, Try.ntmps13
  go_wp2_with (go_at_call 17; refine (peek_no _ _ _ _ _ _ _ _ _ h h0 h1 h2 _ hm).mono ?_; rintro e w' ⟨rfl, hb⟩)
  go_ret2
  exact ⟨rfl, hb⟩

set_option maxHeartbeats 400000 in
set_option maxRecDepth 100000 in
theorem take_yes (w : World) (g : Nat) (A : Option Addr) (n c : Nat) (pos once gone limit : Int) (h : SrcB w g (.slice A n c) pos once gone limit)
    (h0 : 0 ≤ pos) (h1 : pos ≤ n) (h2 : n ≤ 1000000) (xs : List Int) (hx : ReadsInt w .u8 A n xs) (hc : n ≤ c) (m : Int) (hm0 : 0 ≤ m) (hm : m ≤ (n : Int) - pos) :
    Calls Try.prog 13 #[.pointer (some ⟨g, 0, none⟩), .int .i64 m] w fun e w' => ∃ gb : Nat, e = .returned (.tuple #[.slice (some ⟨gb, 0, none⟩) m.toNat m.toNat, .bool true]) ∧
      w'.ownsRow w.heap.size 5 1 (.slice (some ⟨gb, 0, none⟩) m.toNat m.toNat) m.toNat (nums .u8 ((xs.drop pos.toNat).take m.toNat)) ∧
      SrcB w' g (.slice A n c) (pos + m) (max once (pos + m)) gone limit ∧ Kp w w' (fun k => k = g) := by
  go_enter Try.func13, Try.ntmps13
  go_wp2_with (go_at_call 17; refine (peek_yes _ _ _ _ _ _ _ _ _ h h0 h1 h2 xs hx hc _ hm0 hm).mono ?_; rintro e w1 ⟨gb, rfl, HO, HB⟩; have HS := SrcB.below h HB; obtain ⟨k0, k1, k2, k3, k4, kf⟩ := HS.cells)
  have e1 : IntKind.i64.wrap (pos + m) = pos + m := IntWalk.i64_in _ (by omega)
  have HK : Kp w (w1.setCell ⟨g, 1, none⟩ (.int .i64 (pos + m))) (fun k => k = g) := (Kp.of_below HB (fun k => k = g)).set_ (p := ⟨g, 1, none⟩) (.inl rfl) _
  have HS2 := HS.set1 (pos + m)
  have HO2 := HS.keep HO 1 (.int .i64 (pos + m))
  clear HO HS k0 k1 k2 k3 k4 kf HB
  generalize (w1.setCell ⟨g, 1, none⟩ (.int .i64 (pos + m))) = W2 at *
  obtain ⟨k0, k1, k2, k3, k4, kf⟩ := HS2.cells
  go_region
  all_goals go_wp2
  all_goals go_ret2
  all_goals
    refine ⟨gb, rfl, HS2.keep HO2 2 _, ?_, (HK.set_ (p := ⟨g, 2, none⟩) (.inl rfl) _).drew⟩
    first
    | (rw [show max once (pos + m) = once from by omega]; exact HS2.set2 _)
    | (rw [show max once (pos + m) = pos + m from by omega]; exact HS2.set2 _)

set_option maxHeartbeats 400000 in
set_option maxRecDepth 100000 in
theorem back_nil (w : World) (m : Int) : Calls Try.prog 14 #[.pointer none, .int .i64 m] w fun e w' => e = .returned (.int .i64 3) ∧ w = w' := by
  go_enter Try.func14, Try.ntmps14
  go_wp2
  go_ret
  exact ⟨rfl, rfl⟩

set_option maxHeartbeats 400000 in
set_option maxRecDepth 100000 in
theorem back_arg (w : World) (g : Nat) (m : Int) (hm : m < 0) :
    Calls Try.prog 14 #[.pointer (some ⟨g, 0, none⟩), .int .i64 m] w fun e w' => e = .returned (.int .i64 1) ∧ w = w' := by
  go_enter Try.func14, Try.ntmps14
  go_wp2
  go_ret
  exact ⟨rfl, rfl⟩

set_option maxHeartbeats 400000 in
set_option maxRecDepth 100000 in
theorem back_no (w : World) (g : Nat) (v : Value) (pos once gone limit : Int) (h : SrcB w g v pos once gone limit)
    (h0 : 0 ≤ pos) (h1 : pos ≤ 1000000) (h2 : 0 ≤ once) (h3 : once ≤ 1000000) (m : Int) (hm0 : 0 ≤ m) (hm : pos < m ∨ pos - m < once - 16) :
    Calls Try.prog 14 #[.pointer (some ⟨g, 0, none⟩), .int .i64 m] w fun e w' => e = .returned (.int .i64 60) ∧ Below w.heap.size w w' := by
  obtain ⟨k0, k1, k2, k3, k4, kf⟩ := h.cells
  clear h
  have hd0 : decide (m < 0) = false := decide_eq_false (by omega)
  by_cases hp : pos < m
  · clear hm
    have hd : decide (pos < m) = true := decide_eq_true hp
    go_enter Try.func14, Try.ntmps14
    go_wp2
    go_quiet (fail)
    go_wp2
    go_ret
    exact ⟨rfl, drewN_below _ _⟩
  · have hm2 : pos - m < once - 16 := by omega
    clear hm
    have hd : decide (pos < m) = false := decide_eq_false hp
    have e1 : IntKind.i64.wrap (pos - m) = pos - m := IntWalk.i64_in _ (by omega)
    have e2 : IntKind.i64.wrap (once - 16) = once - 16 := IntWalk.i64_in _ (by omega)
    have hd2 : decide (pos - m < once - 16) = true := decide_eq_true hm2
    go_enter Try.func14, Try.ntmps14
    go_wp2
    go_quiet (fail)
    go_wp2
    go_ret
    exact ⟨rfl, drewN_below _ _⟩

set_option maxHeartbeats 400000 in
set_option maxRecDepth 100000 in
theorem back_yes (w : World) (g : Nat) (v : Value) (pos once gone limit : Int) (h : SrcB w g v pos once gone limit)
    (h0 : 0 ≤ pos) (h1 : pos ≤ 1000000) (h2 : 0 ≤ once) (h3 : once ≤ 1000000) (m : Int) (hm0 : 0 ≤ m) (hp : m ≤ pos) (hm : once - 16 ≤ pos - m) :
    Calls Try.prog 14 #[.pointer (some ⟨g, 0, none⟩), .int .i64 m] w fun e w' => e = .returned (.int .i64 0) ∧ SrcB w' g v (pos - m) once gone limit ∧ Kp w w' (fun k => k = g) := by
  have HS := h
  obtain ⟨k0, k1, k2, k3, k4, kf⟩ := h.cells
  clear h
  have hd0 : decide (m < 0) = false := decide_eq_false (by omega)
  have hd : decide (pos < m) = false := decide_eq_false (by omega)
  have e1 : IntKind.i64.wrap (pos - m) = pos - m := IntWalk.i64_in _ (by omega)
  have e2 : IntKind.i64.wrap (once - 16) = once - 16 := IntWalk.i64_in _ (by omega)
  have hd2 : decide (pos - m < once - 16) = false := decide_eq_false (by omega)
  go_enter Try.func14, Try.ntmps14
  go_wp2
  go_quiet (fail)
  go_wp2
  go_ret
  exact ⟨rfl, HS.set1 _, ((Kp.refl w (fun k => k = g)).set_ (p := ⟨g, 1, none⟩) (.inl rfl) _).drewN _⟩
end Go.Proofs.Yticcfpbeejakhaa
