/- A Source as a whole, and its methods' contracts on that word. -/
import Derived.Test.YticcfpbeejakhaaMc
namespace Go.Proofs.Yticcfpbeejakhaa
open Go.RowKit Go.Proofs.YticcfpbeejakhaaW.PrintWords Go.Proofs.YticcfpbeejakhaaW.PrintMore
set_option linter.unusedVariables false
set_option linter.unusedSimpArgs false

/-- A Source: its block, the row that it owns, and what holds of its numbers. -/
structure SrcIs (w : World) (B g : Nat) (v : Value) (xs : List Int) (pos once gone limit : Int) : Prop where
  blk : SrcB w g v pos once gone limit
  own : w.ownsRow B 5 1 v xs.length (nums .u8 xs)
  base : B ≤ g
  p0 : 0 ≤ pos
  o0 : pos ≤ once
  o1 : once ≤ xs.length
  o2 : once - 16 ≤ pos
  g0 : 0 ≤ gone
  l1 : gone + xs.length ≤ limit
  l2 : limit ≤ 65536

section
variable {w w' : World} {B g : Nat} {v : Value} {xs : List Int} {pos once gone limit : Int}
theorem SrcIs.lt (h : SrcIs w B g v xs pos once gone limit) : g < w.heap.size := blk_lt h.blk
theorem SrcIs.hB (h : SrcIs w B g v xs pos once gone limit) : B ≤ w.heap.size := Nat.le_of_lt (Nat.lt_of_le_of_lt h.base h.lt)
theorem SrcIs.vlt (h : SrcIs w B g v xs pos once gone limit) : ∀ k, v.ownBlock = some k → B ≤ k ∧ k < w.heap.size := fun k hk => ⟨own_base h.own k hk, own_lt h.own k hk⟩
theorem SrcIs.ne (h : SrcIs w B g v xs pos once gone limit) : some g ≠ v.ownBlock := h.blk.ne h.own
theorem SrcIs.kept {S : Nat → Prop} (h : SrcIs w B g v xs pos once gone limit) (hk : Kp w w' S) (hg : ¬ S g) (hv : ∀ k, v.ownBlock = some k → ¬ S k) : SrcIs w' B g v xs pos once gone limit :=
  { h with blk := hk.heap h.blk hg, own := hk.own h.own hv }
theorem SrcIs.below (h : SrcIs w B g v xs pos once gone limit) (hb : Below w.heap.size w w') : SrcIs w' B g v xs pos once gone limit :=
  h.kept (Kp.of_below hb (fun _ => False)) (fun h => h) (fun _ _ h => h)

theorem SrcIs.form (h : SrcIs w B g v xs pos once gone limit) : ∃ A c, v = .slice A xs.length c ∧ xs.length ≤ c ∧ ReadsInt w .u8 A xs.length xs := by
  obtain ⟨A, c, rfl, hr⟩ := own_reads h.own
  refine ⟨A, c, rfl, ?_, hr⟩
  rcases h.own.2 with ⟨he, h0⟩ | ⟨g', cap', cur, he, _, _, hn, _⟩
  · rw [h0]; exact Nat.zero_le _
  · injection he with _ _ he; omega

/-- Total, Left. -/
theorem total_is (h : SrcIs w B g v xs pos once gone limit) :
    Calls Try.prog 16 #[.pointer (some ⟨g, 0, none⟩)] w fun e w' => e = .returned (.int .i64 (gone + xs.length)) ∧ Below w.heap.size w w' := by
  have := h.l1; have := h.l2; have := h.g0
  obtain ⟨A, c, rfl, hc, hr⟩ := h.form
  exact (total_any w g A xs.length c pos once gone limit h.blk h.g0 (by omega) (by omega)).mono fun e w' ⟨he, k, hk⟩ => ⟨he, by rw [hk]; exact drewN_below _ _⟩
theorem left_is (h : SrcIs w B g v xs pos once gone limit) :
    Calls Try.prog 15 #[.pointer (some ⟨g, 0, none⟩)] w fun e w' => e = .returned (.int .i64 (xs.length - pos)) ∧ Below w.heap.size w w' := by
  have := h.l1; have := h.l2; have := h.g0; have := h.o0; have := h.o1
  obtain ⟨A, c, rfl, hc, hr⟩ := h.form
  exact (left_any w g A xs.length c pos once gone limit h.blk h.p0 (by omega) (by omega)).mono fun e w' ⟨he, k, hk⟩ => ⟨he, by rw [hk]; exact drewN_below _ _⟩

/-- Peek. -/
theorem peek_is_no (h : SrcIs w B g v xs pos once gone limit) (m : Int) (hm : m < 0 ∨ (xs.length : Int) - pos < m) :
    Calls Try.prog 17 #[.pointer (some ⟨g, 0, none⟩), .int .i64 m] w fun e w' => e = .returned (.tuple #[.slice none 0 0, .bool false]) ∧ Below w.heap.size w w' := by
  have := h.l1; have := h.l2; have := h.g0; have := h.o0; have := h.o1
  obtain ⟨A, c, rfl, hc, hr⟩ := h.form
  exact peek_no w g A xs.length c pos once gone limit h.blk h.p0 (by omega) (by omega) m hm
theorem peek_is_yes (h : SrcIs w B g v xs pos once gone limit) (m : Int) (hm0 : 0 ≤ m) (hm : m ≤ (xs.length : Int) - pos) :
    Calls Try.prog 17 #[.pointer (some ⟨g, 0, none⟩), .int .i64 m] w fun e w' => ∃ gb : Nat, e = .returned (.tuple #[.slice (some ⟨gb, 0, none⟩) m.toNat m.toNat, .bool true]) ∧
      w'.ownsRow w.heap.size 5 1 (.slice (some ⟨gb, 0, none⟩) m.toNat m.toNat) m.toNat (nums .u8 ((xs.drop pos.toNat).take m.toNat)) ∧ Below w.heap.size w w' := by
  have := h.l1; have := h.l2; have := h.g0; have := h.o0; have := h.o1
  obtain ⟨A, c, rfl, hc, hr⟩ := h.form
  exact peek_yes w g A xs.length c pos once gone limit h.blk h.p0 (by omega) (by omega) xs hr hc m hm0 hm

/-- Take. -/
theorem take_is_no (h : SrcIs w B g v xs pos once gone limit) (m : Int) (hm : m < 0 ∨ (xs.length : Int) - pos < m) :
    Calls Try.prog 13 #[.pointer (some ⟨g, 0, none⟩), .int .i64 m] w fun e w' => e = .returned (.tuple #[.slice none 0 0, .bool false]) ∧ Below w.heap.size w w' := by
  have := h.l1; have := h.l2; have := h.g0; have := h.o0; have := h.o1
  obtain ⟨A, c, rfl, hc, hr⟩ := h.form
  exact take_no w g A xs.length c pos once gone limit h.blk h.p0 (by omega) (by omega) m hm
theorem take_is_yes (h : SrcIs w B g v xs pos once gone limit) (m : Int) (hm0 : 0 ≤ m) (hm : m ≤ (xs.length : Int) - pos) :
    Calls Try.prog 13 #[.pointer (some ⟨g, 0, none⟩), .int .i64 m] w fun e w' => ∃ gb : Nat, e = .returned (.tuple #[.slice (some ⟨gb, 0, none⟩) m.toNat m.toNat, .bool true]) ∧
      w'.ownsRow w.heap.size 5 1 (.slice (some ⟨gb, 0, none⟩) m.toNat m.toNat) m.toNat (nums .u8 ((xs.drop pos.toNat).take m.toNat)) ∧
      SrcIs w' B g v xs (pos + m) (max once (pos + m)) gone limit ∧ Kp w w' (fun k => k = g) := by
  have := h.l1; have := h.l2; have := h.g0; have := h.o0; have := h.o1; have := h.p0; have := h.o2
  have hne := h.ne
  have ho := h.own
  have hb := h.base
  obtain ⟨A, c, rfl, hc, hr⟩ := h.form
  refine (take_yes w g A xs.length c pos once gone limit h.blk h.p0 (by omega) (by omega) xs hr hc m hm0 hm).mono fun e w' ⟨gb, he, h1, h2, h3⟩ => ⟨gb, he, h1, ?_, h3⟩
  exact ⟨h2, h3.own ho (fun k hk e => hne (by rw [hk, e])), hb, by omega, by omega, by omega, by omega, by omega, by omega, by omega⟩

/-- Back. -/
theorem back_is_no (h : SrcIs w B g v xs pos once gone limit) (m : Int) (hm0 : 0 ≤ m) (hm : pos < m ∨ pos - m < once - 16) :
    Calls Try.prog 14 #[.pointer (some ⟨g, 0, none⟩), .int .i64 m] w fun e w' => e = .returned (.int .i64 60) ∧ Below w.heap.size w w' := by
  have := h.l1; have := h.l2; have := h.g0; have := h.o0; have := h.o1; have := h.p0
  exact back_no w g v pos once gone limit h.blk h.p0 (by omega) (by omega) (by omega) m hm0 hm
theorem back_is_yes (h : SrcIs w B g v xs pos once gone limit) (m : Int) (hm0 : 0 ≤ m) (hp : m ≤ pos) (hm : once - 16 ≤ pos - m) :
    Calls Try.prog 14 #[.pointer (some ⟨g, 0, none⟩), .int .i64 m] w fun e w' => e = .returned (.int .i64 0) ∧ SrcIs w' B g v xs (pos - m) once gone limit ∧ Kp w w' (fun k => k = g) := by
  have := h.l1; have := h.l2; have := h.g0; have := h.o0; have := h.o1; have := h.p0; have := h.o2
  have hne := h.ne
  refine (back_yes w g v pos once gone limit h.blk h.p0 (by omega) (by omega) (by omega) m hm0 hp hm).mono fun e w' ⟨he, h1, h2⟩ => ⟨he, ?_, h2⟩
  exact ⟨h1, h2.own h.own (fun k hk e => hne (by rw [hk, e])), h.base, by omega, by omega, by omega, by omega, by omega, by omega, by omega⟩

/-- Feed. -/
theorem feed_is_no (h : SrcIs w B g v xs pos once gone limit) (Ab : Option Addr) (m cb : Nat) (hm : limit < gone + xs.length + m) :
    Calls Try.prog 12 #[.pointer (some ⟨g, 0, none⟩), .slice Ab m cb] w fun e w' => e = .returned (.int .i64 2) ∧ Below w.heap.size w w' := by
  have := h.l1; have := h.l2; have := h.g0; have := h.o0; have := h.o1; have := h.p0
  obtain ⟨A, c, rfl, hc, hr⟩ := h.form
  exact feed_no w g A xs.length c pos once gone limit h.blk h.g0 (by omega) (by omega) (by omega) (by omega) Ab m cb (by omega)
theorem feed_is_yes (h : SrcIs w B g v xs pos once gone limit) (Ab : Option Addr) (m cb : Nat) (ys : List Int) (HR : ReadsInt w .u8 Ab m ys)
    (hap : ∀ ad, Ab = some ad → 0 < m → some ad.block ≠ v.ownBlock ∧ ad.block ≠ g) (hm : gone + xs.length + m ≤ limit) :
    Calls Try.prog 12 #[.pointer (some ⟨g, 0, none⟩), .slice Ab m cb] w fun e w' => ∃ (d : Nat) (v' : Value), e = .returned (.int .i64 0) ∧ (d : Int) ≤ pos ∧ (d = 0 ∨ (d : Int) = once - 16) ∧
      SrcIs w' B g v' (xs.drop d ++ ys) (pos - d) (once - d) (gone + d) limit ∧ Kp w w' (fun k => k = g ∨ v.ownBlock = some k) ∧
      (v'.ownBlock = v.ownBlock ∨ ∃ b, v'.ownBlock = some b ∧ w.heap.size ≤ b) := by
  have := h.l1; have := h.l2; have := h.g0; have := h.o0; have := h.o1; have := h.p0; have := h.o2
  have hb := h.base
  have ho := h.own
  have hyl := HR.1
  obtain ⟨A, c, rfl, hc, hr⟩ := h.form
  by_cases hold : once - 16 ≤ ((xs.length / 2 : Nat) : Int)
  · refine (feed_plain w B g A xs.length c pos once gone limit h.blk h.g0 (by omega) (by omega) (by omega) (by omega) (by omega) (by omega) xs ho h.hB Ab m cb ys HR (by omega) hold).mono fun e w' ⟨A', c', he, h1, h2, h3, h4⟩ => ?_
    refine ⟨0, _, he, by omega, .inl rfl, ⟨by simpa using h1, own_len (by simp [hyl]) h2, hb, by omega, by omega, ?_, by omega, by omega, ?_, by omega⟩, h3, h4⟩
    · simp only [List.drop_zero, List.length_append]; omega
    · simp only [List.drop_zero, List.length_append]; omega
  · obtain ⟨d, hd⟩ := Int.eq_ofNat_of_zero_le (show 0 ≤ once - 16 by omega)
    refine (feed_shift w B g A xs.length c pos once gone limit h.blk h.g0 (by omega) (by omega) (by omega) (by omega) h.o1 h.p0 (by omega) xs ho h.hB Ab m cb ys HR hap (by omega) d hd.symm (by omega)).mono fun e w' ⟨A', c', he, h1, h2, h3, h4⟩ => ?_
    refine ⟨d, _, he, by omega, .inr hd.symm, ⟨h1, own_len (by simp [hyl]) h2, hb, by omega, by omega, ?_, by omega, by omega, ?_, by omega⟩, h3, h4⟩
    · simp only [List.length_append, List.length_drop]; omega
    · simp only [List.length_append, List.length_drop]; omega
end

set_option maxHeartbeats 400000 in
set_option maxRecDepth 100000 in
/-- New, where the limit is none. -/
theorem new_no (w : World) (limit : Int) (h : limit < 0 ∨ 65536 < limit) : Calls Try.prog 8 #[.int .i64 limit] w fun e w' => e = .returned (.tuple #[.pointer none, .int .i64 1]) ∧ w = w' := by
  by_cases h0 : limit < 0
  · clear h
    have hd : decide (limit < 0) = true := decide_eq_true h0
    go_enter Try.func8, Try.ntmps8
    go_wp2
    go_ret2
    exact ⟨rfl, rfl⟩
  · have h1 : 65536 < limit := by omega
    clear h
    have hd : decide (limit < 0) = false := decide_eq_false h0
    have hd1 : decide (65536 < limit) = true := decide_eq_true h1
    go_enter Try.func8, Try.ntmps8
    go_wp2
    go_ret2
    exact ⟨rfl, rfl⟩

theorem src_new (w : World) (limit : Int) (h0 : 0 ≤ limit) (h1 : limit ≤ 65536) : SrcIs (w.alloc (.cells #[.slice none 0 0, .int .i64 0, .int .i64 0, .int .i64 0, .int .i64 limit] 48)) w.heap.size w.heap.size (.slice none 0 0) [] 0 0 0 limit :=
  ⟨heap_alloc_new w _, own_nil _ _ _ _, Nat.le_refl _, by omega, by omega, by simp, by omega, by omega, by simpa using h0, h1⟩

set_option maxHeartbeats 400000 in
set_option maxRecDepth 100000 in
theorem new_yes (w : World) (limit : Int) (h0 : 0 ≤ limit) (h1 : limit ≤ 65536) : Calls Try.prog 8 #[.int .i64 limit] w fun e w' => e = .returned (.tuple #[.pointer (some ⟨w.heap.size, 0, none⟩), .int .i64 0]) ∧
    SrcIs w' w.heap.size w.heap.size (.slice none 0 0) [] 0 0 0 limit ∧ Below w.heap.size w w' := by
  have hd : decide (limit < 0) = false := decide_eq_false (by omega)
  have hd1 : decide (65536 < limit) = false := decide_eq_false (by omega)
  have HS := Lib.hid (src_new w limit h0 h1)
  go_enter Try.func8, Try.ntmps8
  go_wp2
  go_ret2
  exact ⟨rfl, HS.out, (Below.refl _ _).alloc (Nat.le_refl _) _⟩
end Go.Proofs.Yticcfpbeejakhaa
