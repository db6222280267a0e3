/- json's reader: values at a bracket. json's reader: an object that stands for a tag. json.Read of the tag. -/
import Derived.Test.YtcpgcjmamjjokaaGreatDoorGf
import Derived.Deep.RegionHeld3
namespace Go.Proofs.YtcpgcjmamjjokaaGreatDoor
open Go.RowKit Go.Maps Go.Proofs.YtcpgcjmamjjokaaGreatDoorW.PrintWords Go.Proofs.YtcpgcjmamjjokaaGreatDoorW.PrintLast Go.Proofs.YtcpgcjmamjjokaaGreatDoorW.PrintMore Go.Proofs.YtcpgcjmamjjokaaGreatDoor.PTopLimits
set_option linter.unusedVariables false
set_option linter.unusedSimpArgs false
/-- A value with a kind, a text and a list. -/
def objL (k : Int) (t : ByteArray) (A : Option Addr) (n c : Nat) : List Value := [.int .i64 k, .bool false, .bool false, .string ⟨#[]⟩, .int .i64 0, .int .u64 0, .string t, .slice none 0 0, .slice A n c]
set_option maxHeartbeats 6400000 in
set_option maxRecDepth 100000 in
/-- At a brace. -/
theorem jvalue_obj {Z : Type} (R : Nat) (l r : List UInt8) (k : Int) (t : ByteArray) (A : Z → Option Addr) (n c : Z → Nat) (Q : Z → World → Prop) (w : World) (h : JR R (123 :: l) w)
    (hobj : ∀ W, JR R l W → Kp w W (· = R) → w.heap.size + 2 ≤ W.heap.size → Calls Tryz.prog 225 #[.pointer (some ⟨R, 0, none⟩)] W fun e W' => ∃ z, e = .returned (.agg (objL k t (A z) (n z) (c z)).toArray) ∧ JR R r W' ∧ Kp W W' (· = R) ∧ Q z W')
    (hQ : ∀ z W W', Q z W → Kp W W' (fun i => i = w.heap.size + 1) → Q z W') :
    Val R r (fun z => objL k t (A z) (n z) (c z)) Q w := by
  unfold Val
  have hC := Lib.hid (fun c l a p hne w h => jcomes_no R c l a p hne w h)
  have hY := Lib.hid (fun c l w h => jcomes_yes R c l w h)
  have hP := Lib.hid (fun l w => Tryz.strings_HasPrefix ⟨(123 :: l).toArray⟩ ⟨#[34]⟩ w)
  replace h := Lib.hid h
  unfold objL at *
  replace hobj := Lib.hid hobj
  replace hQ := Lib.hid hQ
  go_enter Tryz.func183, Tryz.ntmps183
  go_wp2_with fail
  generalize hw1 : World.alloc _ _ = w1
  obtain ⟨X, hXe⟩ : ∃ X, w.heap.size = X := ⟨_, rfl⟩
  rw [hXe]
  obtain ⟨j1, x1, z1, K1⟩ : JR R (123 :: l) w1 ∧ w1.heap[X]? = some (.cells #[.pointer (some ⟨R, 0, none⟩)] 255 (0, 0)) ∧ w1.heap[X + 1]? = some (.cells #[.int .i64 0, .bool false, .bool false, .string ⟨#[]⟩, .int .i64 0, .int .u64 0, .string ⟨#[]⟩, .slice none 0 0, .slice none 0 0] 36 (0, 0)) ∧ Kp w w1 (· = R) := by
    subst hw1 hXe
    exact ⟨(h.out.below (below_alloc (Below.refl _ _) _)).below (below_alloc (Below.refl _ _) _), blk_alloc (heap_alloc_new _ _) _, alloc2 _ _ _, ((Kp.refl w _).alloc _).alloc _⟩
  have hRX : R < X := by rw [← hXe]; exact blk_lt h.out
  have hwX : w.heap.size ≤ X := Nat.le_of_eq hXe
  have hsz1 : X + 2 ≤ w1.heap.size := blk_lt z1
  rw [hXe] at hQ hobj
  clear hw1 hXe
  replace K1 := Lib.hid K1
  replace hwX := Lib.hid hwX
  obtain ⟨rc0, rc1, rf0, rf1⟩ := blk2 j1
  obtain ⟨xc, xf⟩ := blk1 x1
  obtain ⟨zc0, zc1, zc2, zc3, zc4, zc5, zc6, zc7, zc8, zf0, zf1, zf2, zf3, zf4, zf5, zf6, zf7, zf8⟩ := blk9 z1
  have lj1 := blk_lt j1
  have lx1 := blk_lt x1
  have lz1 := blk_lt z1
  replace j1 := Lib.hid j1
  replace x1 := Lib.hid x1
  replace z1 := Lib.hid z1
  refine (hC.out 123 _ 110 [117, 108, 108] (by decide) _ j1.out).mono ?_
  rintro e w2 ⟨rfl, j2, q2⟩
  have x2 := q2.heap x1.out (by omega)
  have z2 := q2.heap z1.out (by omega)
  have K2 := Lib.hid (K1.out.trans q2 (fun _ hi => .inl hi))
  clear q2 K1 x1 z1 j1 lj1 lx1 lz1 rc0 rc1 rf0 rf1 xc xf zc0 zc1 zc2 zc3 zc4 zc5 zc6 zc7 zc8 zf0 zf1 zf2 zf3 zf4 zf5 zf6 zf7 zf8
  obtain ⟨rc0, rc1, rf0, rf1⟩ := blk2 j2
  obtain ⟨xc, xf⟩ := blk1 x2
  obtain ⟨zc0, zc1, zc2, zc3, zc4, zc5, zc6, zc7, zc8, zf0, zf1, zf2, zf3, zf4, zf5, zf6, zf7, zf8⟩ := blk9 z2
  have lj2 := blk_lt j2
  have lx2 := blk_lt x2
  have lz2 := blk_lt z2
  replace j2 := Lib.hid j2
  replace x2 := Lib.hid x2
  replace z2 := Lib.hid z2
  go_wp2_with fail
  refine (hC.out 123 _ 102 [97, 108, 115, 101] (by decide) _ j2.out).mono ?_
  rintro e w3 ⟨rfl, j3, q3⟩
  have x3 := q3.heap x2.out (by omega)
  have z3 := q3.heap z2.out (by omega)
  have K3 := Lib.hid (K2.out.trans q3 (fun _ hi => .inl hi))
  clear q3 K2 x2 z2 j2 lj2 lx2 lz2 rc0 rc1 rf0 rf1 xc xf zc0 zc1 zc2 zc3 zc4 zc5 zc6 zc7 zc8 zf0 zf1 zf2 zf3 zf4 zf5 zf6 zf7 zf8
  obtain ⟨rc0, rc1, rf0, rf1⟩ := blk2 j3
  obtain ⟨xc, xf⟩ := blk1 x3
  obtain ⟨zc0, zc1, zc2, zc3, zc4, zc5, zc6, zc7, zc8, zf0, zf1, zf2, zf3, zf4, zf5, zf6, zf7, zf8⟩ := blk9 z3
  have lj3 := blk_lt j3
  have lx3 := blk_lt x3
  have lz3 := blk_lt z3
  replace j3 := Lib.hid j3
  replace x3 := Lib.hid x3
  replace z3 := Lib.hid z3
  go_wp2_with fail
  refine (hC.out 123 _ 116 [114, 117, 101] (by decide) _ j3.out).mono ?_
  rintro e w4 ⟨rfl, j4, q4⟩
  have x4 := q4.heap x3.out (by omega)
  have z4 := q4.heap z3.out (by omega)
  have K4 := Lib.hid (K3.out.trans q4 (fun _ hi => .inl hi))
  clear q4 K3 x3 z3 j3 lj3 lx3 lz3 rc0 rc1 rf0 rf1 xc xf zc0 zc1 zc2 zc3 zc4 zc5 zc6 zc7 zc8 zf0 zf1 zf2 zf3 zf4 zf5 zf6 zf7 zf8
  obtain ⟨rc0, rc1, rf0, rf1⟩ := blk2 j4
  obtain ⟨xc, xf⟩ := blk1 x4
  obtain ⟨zc0, zc1, zc2, zc3, zc4, zc5, zc6, zc7, zc8, zf0, zf1, zf2, zf3, zf4, zf5, zf6, zf7, zf8⟩ := blk9 z4
  have lj4 := blk_lt j4
  have lx4 := blk_lt x4
  have lz4 := blk_lt z4
  replace j4 := Lib.hid j4
  replace x4 := Lib.hid x4
  replace z4 := Lib.hid z4
  go_wp2_with fail
  refine (hP.out _ _).mono ?_
  rintro e w5 ⟨rfl, rfl⟩
  have hpf : Lib.hasPrefix (⟨(123 :: l).toArray⟩ : ByteArray).data.toList (⟨#[34]⟩ : ByteArray).data.toList = false := by simp [Lib.hasPrefix, List.isPrefixOf]
  rw [hpf]
  clear hpf hP
  go_wp2_with fail
  refine (hC.out 123 _ 91 [] (by decide) _ j4.out).mono ?_
  rintro e w5 ⟨rfl, j5, q5⟩
  have x5 := q5.heap x4.out (by omega)
  have z5 := q5.heap z4.out (by omega)
  have K5 := Lib.hid (K4.out.trans q5 (fun _ hi => .inl hi))
  clear q5 K4 x4 z4 j4 lj4 lx4 lz4 rc0 rc1 rf0 rf1 xc xf zc0 zc1 zc2 zc3 zc4 zc5 zc6 zc7 zc8 zf0 zf1 zf2 zf3 zf4 zf5 zf6 zf7 zf8
  obtain ⟨rc0, rc1, rf0, rf1⟩ := blk2 j5
  obtain ⟨xc, xf⟩ := blk1 x5
  obtain ⟨zc0, zc1, zc2, zc3, zc4, zc5, zc6, zc7, zc8, zf0, zf1, zf2, zf3, zf4, zf5, zf6, zf7, zf8⟩ := blk9 z5
  have lj5 := blk_lt j5
  have lx5 := blk_lt x5
  have lz5 := blk_lt z5
  replace j5 := Lib.hid j5
  replace x5 := Lib.hid x5
  replace z5 := Lib.hid z5
  go_wp2_with fail
  refine (hY.out 123 l _ j5.out).mono ?_
  rintro e w6 ⟨rfl, j6, q6⟩
  have x6 := q6.heap x5.out (by omega)
  have z6 := q6.heap z5.out (by omega)
  have K6 := Lib.hid (K5.out.trans q6 (fun _ hi => .inl hi))
  clear q6 K5 x5 z5 j5 lj5 lx5 lz5 rc0 rc1 rf0 rf1 xc xf zc0 zc1 zc2 zc3 zc4 zc5 zc6 zc7 zc8 zf0 zf1 zf2 zf3 zf4 zf5 zf6 zf7 zf8
  obtain ⟨rc0, rc1, rf0, rf1⟩ := blk2 j6
  obtain ⟨xc, xf⟩ := blk1 x6
  obtain ⟨zc0, zc1, zc2, zc3, zc4, zc5, zc6, zc7, zc8, zf0, zf1, zf2, zf3, zf4, zf5, zf6, zf7, zf8⟩ := blk9 z6
  have lj6 := blk_lt j6
  have lx6 := blk_lt x6
  have lz6 := blk_lt z6
  replace j6 := Lib.hid j6
  replace x6 := Lib.hid x6
  replace z6 := Lib.hid z6
  go_wp2_with fail
  have hs6 : X + 2 ≤ w6.heap.size := lz6
  refine (hobj.out _ j6.out K6.out hs6).mono ?_
  rintro e w7 ⟨z, rfl, j7, q7, hq7⟩
  have x7 := q7.heap x6.out (by omega)
  have z7 := q7.heap z6.out (by omega)
  have K7 := Lib.hid (K6.out.trans q7 (fun _ hi => .inl hi))
  clear q7 K6 x6 z6 j6 lj6 lx6 lz6 rc0 rc1 rf0 rf1 xc xf zc0 zc1 zc2 zc3 zc4 zc5 zc6 zc7 zc8 zf0 zf1 zf2 zf3 zf4 zf5 zf6 zf7 zf8
  obtain ⟨rc0, rc1, rf0, rf1⟩ := blk2 j7
  obtain ⟨xc, xf⟩ := blk1 x7
  obtain ⟨zc0, zc1, zc2, zc3, zc4, zc5, zc6, zc7, zc8, zf0, zf1, zf2, zf3, zf4, zf5, zf6, zf7, zf8⟩ := blk9 z7
  have lj7 := blk_lt j7
  have lx7 := blk_lt x7
  have lz7 := blk_lt z7
  replace j7 := Lib.hid j7
  replace x7 := Lib.hid x7
  replace z7 := Lib.hid z7
  go_wp2_with fail
  refine bodyPost_ret (results_cell_row rfl _ _ (X + 1) 36 #[.int .i64 k, .bool false, .bool false, .string ⟨#[]⟩, .int .i64 0, .int .u64 0, .string t, .slice none 0 0, .slice (A z) (n z) (c z)] (0, 0) _ rfl (set9_heap z7.out) Tryz.underlying36 rfl (by kernel_rfl)) rfl ?_
  exact ⟨z, rfl, j7.out.kp (set9_kp _ _ _ _ _ _ _ _ _ _ _) (by omega), K7.out.trans (set9_kp _ _ _ _ _ _ _ _ _ _ _) (fun i hi => .inr (by have := hwX.out; omega)), hQ.out _ _ _ hq7 (set9_kp _ _ _ _ _ _ _ _ _ _ _)⟩
theorem ElemPost0.jr {R V b lc : Nat} {LA : Option Addr} {l' : List UInt8} {v0 v1 v2 v3 v4 v5 v6 v7 u0 u1 u2 u3 u4 u5 u6 u7 u8 : Value} {Q : World → Prop} {w w' : World} (h : ElemPost0 R V b lc LA l' v0 v1 v2 v3 v4 v5 v6 v7 u0 u1 u2 u3 u4 u5 u6 u7 u8 Q w w') : JR R l' w' := by
  obtain ⟨g, cap, _, _, h, _⟩ := h
  exact h
/-- The list that a tag stands as. -/
def tagRow : List Value := [.int .i64 5, .bool false, .bool false, .string ⟨#[]⟩, .int .i64 0, .int .u64 0, .string ⟨#[116]⟩, .slice none 0 0, .slice none 0 0] ++ [.int .i64 6, .bool false, .bool false, .string ⟨#[]⟩, .int .i64 0, .int .u64 0, .string ⟨#[0]⟩, .slice none 0 0, .slice none 0 0]
set_option maxHeartbeats 6400000 in
set_option maxRecDepth 100000 in
/-- At a bracket: a text and a value at a brace. -/
theorem jvalue_list (R : Nat) (l l2 r : List UInt8) (hl2 : l = 34 :: [116] ++ 34 :: 44 :: 123 :: l2) (w : World) (h : JR R (91 :: l) w) (hT : Lib.Utf8Tabs 0 1 w) (hR : 2 ≤ R)
    (hkid : ∀ W, JR R (123 :: l2) W → Lib.Utf8Tabs 0 1 W → Val R (93 :: r) (fun _ : Unit => objL 6 ⟨#[0]⟩ none 0 0) (fun _ _ => True) W) :
    Val R r (fun z : Nat × Nat × Nat => objL 7 ⟨#[]⟩ (some ⟨z.2.1, 0, none⟩) 2 z.2.2) (fun z W => W.ownsRow z.1 36 9 (.slice (some ⟨z.2.1, 0, none⟩) 2 z.2.2) 2 tagRow ∧ w.heap.size + 2 ≤ z.2.1) w := by
  unfold Val
  have hC := Lib.hid (fun c l a p hne w h => jcomes_no R c l a p hne w h)
  have hY := Lib.hid (fun c l w h => jcomes_yes R c l w h)
  have hP := Lib.hid (fun l w => Tryz.strings_HasPrefix ⟨(91 :: l).toArray⟩ ⟨#[34]⟩ w)
  replace h := Lib.hid h
  replace hT := Lib.hid hT
  unfold objL at *
  replace hkid := Lib.hid hkid
  replace hl2 := Lib.hid hl2
  go_enter Tryz.func183, Tryz.ntmps183
  go_wp2_with fail
  generalize hw1 : World.alloc _ _ = w1
  obtain ⟨X, hXe⟩ : ∃ X, w.heap.size = X := ⟨_, rfl⟩
  rw [hXe]
  obtain ⟨j1, x1, z1, K1⟩ : JR R (91 :: l) w1 ∧ w1.heap[X]? = some (.cells #[.pointer (some ⟨R, 0, none⟩)] 255 (0, 0)) ∧ w1.heap[X + 1]? = some (.cells #[.int .i64 0, .bool false, .bool false, .string ⟨#[]⟩, .int .i64 0, .int .u64 0, .string ⟨#[]⟩, .slice none 0 0, .slice none 0 0] 36 (0, 0)) ∧ Kp w w1 (· = R) := by
    subst hw1 hXe
    exact ⟨(h.out.below (below_alloc (Below.refl _ _) _)).below (below_alloc (Below.refl _ _) _), blk_alloc (heap_alloc_new _ _) _, alloc2 _ _ _, ((Kp.refl w _).alloc _).alloc _⟩
  have hRX : R < X := by rw [← hXe]; exact blk_lt h.out
  have hwX : w.heap.size ≤ X := Nat.le_of_eq hXe
  clear hw1 hXe
  replace K1 := Lib.hid K1
  replace hwX := Lib.hid hwX
  obtain ⟨rc0, rc1, rf0, rf1⟩ := blk2 j1
  obtain ⟨xc, xf⟩ := blk1 x1
  obtain ⟨zc0, zc1, zc2, zc3, zc4, zc5, zc6, zc7, zc8, zf0, zf1, zf2, zf3, zf4, zf5, zf6, zf7, zf8⟩ := blk9 z1
  have lj1 := blk_lt j1
  have lx1 := blk_lt x1
  have lz1 := blk_lt z1
  replace j1 := Lib.hid j1
  replace x1 := Lib.hid x1
  replace z1 := Lib.hid z1
  refine (hC.out 91 _ 110 [117, 108, 108] (by decide) _ j1.out).mono ?_
  rintro e w2 ⟨rfl, j2, q2⟩
  have x2 := q2.heap x1.out (by omega)
  have z2 := q2.heap z1.out (by omega)
  have K2 := Lib.hid (K1.out.trans q2 (fun _ hi => .inl hi))
  clear q2 K1 x1 z1 j1 lj1 lx1 lz1 rc0 rc1 rf0 rf1 xc xf zc0 zc1 zc2 zc3 zc4 zc5 zc6 zc7 zc8 zf0 zf1 zf2 zf3 zf4 zf5 zf6 zf7 zf8
  obtain ⟨rc0, rc1, rf0, rf1⟩ := blk2 j2
  obtain ⟨xc, xf⟩ := blk1 x2
  obtain ⟨zc0, zc1, zc2, zc3, zc4, zc5, zc6, zc7, zc8, zf0, zf1, zf2, zf3, zf4, zf5, zf6, zf7, zf8⟩ := blk9 z2
  have lj2 := blk_lt j2
  have lx2 := blk_lt x2
  have lz2 := blk_lt z2
  replace j2 := Lib.hid j2
  replace x2 := Lib.hid x2
  replace z2 := Lib.hid z2
  go_wp2_with fail
  refine (hC.out 91 _ 102 [97, 108, 115, 101] (by decide) _ j2.out).mono ?_
  rintro e w3 ⟨rfl, j3, q3⟩
  have x3 := q3.heap x2.out (by omega)
  have z3 := q3.heap z2.out (by omega)
  have K3 := Lib.hid (K2.out.trans q3 (fun _ hi => .inl hi))
  clear q3 K2 x2 z2 j2 lj2 lx2 lz2 rc0 rc1 rf0 rf1 xc xf zc0 zc1 zc2 zc3 zc4 zc5 zc6 zc7 zc8 zf0 zf1 zf2 zf3 zf4 zf5 zf6 zf7 zf8
  obtain ⟨rc0, rc1, rf0, rf1⟩ := blk2 j3
  obtain ⟨xc, xf⟩ := blk1 x3
  obtain ⟨zc0, zc1, zc2, zc3, zc4, zc5, zc6, zc7, zc8, zf0, zf1, zf2, zf3, zf4, zf5, zf6, zf7, zf8⟩ := blk9 z3
  have lj3 := blk_lt j3
  have lx3 := blk_lt x3
  have lz3 := blk_lt z3
  replace j3 := Lib.hid j3
  replace x3 := Lib.hid x3
  replace z3 := Lib.hid z3
  go_wp2_with fail
  refine (hC.out 91 _ 116 [114, 117, 101] (by decide) _ j3.out).mono ?_
  rintro e w4 ⟨rfl, j4, q4⟩
  have x4 := q4.heap x3.out (by omega)
  have z4 := q4.heap z3.out (by omega)
  have K4 := Lib.hid (K3.out.trans q4 (fun _ hi => .inl hi))
  clear q4 K3 x3 z3 j3 lj3 lx3 lz3 rc0 rc1 rf0 rf1 xc xf zc0 zc1 zc2 zc3 zc4 zc5 zc6 zc7 zc8 zf0 zf1 zf2 zf3 zf4 zf5 zf6 zf7 zf8
  obtain ⟨rc0, rc1, rf0, rf1⟩ := blk2 j4
  obtain ⟨xc, xf⟩ := blk1 x4
  obtain ⟨zc0, zc1, zc2, zc3, zc4, zc5, zc6, zc7, zc8, zf0, zf1, zf2, zf3, zf4, zf5, zf6, zf7, zf8⟩ := blk9 z4
  have lj4 := blk_lt j4
  have lx4 := blk_lt x4
  have lz4 := blk_lt z4
  replace j4 := Lib.hid j4
  replace x4 := Lib.hid x4
  replace z4 := Lib.hid z4
  go_wp2_with fail
  refine (hP.out _ _).mono ?_
  rintro e w5 ⟨rfl, rfl⟩
  have hpf : Lib.hasPrefix (⟨(91 :: l).toArray⟩ : ByteArray).data.toList (⟨#[34]⟩ : ByteArray).data.toList = false := by simp [Lib.hasPrefix, List.isPrefixOf]
  rw [hpf]
  clear hpf hP
  go_wp2_with fail
  refine (hY.out 91 l _ j4.out).mono ?_
  rintro e w5 ⟨rfl, j5, q5⟩
  have x5 := q5.heap x4.out (by omega)
  have z5 := q5.heap z4.out (by omega)
  have K5 := Lib.hid (K4.out.trans q5 (fun _ hi => .inl hi))
  clear q5 K4 x4 z4 j4 lj4 lx4 lz4 rc0 rc1 rf0 rf1 xc xf zc0 zc1 zc2 zc3 zc4 zc5 zc6 zc7 zc8 zf0 zf1 zf2 zf3 zf4 zf5 zf6 zf7 zf8
  obtain ⟨rc0, rc1, rf0, rf1⟩ := blk2 j5
  obtain ⟨xc, xf⟩ := blk1 x5
  obtain ⟨zc0, zc1, zc2, zc3, zc4, zc5, zc6, zc7, zc8, zf0, zf1, zf2, zf3, zf4, zf5, zf6, zf7, zf8⟩ := blk9 z5
  have lj5 := blk_lt j5
  have lx5 := blk_lt x5
  have lz5 := blk_lt z5
  replace j5 := Lib.hid j5
  replace x5 := Lib.hid x5
  replace z5 := Lib.hid z5
  go_wp2_with fail
  generalize hwA : World.alloc w5 _ = wA
  obtain ⟨vA, BA⟩ := alloc_at hwA
  clear hwA
  have xA := blk_below x5.out BA
  have zA := blk_below z5.out BA
  have jA := j5.out.below BA
  have KA := Lib.hid (K5.out.below BA)
  obtain ⟨V, hVe⟩ : ∃ V, w5.heap.size = V := ⟨_, rfl⟩
  rw [hVe] at vA
  rw [hVe]
  have hXV : X + 1 < V := by rw [← hVe]; exact lz5
  have hTA := KA.out.tabs hT.out (by omega) (by omega)
  clear K5 x5 z5 j5 lj5 lx5 lz5 rc0 rc1 rf0 rf1 xc xf zc0 zc1 zc2 zc3 zc4 zc5 zc6 zc7 zc8 zf0 zf1 zf2 zf3 zf4 zf5 zf6 zf7 zf8 BA hVe
  replace hl2 := hl2.out
  subst hl2
  have hVA := blk_lt vA
  refine (jlist2 R 224 #[.pointer (some ⟨V, 0, none⟩), .pointer (some ⟨X, 0, none⟩)] (fun w => enters_ Tryz.func224 (by kernel_rfl) rfl _ w) 93 34 123 _ l2 r (by decide) (by decide) rfl rfl rfl
    (fun W => ∃ (z : Unit) (WA : World), Kp wA WA (· = R) ∧ ElemPost0 R V WA.heap.size 0 none (44 :: 123 :: l2) (.int .i64 7) (.bool false) (.bool false) (.string ⟨#[]⟩) (.int .i64 0) (.int .u64 0) (.string ⟨#[]⟩) (.slice none 0 0) (.int .i64 5) (.bool false) (.bool false) (.string ⟨#[]⟩) (.int .i64 0) (.int .u64 0) (.string ⟨#[116]⟩) (.slice none 0 0) (.slice none 0 0) (fun _ => True) WA W)
    (fun W => ∃ (b g cap : Nat), W.heap[V]? = some (.cells #[.int .i64 7, .bool false, .bool false, .string ⟨#[]⟩, .int .i64 0, .int .u64 0, .string ⟨#[]⟩, .slice none 0 0, .slice (some ⟨g, 0, none⟩) 2 cap] 36 (0, 0)) ∧ W.ownsRow b 36 9 (.slice (some ⟨g, 0, none⟩) 2 cap) 2 tagRow ∧ Kp wA W (fun i => i = R ∨ i = V) ∧ V < g) wA jA ?_ ?_).mono ?_
  · intro W jW KW
    refine (jelem0 R V X W.heap.size 0 none _ (44 :: 123 :: l2) _ _ _ _ _ _ _ _ (Z := Unit) (fun _ => .int .i64 5) (fun _ => .bool false) (fun _ => .bool false) (fun _ => .string ⟨#[]⟩) (fun _ => .int .i64 0) (fun _ => .int .u64 0) (fun _ => .string ⟨#[116]⟩) (fun _ => .slice none 0 0) (fun _ => .slice none 0 0) (fun _ => by simp [Value.oneCell']) (fun _ _ => True) W (KW.heap vA (by omega)) (KW.heap xA (by omega)) (World.ownsRow_nil _ _ _ _) (Nat.le_refl _) jW (by omega) (by omega) (by omega) (by intro h; cases h) (by intro h; cases h) (by intro h; cases h) ?_ (fun _ _ _ _ _ => trivial)).mono ?_
    · intro W2 hb
      refine (jvalue_text R [116] (44 :: 123 :: l2) (by unfold Plain; decide) (by decide) (by decide) W2 (jW.below hb) (Utf8Tabs_below (KW.tabs hTA (by omega) (by omega)) hb) hR).mono ?_
      rintro e W' ⟨rfl, a1, a2⟩
      exact ⟨(), rfl, a1, a2, trivial⟩
    · rintro e W' ⟨rfl, z, hp⟩
      exact ⟨rfl, hp.jr, z, W, KW, hp⟩
  · rintro W W0 jW ⟨z, WA, KW0, g, cap, mV, hown, mj, mQ, mK, mg, mgV, mgR⟩ KW
    have hgA : wA.heap.size ≤ g := by
      rcases mg with e | e
      · cases e
      · exact Nat.le_trans KW0.size e
    have hVW : ∀ {o}, W0.heap[V]? = some o → W.heap[V]? = some o := fun h => KW.heap h (by omega)
    have hno : ∀ k : Nat, ¬ (some k = (Value.slice none 0 0).ownBlock) := by intro k h; cases h
    have K0 : Kp wA W0 (fun i => i = R ∨ i = V) := (KW0.mono (fun i hi => .inl hi)).trans mK (fun i hi => .inl (by rcases hi with h | h | h; exact .inl h; exact .inr h; exact absurd h (hno i)))
    have K1' : Kp wA W (fun i => i = R ∨ i = V) := K0.trans KW (fun i hi => .inl (.inl hi))
    have hXW := K1'.heap xA (by omega)
    have hownW := KW.own hown (fun k hk e => by simp [Value.ownBlock] at hk; omega)
    refine (jelem1 R V X WA.heap.size cap (some ⟨g, 0, none⟩) _ (93 :: r) _ _ _ _ _ _ _ _ _ _ _ _ _ _ _ _ _ (Z := Unit) (fun _ => .int .i64 6) (fun _ => .bool false) (fun _ => .bool false) (fun _ => .string ⟨#[]⟩) (fun _ => .int .i64 0) (fun _ => .int .u64 0) (fun _ => .string ⟨#[0]⟩) (fun _ => .slice none 0 0) (fun _ => .slice none 0 0) (fun _ => by simp [Value.oneCell']) (fun _ _ => True) W (hVW mV) hXW hownW (Nat.le_trans mK.size KW.size) jW (by omega) (by omega) (by omega) (by intro h; simp [Value.ownBlock] at h; omega) (by intro h; simp [Value.ownBlock] at h; omega) (by intro h; simp [Value.ownBlock] at h; omega) ?_ (fun _ _ _ _ _ => trivial)).mono ?_
    · intro W2 hb
      exact hkid.out W2 (jW.below hb) (Utf8Tabs_below (K1'.tabs hTA (by omega) (by omega)) hb)
    · rintro e W' ⟨rfl, z2, g2, cap2, mV2, hown2, mj2, mQ2, mK2, mg2, mgV2, mgR2⟩
      refine ⟨rfl, mj2, WA.heap.size, g2, cap2, mV2, hown2, K1'.trans mK2 (fun i hi => ?_), ?_⟩
      · rcases hi with h | h | h
        · exact .inl (.inl h)
        · exact .inl (.inr h)
        · simp [Value.ownBlock] at h
          exact .inr (by omega)
      · rcases mg2 with e | e
        · simp [Value.ownBlock] at e
          omega
        · have := K1'.size
          omega
  · rintro e w7 ⟨rfl, j7, W, ⟨b, g, cap, mV, hown, KM, hVg⟩, KW⟩
    have K7 := KM.trans KW (fun i hi => .inl (.inl hi))
    have z7 := K7.heap zA (by omega)
    have v7 := KW.heap mV (by omega)
    have hown7 := KW.own hown (fun k hk e => by simp [Value.ownBlock] at hk; omega)
    have K8 := Lib.hid (KA.out.trans K7 (fun i hi => by rcases hi with h | h; exact .inl h; exact .inr (by have := hwX.out; omega)))
    obtain ⟨zc0, zc1, zc2, zc3, zc4, zc5, zc6, zc7, zc8, zf0, zf1, zf2, zf3, zf4, zf5, zf6, zf7, zf8⟩ := blk9 z7
    obtain ⟨vc0, vc1, vc2, vc3, vc4, vc5, vc6, vc7, vc8, vf0, vf1, vf2, vf3, vf4, vf5, vf6, vf7, vf8⟩ := blk9 v7
    have lz7 := blk_lt z7
    have lv7 := blk_lt v7
    replace z7 := Lib.hid z7
    replace j7 := Lib.hid j7
    replace hown7 := Lib.hid hown7
    clear KA KM KW K7 mV hown xA zA vA jA hTA v7
    go_wp2_with fail
    refine bodyPost_ret (results_cell_row rfl _ _ (X + 1) 36 #[.int .i64 7, .bool false, .bool false, .string ⟨#[]⟩, .int .i64 0, .int .u64 0, .string ⟨#[]⟩, .slice none 0 0, .slice (some ⟨g, 0, none⟩) 2 cap] (0, 0) _ rfl (set9_heap z7.out) Tryz.underlying36 rfl (by kernel_rfl)) rfl ?_
    exact ⟨(b, g, cap), rfl, j7.out.kp (set9_kp _ _ _ _ _ _ _ _ _ _ _) (by omega), K8.out.trans (set9_kp _ _ _ _ _ _ _ _ _ _ _) (fun i hi => .inr (by have := hwX.out; omega)), (set9_kp _ _ _ _ _ _ _ _ _ _ _).own hown7.out (fun k hk e => by simp [Value.ownBlock] at hk; omega), by have := hwX.out; show w.heap.size + 2 ≤ g; omega⟩
end Go.Proofs.YtcpgcjmamjjokaaGreatDoor
namespace Go.Proofs.YtcpgcjmamjjokaaGreatDoor
open Go.RowKit Go.Maps Go.Proofs.YtcpgcjmamjjokaaGreatDoorW.PrintWords Go.Proofs.YtcpgcjmamjjokaaGreatDoorW.PrintLast Go.Proofs.YtcpgcjmamjjokaaGreatDoorW.PrintMore Go.Proofs.YtcpgcjmamjjokaaGreatDoor.PTopLimits
set_option linter.unusedVariables false
set_option linter.unusedSimpArgs false
theorem clone_row (b off c : Nat) (us : List Value) (w : World) (hl : us.length = 9) (hc : ∀ j u, us[j]? = some u → w.cell? ⟨b, off + j, none⟩ = some u) (h1 : ∀ u ∈ us, u.oneCell' = true) :
    Calls Tryz.prog 57 #[.slice (some ⟨b, off, none⟩) 1 c] w fun e w' => ∃ g cap, e = .returned (.slice (some ⟨g, 0, none⟩) 1 cap) ∧ w'.ownsRow w.heap.size 36 9 (.slice (some ⟨g, 0, none⟩) 1 cap) 1 us ∧ w.heap.size ≤ g ∧ Below w.heap.size w w' := by
  refine (clone_one b off c us w hl hc h1).mono ?_
  rintro e w' ⟨v, rfl, ho, hn, hB⟩
  obtain ⟨g, cap, rfl, hg, _⟩ := ho.form (by decide)
  exact ⟨g, cap, rfl, ho, hg, hB⟩
theorem row_cap {w : World} {b e size g n cap : Nat} {xs : List Value} (h : w.ownsRow b e size (.slice (some ⟨g, 0, none⟩) n cap) n xs) : n ≤ cap := by
  rcases h.2 with ⟨h, _⟩ | ⟨g', c', cur, hv, _, _, hc, _⟩
  · cases h
  · injection hv with _ _ h
    omega
/-- The row of one value of bytes. -/
def kidRow : List Value := [.int .i64 6, .bool false, .bool false, .string ⟨#[]⟩, .int .i64 0, .int .u64 0, .string ⟨#[0]⟩, .slice none 0 0, .slice none 0 0]
theorem rowT {w : World} {b g cap : Nat} (h : w.ownsRow b 36 9 (.slice (some ⟨g, 0, none⟩) 2 cap) 2 tagRow) : w.cell? ⟨g, 0, none⟩ = some (.int .i64 5) ∧ w.cell? ⟨g, 6, none⟩ = some (.string ⟨#[116]⟩) ∧ ∀ j u, kidRow[j]? = some u → w.cell? ⟨g, 9 + j, none⟩ = some u := by
  refine ⟨(World.ownsRow.cellAt h 0 (by decide)).trans rfl, (World.ownsRow.cellAt h 6 (by decide)).trans rfl, fun j u hu => ?_⟩
  have hj : j < 9 := (List.getElem?_eq_some_iff.1 hu).1
  rw [World.ownsRow.cellAt h (9 + j) (by show 9 + j < 18; omega), ← hu]
  rcases j with _ | _ | _ | _ | _ | _ | _ | _ | _ | j <;> first | rfl | omega
set_option maxHeartbeats 6400000 in
set_option maxRecDepth 100000 in
theorem jobject_tag (R : Nat) (l l1 r : List UInt8) (hl2 : l = 91 :: l1) (w : World) (h : JR R (34 :: [36, 116, 97, 103] ++ 34 :: 58 :: l) w) (hl : NBl l = true) (hT : Lib.Utf8Tabs 0 1 w) (hR : 2 ≤ R)
    (hlist : ∀ W, JR R (91 :: l1) W → Lib.Utf8Tabs 0 1 W → Val R (125 :: r) (fun z : Nat × Nat × Nat => objL 7 ⟨#[]⟩ (some ⟨z.2.1, 0, none⟩) 2 z.2.2) (fun z W' => W'.ownsRow z.1 36 9 (.slice (some ⟨z.2.1, 0, none⟩) 2 z.2.2) 2 tagRow ∧ W.heap.size + 2 ≤ z.2.1) W) :
    Calls Tryz.prog 225 #[.pointer (some ⟨R, 0, none⟩)] w fun e w' => ∃ z : Nat × Nat × Nat, e = .returned (.agg (objL 9 ⟨#[116]⟩ (some ⟨z.2.1, 0, none⟩) 1 z.2.2).toArray) ∧ JR R r w' ∧ Kp w w' (· = R) ∧ w'.ownsRow z.1 36 9 (.slice (some ⟨z.2.1, 0, none⟩) 1 z.2.2) 1 kidRow ∧ w.heap.size ≤ z.2.1 := by
  subst hl2
  unfold objL at *
  replace hlist := Lib.hid hlist
  have hmm := @run_makeMap Tryz.prog
  have hRX : R < w.heap.size := blk_lt h
  have hP1 := Lib.hid (fun w => (Tryz.strings_HasPrefix ⟨[36, 116, 97, 103].toArray⟩ ⟨#[36]⟩ w).mono (fun e w' h => (⟨h.1, h.2.symm⟩ : e = .returned (.bool true) ∧ w = w')))
  have hP2 := Lib.hid (fun w => (Tryz.strings_HasPrefix ⟨[36, 116, 97, 103].toArray⟩ ⟨#[36, 36]⟩ w).mono (fun e w' h => (⟨h.1, h.2.symm⟩ : e = .returned (.bool false) ∧ w = w')))
  have hI := Lib.hid jis_eq
  replace h := Lib.hid h
  replace hT := Lib.hid hT
  go_enter Tryz.func225, Tryz.ntmps225
  go_wp2_with fail
  generalize hw1 : World.alloc _ _ = w1
  obtain ⟨x0, x1, x2, x3, x4, x5, B1, hs1⟩ := alloc6 w _ _ _ _ _ _ _ hw1
  have j1 := h.out.below B1
  obtain ⟨X, hXe⟩ : ∃ X, w.heap.size = X := ⟨_, rfl⟩
  rw [hXe] at x0 x1 x2 x3 x4 x5 hs1 hRX
  rw [hXe]
  clear hw1
  have hwX := Nat.le_of_eq hXe
  have K1 := Lib.hid (Kp.of_below B1 (· = R))
  have hT1 := Utf8Tabs_below hT.out B1
  replace B1 := Lib.hid B1
  replace hwX := Lib.hid hwX
  clear hXe
  refine (jlist1 R 268 #[.pointer (some ⟨X, 0, none⟩), .pointer (some ⟨X + 1 + 1, 0, none⟩), .pointer (some ⟨X + 1 + 1 + 1 + 1 + 1, 0, none⟩), .pointer (some ⟨X + 1 + 1 + 1 + 1, 0, none⟩)] (fun w => enters_ Tryz.func268 (by kernel_rfl) rfl _ w) 125 34 _ r (by decide) rfl rfl (fun W => ∃ (z : Nat × Nat × Nat) (WA : World), Kp w1 WA (· = R) ∧ Member R (X + 1 + 1) (X + 1 + 1 + 1 + 1 + 1) [36, 116, 97, 103] (125 :: r) (.int .i64 8) (.bool false) (.bool false) (.string ⟨#[]⟩) (.int .i64 0) (.int .u64 0) (.string ⟨#[]⟩) [.int .i64 7, .bool false, .bool false, .string ⟨#[]⟩, .int .i64 0, .int .u64 0, .string ⟨#[]⟩, .slice none 0 0, .slice (some ⟨z.2.1, 0, none⟩) 2 z.2.2] ((fun W => W.ownsRow z.1 36 9 (.slice (some ⟨z.2.1, 0, none⟩) 2 z.2.2) 2 tagRow ∧ w1.heap.size ≤ z.2.1)) WA W) w1 j1 ?_).mono ?_
  · intro W jW KW
    refine (jmember R (X) (X + 1 + 1) (X + 1 + 1 + 1 + 1 + 1) (X + 1 + 1 + 1 + 1) (X + 1 + 1 + 1) [36, 116, 97, 103] _ (125 :: r) _ _ _ _ _ _ _ (Z := Nat × Nat × Nat) (fun z => .int .i64 7) (fun z => .bool false) (fun z => .bool false) (fun z => .string ⟨#[]⟩) (fun z => .int .i64 0) (fun z => .int .u64 0) (fun z => .string ⟨#[]⟩) (fun z => .slice none 0 0) (fun z => .slice (some ⟨z.2.1, 0, none⟩) 2 z.2.2) (fun _ => by simp [Value.oneCell']) (fun z W => W.ownsRow z.1 36 9 (.slice (some ⟨z.2.1, 0, none⟩) 2 z.2.2) 2 tagRow ∧ w1.heap.size ≤ z.2.1) W (by unfold Plain; decide) (by decide) (by decide) (by decide) hl (KW.heap x0 (by omega)) (KW.heap x2 (by omega)) (KW.heap x5 (by omega)) (KW.heap x4 (by omega)) (SetAt.of_block (KW.heap x3 (by omega))) jW (KW.tabs hT1 (by omega) (by omega)) hR hRX (by omega) (by omega) (by omega) (by omega) ?_ ?_).mono ?_
    · intro W2 j K
      refine (hlist.out W2 j (K.tabs (KW.tabs hT1 (by omega) (by omega)) (by omega) (by omega))).mono ?_
      rintro e W' ⟨z, rfl, a1, a2, a3, a4⟩
      exact ⟨z, rfl, a1, a2, a3, by have := K.size; have := KW.size; omega⟩
    · rintro z W W' ⟨h1, h2⟩ K
      exact ⟨K.own h1 (fun k hk e => by simp [Value.ownBlock] at hk; omega), h2⟩
    · rintro e W' ⟨rfl, a1, z, a2⟩
      exact ⟨rfl, a1, z, W, KW, a2⟩
  rintro e w2 ⟨rfl, j2, W, ⟨⟨zb, zg, zc⟩, WA, KA, nv, b, g, cap, mV, hown, mA, hQ, KM, hg⟩, KW⟩
  have hg2 : X + 6 ≤ g := by have := KA.size; omega
  have y1 := KW.heap (KM.heap (KA.heap x1 (by omega)) (by omega)) (by omega)
  have yV := KW.heap mV (by omega)
  have yA := KW.heap mA (by omega)
  have hrow := row9 (KW.own hown (fun k hk e => by simp [Value.ownBlock] at hk; omega))
  have K2 := Lib.hid ((((K1.out.trans KA (fun i hi => .inl hi)).trans KM (fun i hi => by rcases hi with rfl | h; exact .inl rfl; exact .inr (by have := hwX.out; omega))).trans KW (fun i hi => .inl hi)))
  obtain ⟨hz, hzg⟩ := hQ
  replace hzg : w1.heap.size ≤ zg := hzg
  replace hz : w2.ownsRow zb 36 9 (.slice (some ⟨zg, 0, none⟩) 2 zc) 2 tagRow := KW.own hz (fun k hk e => by simp [Value.ownBlock] at hk; omega)
  obtain ⟨sc0, sc6, _⟩ := rowT hz
  have hzc := row_cap hz
  have hzlt : zg < w2.heap.size := World.block_lt_of_cell? _ _ sc0
  dsimp only at hrow
  obtain ⟨gc0, gc1, gc2, gc3, gc4, gc5, gc6, gc7, gc8, gf0, gf1, gf2, gf3, gf4, gf5, gf6, gf7, gf8⟩ := blk9 y1
  obtain ⟨vc0, vc1, vc2, vc3, vc4, vc5, vc6, vc7, vc8, vf0, vf1, vf2, vf3, vf4, vf5, vf6, vf7, vf8⟩ := blk9 yV
  obtain ⟨ac, af⟩ := blk1 yA
  obtain ⟨rc0, rc1, rc2, rc3, rc4, rc5, rc6, rc7, rc8⟩ := hrow
  have ly1 := blk_lt y1
  have lyV := blk_lt yV
  have lyA := blk_lt yA
  have hgl := World.block_lt_of_cell? _ _ rc0
  replace y1 := Lib.hid y1
  replace j2 := Lib.hid j2
  replace hz := Lib.hid hz
  replace KW := Lib.hid KW
  clear x0 x1 x2 x3 x4 x5 mV mA KM KA yV yA hown K1 hT1 B1
  go_wp2_with fail
  refine (hP1.out _).mono ?_
  rintro e w3 ⟨rfl, rfl⟩
  go_wp2_with fail
  refine (hP2.out _).mono ?_
  rintro e w3 ⟨rfl, rfl⟩
  go_wp2_with fail
  refine (hI.out _).mono ?_
  rintro e w3 ⟨rfl, rfl⟩
  go_wp2_with fail
  generalize hw4 : World.alloc w2 _ = w4
  obtain ⟨x4, B4⟩ := alloc_at hw4
  clear hw4
  obtain ⟨xc0, xc1, xc2, xc3, xc4, xc5, xc6, xc7, xc8, xf0, xf1, xf2, xf3, xf4, xf5, xf6, xf7, xf8⟩ := blk9 x4
  have lx4 := blk_lt x4
  have hz4 := (Kp.of_below B4 (fun _ => False)).own hz.out (fun _ _ h => h)
  obtain ⟨tc0, tc6, tck⟩ := rowT hz4
  replace hz4 := Lib.hid hz4
  replace tck := Lib.hid tck
  have K4 := Lib.hid (K2.out.below B4)
  have y4 := blk_below y1.out B4
  have j4 := Lib.hid (j2.out.below B4)
  replace B4 := Lib.hid B4
  refine (hI.out _).mono ?_
  rintro e w5 ⟨rfl, rfl⟩
  go_upto_region 19 with fail
  refine start_ (n := 11) (S := fun w' => w'.cell? ⟨w2.heap.size, 8, none⟩ = some (.slice (some ⟨zg, 0, none⟩) 2 zc) ∧ w'.cell? ⟨zg, 6, none⟩ = some (.string ⟨#[116]⟩)) (ds := [10]) #[false, false, false, false, false, false, false, false, false, false, false] (by kernel_rfl) rfl rfl ⟨xc8, tc6⟩ (fun hHeld => ?_)
  refine pure_ (i := 0) (N := some 80) (v := ?_) (a' := ?_) #[true, false, false, false, false, false, false, false, false, false, false] rfl rfl (by kernel_rfl) (fun _ _ _ h => h) (Or.inl ⟨by rfl, ?_⟩) ?_ ?_
  rotate_left
  · intro w'
    go_simp
    with_reducible rfl
  rotate_left
  · simp only [Act.put, List.setIfInBounds_toArray, List.set_cons_zero, List.set_cons_succ, i64_w, i32_w]
    rfl
  refine take_ (i := 1) (N := some 81) (v := ?_) (a' := ?_) #[true, true, false, false, false, false, false, false, false, false, false] rfl rfl (by kernel_rfl) (fun _ _ _ h => h) (Or.inl ⟨by rfl, ?_⟩) hHeld ?_ ?_
  rotate_left
  · rintro w' ⟨s0, s1⟩
    go_simp
    with_reducible rfl
  rotate_left
  · simp only [Act.put, List.setIfInBounds_toArray, List.set_cons_zero, List.set_cons_succ, i64_w, i32_w]
    rfl
  refine pure_ (i := 2) (N := some 82) (v := ?_) (a' := ?_) #[true, true, true, false, false, false, false, false, false, false, false] rfl rfl (by kernel_rfl) (fun _ _ _ h => h) (Or.inl ⟨by rfl, ?_⟩) ?_ ?_
  rotate_left
  · intro w'
    go_simp
    with_reducible rfl
  rotate_left
  · simp only [Act.put, List.setIfInBounds_toArray, List.set_cons_zero, List.set_cons_succ, i64_w, i32_w]
    rfl
  refine pure_ (i := 3) (N := some 83) (v := ?_) (a' := ?_) #[true, true, true, true, false, false, false, false, false, false, false] rfl rfl (by kernel_rfl) (fun _ _ _ h => h) (Or.inl ⟨by rfl, ?_⟩) ?_ ?_
  rotate_left
  · intro w'
    go_simp
    with_reducible rfl
  rotate_left
  · simp only [Act.put, List.setIfInBounds_toArray, List.set_cons_zero, List.set_cons_succ, i64_w, i32_w]
    rfl
  refine take_ (i := 4) (N := some 84) (v := ?_) (a' := ?_) #[true, true, true, true, true, false, false, false, false, false, false] rfl rfl (by kernel_rfl) (fun _ _ _ h => h) (Or.inl ⟨by rfl, ?_⟩) hHeld ?_ ?_
  rotate_left
  · rintro w' ⟨s0, s1⟩
    go_simp
    with_reducible rfl
  rotate_left
  · simp only [Act.put, List.setIfInBounds_toArray, List.set_cons_zero, List.set_cons_succ, i64_w, i32_w]
    rfl
  refine pure_ (i := 5) (N := some 85) (v := ?_) (a' := ?_) #[true, true, true, true, true, true, false, false, false, false, false] rfl rfl (by kernel_rfl) (fun _ _ _ h => h) (Or.inl ⟨by rfl, ?_⟩) ?_ ?_
  rotate_left
  · intro w'
    go_simp
    with_reducible rfl
  rotate_left
  · simp only [Act.put, List.setIfInBounds_toArray, List.set_cons_zero, List.set_cons_succ, i64_w, i32_w]
    rfl
  refine take_ (i := 6) (N := some 86) (v := ?_) (a' := ?_) #[true, true, true, true, true, true, true, false, false, false, false] rfl rfl (by kernel_rfl) (fun _ _ _ h => h) (Or.inl ⟨by rfl, ?_⟩) hHeld ?_ ?_
  rotate_left
  · rintro w' ⟨s0, s1⟩
    go_simp
    with_reducible rfl
  rotate_left
  · simp only [Act.put, List.setIfInBounds_toArray, List.set_cons_zero, List.set_cons_succ, i64_w, i32_w]
    rfl
  refine pure_ (i := 7) (N := some 87) (v := ?_) (a' := ?_) #[true, true, true, true, true, true, true, true, false, false, false] rfl rfl (by kernel_rfl) (fun _ _ _ h => h) (Or.inl ⟨by rfl, ?_⟩) ?_ ?_
  rotate_left
  · intro w'
    go_simp
    with_reducible rfl
  rotate_left
  · simp only [Act.put, List.setIfInBounds_toArray, List.set_cons_zero, List.set_cons_succ, i64_w, i32_w]
    rfl
  refine one_ (i := 8) (N := some 88) #[true, true, true, true, true, true, true, true, true, false, false] rfl rfl (by kernel_rfl) (by decide) (fun K hK => ?_)
  refine goes_ Tryz.func57 (by kernel_rfl) rfl #[.slice (some ⟨zg, 9, none⟩) 1 (zc - 1)] (by rfl) rfl rfl (by simp [Act.eval]; omega) ?_
  refine (clone_row zg 9 (zc - 1) kidRow w4.drew rfl tck.out (by decide)).mono ?_
  rintro e w5 ⟨g5, cap5, rfl, hown5, hg5, B5⟩
  refine ⟨_, rfl, hK.out _ _ ⟨(B5.cell (show _ < w4.heap.size from lx4)).trans xc8, (B5.cell (show _ < w4.heap.size from World.block_lt_of_cell? _ _ tc6)).trans tc6⟩ (fun hHeld5 => ?_)⟩
  clear hK K
  have B5' : Below w4.heap.size w4 w5 := ⟨B5.os, B5.tape, B5.output, B5.size, B5.block⟩
  have ly4 := blk_lt y4
  have hg5' : w4.heap.size ≤ g5 := hg5
  have y5 := blk_below y4 B5'
  have j5 := Lib.hid (j4.out.below B5')
  have K5 := Lib.hid (K4.out.below B5')
  obtain ⟨hc0, hc1, hc2, hc3, hc4, hc5, hc6, hc7, hc8, hf0, hf1, hf2, hf3, hf4, hf5, hf6, hf7, hf8⟩ := blk9 y5
  have ly5 := blk_lt y5
  replace y5 := Lib.hid y5
  replace hown5 := Lib.hid hown5
  refine norm_ (a' := ?_) ?_ ?_
  rotate_left
  · show Act.put _ (some 88) _ = _
    simp only [Act.put, List.setIfInBounds_toArray, List.set_cons_zero, List.set_cons_succ, i64_w, i32_w]
    rfl
  refine pure_ (i := 9) (N := some 89) (v := ?_) (a' := ?_) #[true, true, true, true, true, true, true, true, true, true, false] rfl rfl (by kernel_rfl) (fun _ _ _ h => h) (Or.inl ⟨by rfl, ?_⟩) ?_ ?_
  rotate_left
  · intro w'
    go_simp
    with_reducible rfl
  rotate_left
  · simp only [Act.put, List.setIfInBounds_toArray, List.set_cons_zero, List.set_cons_succ, i64_w, i32_w]
    rfl
  refine last_ (i := 10) (N := none) #[true, true, true, true, true, true, true, true, true, true, true] rfl rfl (by kernel_rfl) (by decide) (fun K hK => ?_)
  refine skip_ (w1 := ?_) (by rfl) rfl ?_ ?_
  rotate_left
  · go_simp
    rfl
  refine hK.out _ _ ?_
  clear hK
  clear K
  refine done_ (by kernel_rfl) ?_
  go_wp2_with fail
  refine bodyPost_ret (results_cell_row rfl _ _ (X + 1) 36 #[.int .i64 9, .bool false, .bool false, .string ⟨#[]⟩, .int .i64 0, .int .u64 0, .string ⟨#[116]⟩, .slice none 0 0, .slice (some ⟨g5, 0, none⟩) 1 cap5] (0, 0) _ rfl (set9_heap y5.out) Tryz.underlying36 rfl (by kernel_rfl)) rfl ?_
  exact ⟨w4.heap.size, g5, cap5, rfl, j5.out.kp (set9_kp _ _ _ _ _ _ _ _ _ _ _) (by omega), K5.out.trans (set9_kp _ _ _ _ _ _ _ _ _ _ _) (fun i hi => .inr (by have := hwX.out; omega)), (set9_kp _ _ _ _ _ _ _ _ _ _ _).own hown5.out (fun k hk e => by simp [Value.ownBlock] at hk; omega), by have := hwX.out; show w.heap.size ≤ g5; omega⟩
end Go.Proofs.YtcpgcjmamjjokaaGreatDoor
namespace Go.Proofs.YtcpgcjmamjjokaaGreatDoor
open Go.RowKit Go.Maps Go.Proofs.YtcpgcjmamjjokaaGreatDoorW.PrintWords Go.Proofs.YtcpgcjmamjjokaaGreatDoorW.PrintLast Go.Proofs.YtcpgcjmamjjokaaGreatDoorW.PrintMore Go.Proofs.YtcpgcjmamjjokaaGreatDoor.PTopLimits
set_option linter.unusedVariables false
set_option linter.unusedSimpArgs false
theorem alloc_two {w W : World} {o o' : Obj} (h : (w.alloc o).alloc o' = W) : W.heap[w.heap.size]? = some o ∧ W.heap[w.heap.size + 1]? = some o' ∧ Below w.heap.size w W ∧ W.heap.size = w.heap.size + 2 := by
  rw [← h]
  exact ⟨blk_alloc (heap_alloc_new _ _) _, alloc2 _ _ _, below_alloc (below_alloc (Below.refl _ _) _) _, (Array.size_push _).trans (congrArg (· + 1) (Array.size_push _))⟩
/-- A tag round bytes, as a row holds it. -/
def readV (g cap : Nat) : Value := .agg (objL 9 ⟨#[116]⟩ (some ⟨g, 0, none⟩) 1 cap).toArray
theorem row_check {w : World} {b g cap : Nat} (h : w.ownsRow b 36 9 (.slice (some ⟨g, 0, none⟩) 1 cap) 1 kidRow) (hT : Lib.Utf8Tabs 0 1 w) :
    Calls Tryz.prog 20 #[readV g cap] w fun e w' => e = .returned (.int .i64 0) ∧ Below w.heap.size w w' := by
  have hv : VR w topT none 0 (some ⟨g, 0, none⟩) cap := top_vr (off := 0) (fun j hj => by
    rw [Nat.zero_add, World.ownsRow.cellAt h j (by show j < 9; exact hj)]
    rcases j with _ | _ | _ | _ | _ | _ | _ | _ | _ | j <;> first | rfl | omega) (row_cap h)
  have hC := Check_any top_fit none 0 (some ⟨g, 0, none⟩) cap w hv hT
  rw [top_chk] at hC
  exact hC
/-- What a format's Read comes to. -/
def RdPost (w : World) (e : Ending) (w' : World) : Prop :=
  ∃ b g cap, e = .returned (.tuple #[readV g cap, .int .i64 0]) ∧ w'.ownsRow b 36 9 (.slice (some ⟨g, 0, none⟩) 1 cap) 1 kidRow ∧ Below w.heap.size w w'
theorem results_two {fn : Func} (h : fn.results = #[.cell 2 36, .cell 3 24]) (tmps : Array Value) (w : World) (g q : Nat) (cs : Array Value) (fr : Nat × Nat) (k : Int)
    (hp2 : tmps.getD 2 undef = .pointer (some ⟨g, 0, none⟩)) (hp3 : tmps.getD 3 undef = .pointer (some ⟨q, 0, none⟩)) (hg : w.heap[g]? = some (.cells cs 36 fr)) (hi : (Tryz.prog.info? 36).map (·.size) = some cs.size)
    (hq : w.cell? ⟨q, 0, none⟩ = some (.int .i64 k)) : (results fn tmps).run Tryz.prog w = .ok (.tuple #[.agg cs, .int .i64 k]) w := by
  have h2 : tmps[2]?.getD undef = .pointer (some ⟨g, 0, none⟩) := by simpa using hp2
  have h3 : tmps[3]?.getD undef = .pointer (some ⟨q, 0, none⟩) := by simpa using hp3
  have h4 : (loadVar 24 ⟨q, 0, none⟩).run Tryz.prog w = .ok (.int .i64 k) w := by simp [go_sem, hq]
  simp [results, h, h2, h3, asAddr, run_loadVar_row w g 36 36 cs fr _ hg Tryz.underlying36 rfl hi, h4]
theorem jidle (a b : Value) (w : World) :
    CallsD Tryz.prog 181 #[a, b] .returning w fun e u' w' => e = .returned (.tuple #[]) ∧ u' = .returning ∧ w' = w := by
  refine callsD_of_wpS Tryz.func181 rfl fun c₀ cs hu => ?_
  apply wpS_seq
  apply wpS_region
  simp [wpOpsS, go_sem, recoverD, hu, Tryz.ntmps181, Exit.thenS]
  apply wpS_seq
  apply wpS_region
  simp [wpOpsS, go_sem, recoverD, hu, Tryz.ntmps181, Exit.thenS]
  refine wpS_cond (t := false) (by simp [Act.eval, Array.replicate]) ?_
  simp only [Bool.false_eq_true, if_false]
  refine wpS_of_wp (wp_skip ?_)
  cases c₀
  simp_all [bodyPostS, results, Tryz.results181]
/-- The text's value, at a reader. -/
theorem jval (R : Nat) (w : World) (h : JR R jsonL w) (hT : Lib.Utf8Tabs 0 1 w) (hR : 2 ≤ R) :
    Val R [] (fun z : Nat × Nat × Nat => objL 9 ⟨#[116]⟩ (some ⟨z.2.1, 0, none⟩) 1 z.2.2) (fun z W' => W'.ownsRow z.1 36 9 (.slice (some ⟨z.2.1, 0, none⟩) 1 z.2.2) 1 kidRow ∧ w.heap.size + 2 ≤ z.2.1) w := by
  refine jvalue_obj R (jsonL.drop 1) [] 9 ⟨#[116]⟩ (fun z : Nat × Nat × Nat => some ⟨z.2.1, 0, none⟩) (fun _ => 1) (fun z => z.2.2) _ w h ?_ ?_
  · intro W j K hs
    refine (jobject_tag R _ _ [] rfl W j rfl (K.tabs hT (by omega) (by omega)) hR ?_).mono ?_
    · intro W2 j2 hT2
      refine jvalue_list R _ _ (125 :: []) rfl W2 j2 hT2 hR ?_
      intro W3 j3 hT3
      refine jvalue_obj (Z := Unit) R _ (93 :: 125 :: []) 6 ⟨#[0]⟩ (fun _ => none) (fun _ => 0) (fun _ => 0) (fun _ _ => True) W3 j3 ?_ (fun _ _ _ _ _ => trivial)
      intro W4 j4 K4 hs4
      refine (jobject_bytes R _ (93 :: 125 :: []) rfl W4 j4 rfl (K4.tabs hT3 (by omega) (by omega)) hR).mono ?_
      rintro e W5 ⟨rfl, a1, a2⟩
      exact ⟨(), rfl, a1, a2, trivial⟩
    · rintro e W2 ⟨z, rfl, a1, a2, a3, a4⟩
      exact ⟨z, rfl, a1, a2, a3, by omega⟩
  · rintro z W W' ⟨h1, h2⟩ K
    exact ⟨K.own h1 (fun k hk e => by simp [Value.ownBlock] at hk; omega), h2⟩
set_option maxHeartbeats 6400000 in
set_option maxRecDepth 100000 in
theorem jread (A : Option Addr) (c : Nat) (w : World) (hA : BytesAt w A jsonL) (hT : Lib.Utf8Tabs 0 1 w) (hs2 : 2 ≤ w.heap.size) : Calls Tryz.prog 146 #[.slice A 30 c] w (RdPost w) := by
  have hB := Lib.hid (fun R l w h hl => jb R l w h hl)
  have hI := Lib.hid jis_eq
  have hC := Lib.hid (fun w b g cap h hT => @row_check w b g cap h hT)
  replace hA := Lib.hid hA
  replace hT := Lib.hid hT
  have hmf : ∀ (fn : Fn) (first cap : Array Value) (w : World), (Instr.makeFunc fn first cap).run Tryz.prog w = .ok (.func fn first cap) w := fun _ _ _ _ => rfl
  go_enter_defers Tryz.func146, Tryz.ntmps146
  go_upto_region 4 with fail
  generalize hwA : World.alloc _ _ = wA
  obtain ⟨g0, g1, BA, hsA⟩ := alloc_two hwA
  clear hwA
  obtain ⟨G, hG⟩ : ∃ G, w.heap.size = G := ⟨_, rfl⟩
  rw [hG] at g0 g1 hsA hs2
  rw [hG]
  have hstr : (convert 65 9 (.slice A 30 c)).run Tryz.prog wA = .ok (.string ⟨jsonL.toArray⟩) wA := (hA.out.below BA).str c
  have hTA := Utf8Tabs_below hT.out BA
  go_wp2_with fail
  clear hstr
  generalize hwB : World.alloc wA _ = wB
  obtain ⟨j1, BB⟩ := alloc_at hwB
  clear hwB
  replace j1 : JR wA.heap.size jsonL wB := j1
  have e0 := blk_below g0 BB
  have e1 := blk_below g1 BB
  have B1 := below_then BA BA.size BB
  have hTB := Utf8Tabs_below hTA BB
  obtain ⟨R, hR2⟩ : ∃ R, G + 2 = R := ⟨_, rfl⟩
  have hR := hR2
  rw [hsA, hR] at j1
  rw [hR]
  clear g0 g1 BA BB hTA hsA hR
  replace hG := Lib.hid hG
  have K1 := Lib.hid (Kp.of_below B1 (· = R))
  replace e0 := Lib.hid e0
  replace e1 := Lib.hid e1
  have hw : w.heap.size ≤ G := Nat.le_of_eq hG.out
  replace hw := Lib.hid hw
  clear B1
  refine (hB.out R _ _ j1 rfl).mono ?_
  rintro e w2 ⟨rfl, j2, q⟩
  have e02 := q.heap e0.out (by omega)
  have e12 := q.heap e1.out (by omega)
  have K2 := Lib.hid (K1.out.trans q (fun _ hi => .inl hi))
  have hT2 := q.tabs hTB (by omega) (by omega)
  clear q K1 j1 e0 e1 hTB
  replace e02 := Lib.hid e02
  replace e12 := Lib.hid e12
  go_wp2_with fail
  refine (jval R w2 j2 hT2 (by omega)).mono ?_
  rintro e w3 ⟨⟨b, g, cap⟩, rfl, j3, q, hown, hg⟩
  replace hown : w3.ownsRow b 36 9 (.slice (some ⟨g, 0, none⟩) 1 cap) 1 kidRow := hown
  replace hg : w2.heap.size + 2 ≤ g := hg
  have e03 := q.heap e02.out (by omega)
  have e13 := q.heap e12.out (by omega)
  have K3 := Lib.hid (K2.out.trans q (fun _ hi => .inl hi))
  have hT3 := q.tabs hT2 (by omega) (by omega)
  have l2 := blk_lt e02.out
  have l2' := blk_lt e12.out
  have l2r := blk_lt j2
  clear q K2 j2 e02 e12 hT2
  have hgG : g ≠ G := by omega
  have hgG1 : g ≠ G + 1 := by omega
  have hgR : g ≠ R := by omega
  obtain ⟨gc0, gc1, gc2, gc3, gc4, gc5, gc6, gc7, gc8, gf0, gf1, gf2, gf3, gf4, gf5, gf6, gf7, gf8⟩ := blk9 e03
  have l3 := blk_lt e03
  replace j3 := Lib.hid j3
  replace e03 := Lib.hid e03
  replace e13 := Lib.hid e13
  replace hown := Lib.hid hown
  replace hT3 := Lib.hid hT3
  unfold objL
  go_wp2_with fail
  generalize hw4 : World.setCell _ _ _ = w4
  obtain ⟨e04, q⟩ : w4.heap[G]? = some (.cells #[.int .i64 9, .bool false, .bool false, .string ⟨#[]⟩, .int .i64 0, .int .u64 0, .string ⟨#[116]⟩, .slice none 0 0, .slice (some ⟨g, 0, none⟩) 1 cap] 36 (0, 0)) ∧ Kp w3 w4 (· = G) := by
    rw [← hw4]
    exact ⟨set9_heap e03.out, set9_kp _ _ _ _ _ _ _ _ _ _ _⟩
  have e14 := q.heap e13.out (by omega)
  have j4 := j3.out.kp q (by omega)
  have hown4 := q.own hown.out (fun k hk e => by simp [Value.ownBlock] at hk; omega)
  have hT4 := q.tabs hT3.out (by omega) (by omega)
  have K4 := Lib.hid (K3.out.trans q (fun _ hi => .inr (by have := hw.out; omega)))
  clear hw4 q hown hT3 K3 j3 e03 e13 gc0 gc1 gc2 gc3 gc4 gc5 gc6 gc7 gc8 gf0 gf1 gf2 gf3 gf4 gf5 gf6 gf7 gf8 l3
  refine (hB.out R _ _ j4 rfl).mono ?_
  rintro e w5 ⟨rfl, j5, q⟩
  have e05 := q.heap e04 (by omega)
  have e15 := q.heap e14 (by omega)
  have hown5 := q.own hown4 (fun k hk e => by simp [Value.ownBlock] at hk; omega)
  have hT5 := q.tabs hT4 (by omega) (by omega)
  have K5 := Lib.hid (K4.out.trans q (fun _ hi => .inl hi))
  clear q e04 e14 hown4 hT4 K4 j4
  obtain ⟨rc0, rc1, rf0, rf1⟩ := blk2 j5
  obtain ⟨gc0, gc1, gc2, gc3, gc4, gc5, gc6, gc7, gc8, gf0, gf1, gf2, gf3, gf4, gf5, gf6, gf7, gf8⟩ := blk9 e05
  have l5 := blk_lt e05
  have l5r := blk_lt j5
  replace e05 := Lib.hid e05
  replace e15 := Lib.hid e15
  replace j5 := Lib.hid j5
  have hchk := Lib.hid (row_check hown5 hT5)
  unfold readV objL at hchk
  replace hown5 := Lib.hid hown5
  replace hT5 := Lib.hid hT5
  go_wp2_with fail
  refine (hI.out _).mono ?_
  rintro e w6 ⟨rfl, rfl⟩
  go_wp2_with fail
  refine hchk.out.mono ?_
  rintro e w6 ⟨rfl, B6⟩
  have e06 := blk_below e05.out B6
  have e16 := blk_below e15.out B6
  have hown6 := (Kp.of_below B6 (fun _ => False)).own hown5.out (fun _ _ h => h)
  have K6 := Lib.hid (K5.out.below B6)
  clear B6 e05 e15 hown5 hT5 K5 j5 rc0 rc1 rf0 rf1 gc0 gc1 gc2 gc3 gc4 gc5 gc6 gc7 gc8 gf0 gf1 gf2 gf3 gf4 gf5 gf6 gf7 gf8 l5 l5r hchk
  obtain ⟨gc0, gc1, gc2, gc3, gc4, gc5, gc6, gc7, gc8, gf0, gf1, gf2, gf3, gf4, gf5, gf6, gf7, gf8⟩ := blk9 e06
  obtain ⟨qc, qf⟩ := blk1 e16
  have l6 := blk_lt e06
  have l6' := blk_lt e16
  replace e06 := Lib.hid e06
  replace e16 := Lib.hid e16
  replace hown6 := Lib.hid hown6
  go_wp2_with fail
  generalize hw7 : World.setCell _ (Addr.mk (G + 1) 0 none) _ = w7
  obtain ⟨e07, e17, q⟩ : w7.heap[G]? = some (.cells #[.int .i64 9, .bool false, .bool false, .string ⟨#[]⟩, .int .i64 0, .int .u64 0, .string ⟨#[116]⟩, .slice none 0 0, .slice (some ⟨g, 0, none⟩) 1 cap] 36 (0, 0)) ∧ w7.cell? ⟨G + 1, 0, none⟩ = some (.int .i64 0) ∧ Kp w6 w7 (fun k => k = G ∨ k = G + 1) := by
    rw [← hw7]
    refine ⟨blk_far (set9_heap e06.out) (by show G ≠ G + 1; omega) _, (blk_cell (blk_put (cs' := #[.int .i64 0]) ((set9_kp w6 G _ _ _ _ _ _ _ _ _).heap e16.out (by omega)) 0 _ rfl) 0).trans rfl, ((set9_kp w6 G _ _ _ _ _ _ _ _ _).mono (fun k hk => .inl hk)).set_ (p := ⟨G + 1, 0, none⟩) (.inl (.inr rfl)) _⟩
  have hown7 := q.own hown6.out (fun k hk e => by simp [Value.ownBlock] at hk; omega)
  have K7 := K6.out.trans q (fun _ hi => .inr (by have := hw.out; omega))
  have hfin : RdPost w (.returned (.tuple #[readV g cap, .int .i64 0])) w7 := ⟨b, g, cap, rfl, hown7, ⟨K7.os, K7.tape, K7.output, K7.size, fun k hk => K7.block k hk (by have := hw.out; have := hG.out; omega)⟩⟩
  clear hw7
  refine leaves_cons (f := 181) (args := #[.pointer (some ⟨G, 0, none⟩), .pointer (some ⟨G + 1, 0, none⟩)]) (by simp) (by simp [go_sem]) ?_
  refine (jidle _ _ _).mono ?_
  rintro e u' w'' ⟨rfl, rfl, rfl⟩
  exact ⟨_, results_two rfl _ _ G (G + 1) #[.int .i64 9, .bool false, .bool false, .string ⟨#[]⟩, .int .i64 0, .int .u64 0, .string ⟨#[116]⟩, .slice none 0 0, .slice (some ⟨g, 0, none⟩) 1 cap] (0, 0) 0 rfl rfl e07 (by kernel_rfl) e17, hfin⟩
end Go.Proofs.YtcpgcjmamjjokaaGreatDoor
