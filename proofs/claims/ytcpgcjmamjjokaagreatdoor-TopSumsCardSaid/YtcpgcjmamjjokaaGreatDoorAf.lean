/- num.level. -/
import Derived.Test.YtcpgcjmamjjokaaGreatDoorAe
import Derived.Deep.RegionHeld3
namespace Go.Proofs.YtcpgcjmamjjokaaGreatDoor
open Go.RowKit Go.Proofs.YtcpgcjmamjjokaaGreatDoorW.PrintWords Go.Proofs.YtcpgcjmamjjokaaGreatDoorW.PrintMore
set_option linter.unusedVariables false
set_option linter.unusedSimpArgs false
theorem ba_app (l m : List UInt8) : (⟨l.toArray⟩ ++ ⟨m.toArray⟩ : ByteArray) = ⟨(l ++ m).toArray⟩ := by
  apply ByteArray.ext
  rw [ByteArray.data_append]
  simp
theorem ba_size (l : List UInt8) : (⟨l.toArray⟩ : ByteArray).size = l.length := by
  show l.toArray.size = _
  simp
theorem rep48 (c : Nat) : Lib.repeatL [48] c = List.replicate c 48 := by
  induction c with
  | zero => rfl
  | succ c ih => rw [Lib.repeatL, ih]; rfl
/-- So many noughts. -/
def zs (k : Nat) : List UInt8 := List.replicate k 48
theorem zs_len (k : Nat) : (zs k).length = k := by unfold zs; simp
theorem repeat_any (c : Nat) (hc : c ≤ 1000) (w : World) : Calls Tryz.prog 154 #[.string ⟨#[48]⟩, .int .i64 (c : Int)] w fun e w' => e = .returned (.string ⟨(zs c).toArray⟩) ∧ Below w.heap.size w w' := by
  have h := Tryz.strings_Repeat ⟨#[48]⟩ c w (by omega) (by show 1 * c ≤ _; omega)
  rw [show (⟨#[48]⟩ : ByteArray).data.toList = [48] from rfl, rep48] at h
  exact h
theorem num_drew1' {w w3 : World} (h : Below w.drew.heap.size w.drew w3) : Below w.heap.size w w3 := ⟨h.os, h.tape, h.output, h.size, h.block⟩
theorem lev_keep {w z : World} {G : Nat} {a0 a1 a2 b0 b1 b2 : Value} {t : TypeId} (h1 : w.heap[G]? = some (.cells #[a0, a1, a2] t (0, 0))) (h2 : w.heap[G + 1]? = some (.cells #[b0, b1, b2] t (0, 0))) (B : Below w.heap.size w z) :
    z.cell? ⟨G, 0, none⟩ = some a0 ∧ z.cell? ⟨G, 1, none⟩ = some a1 ∧ z.cell? ⟨G, 2, none⟩ = some a2 ∧ z.cell? ⟨G + 1, 0, none⟩ = some b0 ∧ z.cell? ⟨G + 1, 1, none⟩ = some b1 ∧ z.cell? ⟨G + 1, 2, none⟩ = some b2 := by
  obtain ⟨c0, c1, c2, _, _, _⟩ := blk3 (blk_below h1 B)
  obtain ⟨d0, d1, d2, _, _, _⟩ := blk3 (blk_below h2 B)
  exact ⟨c0, c1, c2, d0, d1, d2⟩
/-- As two numbers stand, digit below digit. -/
def lv0 (t : Int) (e : Nat) : List UInt8 := ND t ++ zs (NE t - e)
def lvP (a b : Int) (e : Nat) : List UInt8 := zs ((lv0 b e).length - (lv0 a e).length) ++ lv0 a e
set_option maxHeartbeats 3200000 in
set_option maxRecDepth 100000 in
theorem level_any (a b : Int) (ha : a.natAbs < 1000000000000000) (hb : b.natAbs < 1000000000000000) (w : World) :
    Calls Tryz.prog 114 #[numV a, numV b] w fun e w' => e = .returned (.tuple #[.string ⟨(lvP a b (min (NE a) (NE b))).toArray⟩, .string ⟨(lvP b a (min (NE a) (NE b))).toArray⟩, .int .i64 (min (NE a) (NE b) : Nat)]) ∧ Below w.heap.size w w' := by
  have a1 := NE_lt a 15 ha (by decide)
  have b1 := NE_lt b 15 hb (by decide)
  have a2 := ND_len a 15 ha (by decide)
  have b2 := ND_len b 15 hb (by decide)
  unfold lvP lv0 numV
  generalize NB a = sa
  generalize NB b = sb
  generalize ND a = A at *
  generalize ND b = B at *
  generalize NE a = x at *
  generalize NE b = y at *
  obtain ⟨e, he⟩ : ∃ e, min x y = e := ⟨_, rfl⟩
  have heI : min (x : Int) (y : Int) = (e : Int) := by omega
  have hxe : (x : Int) - (e : Int) = ((x - e : Nat) : Int) := by omega
  have hye : (y : Int) - (e : Int) = ((y - e : Nat) : Int) := by omega
  rw [he]
  have hx2 : x - e ≤ 15 := by omega
  have hy2 : y - e ≤ 15 := by omega
  clear he
  generalize x - e = u at *
  generalize y - e = v at *
  have wu : IntKind.i64.wrap (u : Int) = (u : Int) := by rw [IntKind.wrap_i64]; omega
  have wv : IntKind.i64.wrap (v : Int) = (v : Int) := by rw [IntKind.wrap_i64]; omega
  have k1 := fun w => repeat_any u (by omega) w
  have k2 := fun w => repeat_any v (by omega) w
  obtain ⟨Z1, hZ1⟩ : ∃ Z, zs u = Z := ⟨_, rfl⟩
  obtain ⟨Z2, hZ2⟩ : ∃ Z, zs v = Z := ⟨_, rfl⟩
  have z1 : Z1.length ≤ 15 := by rw [← hZ1, zs_len]; exact hx2
  have z2 : Z2.length ≤ 15 := by rw [← hZ2, zs_len]; exact hy2
  rw [hZ1] at k1 ⊢
  rw [hZ2] at k2 ⊢
  clear hZ1 hZ2
  have m1 := ba_app A Z1
  have m2 := ba_app B Z2
  have s1 := ba_size A
  have s2 := ba_size B
  have s3 := ba_size Z1
  have s4 := ba_size Z2
  have l1 : (A ++ Z1).length ≤ 30 := by rw [List.length_append]; omega
  have l2 : (B ++ Z2).length ≤ 30 := by rw [List.length_append]; omega
  have n1 : ¬ 9223372036854775807 < A.length + Z1.length := by omega
  have n2 : ¬ 9223372036854775807 < B.length + Z2.length := by omega
  generalize A ++ Z1 = P1 at *
  generalize B ++ Z2 = Q1 at *
  have s5 := ba_size P1
  have s6 := ba_size Q1
  have k3 := fun w => repeat_any (Q1.length - P1.length) (by omega) w
  have k4 := fun w => repeat_any (P1.length - Q1.length) (by omega) w
  obtain ⟨Z3, hZ3⟩ : ∃ Z, zs (Q1.length - P1.length) = Z := ⟨_, rfl⟩
  obtain ⟨Z4, hZ4⟩ : ∃ Z, zs (P1.length - Q1.length) = Z := ⟨_, rfl⟩
  have z3 : Z3.length = Q1.length - P1.length := by rw [← hZ3, zs_len]
  have z4 : Z4.length = P1.length - Q1.length := by rw [← hZ4, zs_len]
  rw [hZ3] at k3 ⊢
  rw [hZ4] at k4 ⊢
  clear hZ3 hZ4
  have m3 := ba_app Z3 P1
  have m4 := ba_app Z4 Q1
  have s7 := ba_size Z3
  have s8 := ba_size Z4
  have hlP : (Z3 ++ P1).length = max P1.length Q1.length := by rw [List.length_append]; omega
  generalize Z3 ++ P1 = P at *
  generalize Z4 ++ Q1 = QQ at *
  have s9 := ba_size P
  generalize P1.length = lp at *
  generalize Q1.length = lq at *
  generalize P.length = lP at *
  have hm1 : max (0 : Int) ((lq : Int) - (lp : Int)) = ((lq - lp : Nat) : Int) := by omega
  have hm2 : max (0 : Int) ((lP : Int) - (lq : Int)) = ((lp - lq : Nat) : Int) := by omega
  replace z3 := Nat.le_of_eq z3
  replace z4 := Nat.le_of_eq z4
  have hlP2 : lP ≤ 30 := by omega
  have z32 : Z3.length ≤ 30 := by omega
  have z42 : Z4.length ≤ 30 := by omega
  have n3 : ¬ 9223372036854775807 < Z3.length + lp := by omega
  have n4 : ¬ 9223372036854775807 < Z4.length + lq := by omega
  clear z3 z4 hlP
  replace k1 := Lib.hid k1
  replace k2 := Lib.hid k2
  replace k3 := Lib.hid k3
  replace k4 := Lib.hid k4
  go_enter Tryz.func114, Tryz.ntmps114
  obtain ⟨G, hG⟩ : ∃ G, w.heap.size = G := ⟨_, rfl⟩
  go_wp2_with fail
  generalize hw1 : World.alloc _ _ = w1
  obtain ⟨b1, b2, B1⟩ : w1.heap[G]? = some (.cells #[.bool sa, .string ⟨A.toArray⟩, .int .i64 (x : Int)] 32 (0, 0)) ∧ w1.heap[G + 1]? = some (.cells #[.bool sb, .string ⟨B.toArray⟩, .int .i64 (y : Int)] 32 (0, 0)) ∧ Below w.heap.size w w1 := by
    subst hw1 hG
    exact ⟨blk_alloc (heap_alloc_new _ _) _, alloc2 _ _ _, below_alloc (below_alloc (Below.refl _ _) _) _⟩
  clear hw1
  replace hG := Lib.hid hG
  obtain ⟨c0, c1, c2, f0, f1, f2⟩ := blk3 b1
  obtain ⟨d0, d1, d2, g0, g1, g2⟩ := blk3 b2
  replace b1 := Lib.hid b1
  replace b2 := Lib.hid b2
  replace B1 := Lib.hid B1
  go_region_held3 (fun z => z.cell? ⟨G, 0, none⟩ = some (.bool sa) ∧ z.cell? ⟨G, 1, none⟩ = some (.string ⟨A.toArray⟩) ∧ z.cell? ⟨G, 2, none⟩ = some (.int .i64 (x : Int)) ∧ z.cell? ⟨G + 1, 0, none⟩ = some (.bool sb) ∧ z.cell? ⟨G + 1, 1, none⟩ = some (.string ⟨B.toArray⟩) ∧ z.cell? ⟨G + 1, 2, none⟩ = some (.int .i64 (y : Int)))
    (first | go_keep | exact lev_keep (w := w1.drew) b1.out b2.out B3)
    (first | ((with_reducible refine (k1.out _).mono ?_); rintro e1 w3 ⟨rfl, B3⟩))
  have b1' := blk_below b1.out (num_drew1' B3)
  have b2' := blk_below b2.out (num_drew1' B3)
  have B3' := below_then B1.out B1.out.size (num_drew1' B3)
  clear B3 c0 c1 c2 f0 f1 f2 d0 d1 d2 g0 g1 g2
  obtain ⟨c0, c1, c2, f0, f1, f2⟩ := blk3 b1'
  obtain ⟨d0, d1, d2, g0, g1, g2⟩ := blk3 b2'
  replace b1' := Lib.hid b1'
  replace b2' := Lib.hid b2'
  replace B3' := Lib.hid B3'
  go_wp2_with fail
  go_region_held3 (fun z => z.cell? ⟨G, 0, none⟩ = some (.bool sa) ∧ z.cell? ⟨G, 1, none⟩ = some (.string ⟨A.toArray⟩) ∧ z.cell? ⟨G, 2, none⟩ = some (.int .i64 (x : Int)) ∧ z.cell? ⟨G + 1, 0, none⟩ = some (.bool sb) ∧ z.cell? ⟨G + 1, 1, none⟩ = some (.string ⟨B.toArray⟩) ∧ z.cell? ⟨G + 1, 2, none⟩ = some (.int .i64 (y : Int)))
    (first | go_keep | exact lev_keep (w := w3.drew) b1'.out b2'.out B4)
    (first | ((with_reducible refine (k2.out _).mono ?_); rintro e1 w4 ⟨rfl, B4⟩))
  have B5 := Lib.hid (below_then B3'.out B3'.out.size (num_drew1' B4))
  clear B4 c0 c1 c2 f0 f1 f2 d0 d1 d2 g0 g1 g2 B3'
  go_wp2_with fail
  refine (k3.out _).mono ?_
  rintro e1 w5 ⟨rfl, B6⟩
  replace B6 := Lib.hid (below_then B5.out B5.out.size B6)
  go_wp2_with fail
  refine (k4.out _).mono ?_
  rintro e1 w6 ⟨rfl, B7⟩
  replace B7 := Lib.hid (below_then B6.out B6.out.size B7)
  go_wp2_with fail
  go_ret3
  exact ⟨rfl, B7.out⟩
end Go.Proofs.YtcpgcjmamjjokaaGreatDoor
