/- Trees of values, plain: what fits; parts and many come to an end; depth and size, walked. Decimal digits in numbers. No program in sight. A sum of decimal numbers, digit by digit. No program in sight. Words: a block's cells. A set of texts in a map; a row of names, no two alike. -/
import Derived.Test.YtcpgcjmamjjokaaGreatDoorPTopLimitsx2
import Derived.Lib.Hide
import Derived.LoopTactic
import Derived.RowKit
import Derived.Test.YtcpgcjmamjjokaaGreatDoorProg
import Derived.Test.YtcpgcjmamjjokaaGreatDoorWWords
import Derived.Test.YtcpgcjmamjjokaaGreatDoorWMore
import Derived.WalkKit
import Derived.WalkSpells
import Derived.WalkLawsBesides
import Derived.Laws.BitsAllLaws
import Derived.Laws.Externs
import Derived.StillTailTactics
import Derived.Deep.AppendLies
import Derived.Deep.RegionLaw
import Derived.Deep.QuietTactic
import Derived.BigQuiet
import Derived.Defers
import Derived.Recover
import Derived.Maps.Own
import Derived.Maps.Views
import Derived.Maps.OwnSet
import Derived.Maps.OwnOps
import Derived.StringKeys
import Derived.Lib.LaidU8T
namespace Go.Proofs.YtcpgcjmamjjokaaGreatDoor
open Go.RowKit Go.Proofs.YtcpgcjmamjjokaaGreatDoorW.PrintWords Go.Proofs.YtcpgcjmamjjokaaGreatDoorW.PrintMore Go.Proofs.YtcpgcjmamjjokaaGreatDoor.PTopLimits
set_option linter.unusedVariables false
set_option linter.unusedSimpArgs false
/-- A value whose texts and lists are no longer than memory. -/
inductive Fit : S36 → Prop
  | mk (x : S36) (hd : x.f2.f1.size ≤ 140737488351232) (ht : x.f4.size ≤ 140737488351232) (hn : x.f5.length ≤ 140737488351232) (hs : ∀ s ∈ x.f5, s.size ≤ 140737488351232)
      (hl : x.f6.length ≤ 140737488351232) (hx : ∀ y ∈ x.f6, Fit y) : Fit x
theorem Fit.digits {x : S36} (h : Fit x) : x.f2.f1.size ≤ 140737488351232 := by cases h; assumption
theorem Fit.text {x : S36} (h : Fit x) : x.f4.size ≤ 140737488351232 := by cases h; assumption
theorem Fit.names {x : S36} (h : Fit x) : x.f5.length ≤ 140737488351232 := by cases h; assumption
theorem Fit.name {x : S36} (h : Fit x) : ∀ s ∈ x.f5, s.size ≤ 140737488351232 := by cases h; assumption
theorem Fit.list {x : S36} (h : Fit x) : x.f6.length ≤ 140737488351232 := by cases h; assumption
theorem Fit.of {x : S36} (h : Fit x) : ∀ y ∈ x.f6, Fit y := by cases h; assumption
theorem rd_mem {l : List S36} {i : Int} (h0 : 0 ≤ i) (h1 : i < l.length) : rd_T36 l i ∈ l := by
  unfold rd_T36
  rw [List.getD_eq_getElem?_getD, List.getElem?_eq_getElem (by omega), Option.getD_some]
  exact List.getElem_mem _
theorem wr64 {i : Int} {n : Nat} (h0 : 0 ≤ i) (h : i < (n : Int)) (hn : n ≤ 140737488351232) : wrap64 (i + 1) = i + 1 := by
  unfold wrap64
  omega
def ptF (k : Nat) (x : S36) (n a : Int) : Option Int := calamustop_parts.f k x.f0 x.f1 x.f2.f0 x.f2.f1 x.f2.f2 x.f3 x.f4 x.f5 x.f6 n a
def myF (k : Nat) (x : S36) : Option Bool := calamustop_many.f k x.f0 x.f1 x.f2.f0 x.f2.f1 x.f2.f2 x.f3 x.f4 x.f5 x.f6
theorem parts_total {x : S36} (h : Fit x) : ∀ n a, ∃ r, Ev (fun k => ptF k x n a) r := by
  induction h with
  | mk x hd ht hn hs hl hx ih =>
    intro n a
    by_cases ha : a > 300
    · exact ⟨65537, Ev.step (f := fun _ => some 65537) (fun k => by simp only [ptF, calamustop_parts.f]; rw [if_pos ha]) (Ev.now _)⟩
    · have hL : ∀ (d : Nat) (i n : Int), 0 ≤ i → i ≤ x.f6.length → (x.f6.length : Int) - i = d → ∃ r, Ev (fun k => calamustop_parts.l1 k n a i x.f0 x.f1 x.f2.f0 x.f2.f1 x.f2.f2 x.f3 x.f4 x.f5 x.f6) r := by
        intro d
        induction d with
        | zero =>
          intro i n h0 h1 h2
          exact ⟨n, Ev.step (f := fun _ => some n) (fun k => by simp only [calamustop_parts.l1]; rw [if_neg (by omega)]) (Ev.now _)⟩
        | succ d ihd =>
          intro i n h0 h1 h2
          by_cases hb : n ≤ 65536
          · obtain ⟨r1, hr1⟩ := ih _ (rd_mem h0 (show i < x.f6.length by omega)) n (wrap64 (a + 1))
            obtain ⟨r2, hr2⟩ := ihd (i + 1) r1 (by omega) (by omega) (by omega)
            refine ⟨r2, Ev.step (f := fun k => (ptF k (rd_T36 x.f6 i) n (wrap64 (a + 1))).bind fun t => calamustop_parts.l1 k t a (i + 1) x.f0 x.f1 x.f2.f0 x.f2.f1 x.f2.f2 x.f3 x.f4 x.f5 x.f6) (fun k => ?_) (Ev.bind hr1 hr2)⟩
            simp only [calamustop_parts.l1, ptF]
            rw [if_pos (by omega), if_pos hb, if_pos h0, wr64 h0 (show i < (x.f6.length : Int) by omega) hl]
          · exact ⟨n, Ev.step (f := fun _ => some n) (fun k => by simp only [calamustop_parts.l1]; rw [if_pos (by omega), if_neg hb]) (Ev.now _)⟩
      have hJ : ∀ n, ∃ r, Ev (fun k => calamustop_parts.j1 k n a x.f0 x.f1 x.f2.f0 x.f2.f1 x.f2.f2 x.f3 x.f4 x.f5 x.f6) r := fun n => by
        obtain ⟨r, hr⟩ := hL _ 0 n (by omega) (by omega) (Int.sub_zero _)
        exact ⟨r, Ev.step (fun k => by simp only [calamustop_parts.j1]) hr⟩
      have hN : ∀ (d : Nat) (i n : Int), 0 ≤ i → i ≤ x.f5.length → (x.f5.length : Int) - i = d → ∃ r, Ev (fun k => calamustop_parts.l0 k n a i x.f0 x.f1 x.f2.f0 x.f2.f1 x.f2.f2 x.f3 x.f4 x.f5 x.f6) r := by
        intro d
        induction d with
        | zero =>
          intro i n h0 h1 h2
          obtain ⟨r, hr⟩ := hJ n
          exact ⟨r, Ev.step (fun k => by simp only [calamustop_parts.l0]; rw [if_neg (by omega)]) hr⟩
        | succ d ihd =>
          intro i n h0 h1 h2
          by_cases hb : n ≤ 65536
          · obtain ⟨r, hr⟩ := ihd (i + 1) (wrap64 (n + ((rdOf ByteArray.empty x.f5 i).size : Int))) (by omega) (by omega) (by omega)
            exact ⟨r, Ev.step (fun k => by simp only [calamustop_parts.l0]; rw [if_pos (by omega), if_pos hb, if_pos h0, wr64 h0 (show i < (x.f5.length : Int) by omega) hn]) hr⟩
          · obtain ⟨r, hr⟩ := hJ n
            exact ⟨r, Ev.step (fun k => by simp only [calamustop_parts.l0]; rw [if_pos (by omega), if_neg hb]) hr⟩
      obtain ⟨r, hr⟩ := hN _ 0 (wrap64 ((wrap64 ((wrap64 ((wrap64 (n + 1)) + (x.f4.size : Int))) + (x.f2.f1.size : Int))) + (x.f5.length : Int))) (by omega) (by omega) (Int.sub_zero _)
      exact ⟨r, Ev.step (fun k => by simp only [ptF, calamustop_parts.f]; rw [if_neg ha]) hr⟩
theorem many_total {x : S36} (h : Fit x) : ∃ r, Ev (fun k => myF k x) r := by
  induction h with
  | mk x hd ht hn hs hl hx ih =>
    by_cases ha : (x.f5.length : Int) > 2000
    · exact ⟨true, Ev.step (f := fun _ => some true) (fun k => by simp only [myF, calamustop_many.f]; rw [if_pos ha]) (Ev.now _)⟩
    · have hL : ∀ (d : Nat) (i : Int), 0 ≤ i → i ≤ x.f6.length → (x.f6.length : Int) - i = d → ∃ r, Ev (fun k => calamustop_many.l0 k i x.f0 x.f1 x.f2.f0 x.f2.f1 x.f2.f2 x.f3 x.f4 x.f5 x.f6) r := by
        intro d
        induction d with
        | zero =>
          intro i h0 h1 h2
          exact ⟨false, Ev.step (f := fun _ => some false) (fun k => by simp only [calamustop_many.l0]; rw [if_neg (by omega)]) (Ev.now _)⟩
        | succ d ihd =>
          intro i h0 h1 h2
          obtain ⟨r1, hr1⟩ := ih _ (rd_mem h0 (show i < x.f6.length by omega))
          obtain ⟨r2, hr2⟩ := ihd (i + 1) (by omega) (by omega) (by omega)
          cases r1 with
          | true =>
            refine ⟨true, Ev.step (f := fun k => (myF k (rd_T36 x.f6 i)).bind fun t => if t = true then some true else calamustop_many.l0 k (i + 1) x.f0 x.f1 x.f2.f0 x.f2.f1 x.f2.f2 x.f3 x.f4 x.f5 x.f6) (fun k => ?_) (Ev.bind hr1 (Ev.now _))⟩
            simp only [calamustop_many.l0, myF]
            rw [if_pos (by omega), if_pos h0, wr64 h0 (show i < (x.f6.length : Int) by omega) hl]
          | false =>
            refine ⟨r2, Ev.step (f := fun k => (myF k (rd_T36 x.f6 i)).bind fun t => if t = true then some true else calamustop_many.l0 k (i + 1) x.f0 x.f1 x.f2.f0 x.f2.f1 x.f2.f2 x.f3 x.f4 x.f5 x.f6) (fun k => ?_) (Ev.bind hr1 (by simpa using hr2))⟩
            simp only [calamustop_many.l0, myF]
            rw [if_pos (by omega), if_pos h0, wr64 h0 (show i < (x.f6.length : Int) by omega) hl]
      obtain ⟨r, hr⟩ := hL _ 0 (by omega) (by omega) (Int.sub_zero _)
      exact ⟨r, Ev.step (fun k => by simp only [myF, calamustop_many.f]; rw [if_neg ha]) hr⟩
mutual
/-- How deep a value is. -/
def depT : S36 → Int
  | ⟨_, _, _, _, _, _, l⟩ => wrap64 (depL l 0 + 1)
def depL : List S36 → Int → Int
  | [], n => n
  | x :: r, n => depL r (mx n (depT x))
end
mutual
/-- How many there are in it. -/
def sizT : S36 → Int
  | ⟨_, _, _, _, _, _, l⟩ => sizL l 1
def sizL : List S36 → Int → Int
  | [], n => n
  | x :: r, n => sizL r (wrap64 (n + sizT x))
end
theorem depT_eq (x : S36) : depT x = wrap64 (depL x.f6 0 + 1) := by cases x; rw [depT]
theorem sizT_eq (x : S36) : sizT x = sizL x.f6 1 := by cases x; rw [sizT]
theorem drop_rd {l : List S36} {i : Int} (h0 : 0 ≤ i) (h1 : i < l.length) : l.drop i.toNat = rd_T36 l i :: l.drop (i + 1).toNat := by
  unfold rd_T36
  rw [List.getD_eq_getElem?_getD, List.getElem?_eq_getElem (by omega), Option.getD_some, List.drop_eq_getElem_cons (by omega), show (i + 1).toNat = i.toNat + 1 by omega]
/-- A value's cells. -/
def vV (x : S36) (A : Option Addr) (c : Nat) (B : Option Addr) (d : Nat) : Value :=
  .agg #[.int .i64 x.f0, .bool x.f1, .bool x.f2.f0, .string x.f2.f1, .int .i64 x.f2.f2, .int .u64 x.f3, .string x.f4, .slice A x.f5.length c, .slice B x.f6.length d]
/-- Where a value's names and its list lie. -/
structure VR (w : World) (x : S36) (A : Option Addr) (c : Nat) (B : Option Addr) (d : Nat) : Prop where
  n : Kd.C Kd.string w A x.f5.length x.f5
  cn : x.f5.length ≤ c
  l : Kd.C k36 w B x.f6.length x.f6
  cl : x.f6.length ≤ d
theorem VR.below {w w1 : World} {x : S36} {A B : Option Addr} {c d : Nat} (h : VR w x A c B d) (hb : Below w.heap.size w w1) : VR w1 x A c B d := ⟨Kd.C_below h.n hb, h.cn, Kd.C_below h.l hb, h.cl⟩
attribute [local go_sem] max2_int max_two
set_option maxHeartbeats 3200000 in
set_option maxRecDepth 100000 in
theorem Depth_any {x : S36} (h : Fit x) : ∀ {A B : Option Addr} {c d : Nat} {w : World} (hr : VR w x A c B d), Calls Tryz.prog 48 #[vV x A c B d] w fun e w' => e = .returned (.int .i64 (depT x)) ∧ Below w.heap.size w w' := by
  induction h with
  | mk x hd ht hn hs hl hx ih =>
    intro A B c d w hr
    rw [depT_eq]
    unfold vV
    have hrl := Lib.hid hr.l
    have hcl := hr.cl
    clear hr hd ht hn hs hx
    replace ih := Lib.hid ih
    generalize x.f0 = v0
    generalize x.f1 = v1
    generalize x.f2.f0 = v2
    generalize x.f2.f1 = v3
    generalize x.f2.f2 = v4
    generalize x.f3 = v5
    generalize x.f4 = v6
    generalize x.f5.length = n7
    generalize x.f6 = l at *
    go_enter Tryz.func48, Tryz.ntmps48
    go_wp2_with fail
    generalize hw1 : World.alloc w _ = w1
    have B1 : Below w.heap.size w w1 := by rw [← hw1]; exact below_alloc (Below.refl _ _) _
    clear hw1
    replace B1 := Lib.hid B1
    go_loopw [3, 9] (fun v3 v9 w' => ∃ (i : Nat) (n : Int) (X : World), v3 = .int .i64 n ∧ v9 = .int .i64 (i : Int) ∧ X = w' ∧ i ≤ l.length ∧ Hid (Below w.heap.size w X) ∧ Hid (depL (l.drop i) n = depL l 0)) (fun v3 v9 _ => l.length - (intOf v9).toNat)
    case atStart => exact ⟨0, 0, _, rfl, rfl, rfl, Nat.zero_le _, B1, Lib.hid (by rw [List.drop_zero])⟩
    case round =>
      obtain ⟨i, n, X, rfl, rfl, rfl, hi, hB, hN⟩ := hrel
      by_cases ci : i < l.length
      · have hdc : decide ((i : Int) < (l.length : Int)) = true := decide_eq_true (by omega)
        have p1 : (i : Int) < (l.length : Int) := by omega
        obtain ⟨ad, A7, c7, A8, c8, rfl, h0, h1, h2, h3, h4, h5, h6, h7, h8, l7, g7, l8, g8⟩ := at_T36 (Kd.C_below hrl.out hB.out) (i : Int) (by omega) (by omega)
        rw [Int.toNat_natCast] at h0 h1 h2 h3 h4 h5 h6 h7 h8
        have hdr := drop_rd (l := l) (i := (i : Int)) (by omega) (by omega)
        have hm := rd_mem (l := l) (i := (i : Int)) (by omega) (by omega)
        have hN2 := hN.out
        rw [show ((i : Int)).toNat = i from Int.toNat_natCast i] at hdr
        rw [hdr, depL] at hN2
        have hC := Lib.hid (fun W (hb : Below X.heap.size X W) => ih.out _ hm (VR.below (w := X) ⟨g7, l7, g8, l8⟩ hb))
        unfold vV at hC
        rw [show ((i : Int) + 1).toNat = i + 1 by omega] at hdr hN2
        generalize rd_T36 l (i : Int) = y at *
        replace hN2 := Lib.hid hN2
        replace hdr := Lib.hid hdr
        clear l7 g7 l8 g8 hm
        go_wp2_with fail
        generalize hw2 : World.alloc X _ = W
        have BX : Below X.heap.size X W := by rw [← hw2]; exact below_alloc (Below.refl _ _) _
        clear hw2
        refine (hC.out _ BX).mono ?_
        rintro e X2 ⟨rfl, B2⟩
        have hB2 := Lib.hid (below_then hB.out hB.out.size (below_then BX BX.size B2))
        clear h0 h1 h2 h3 h4 h5 h6 h7 h8 BX B2
        have hw : wrap64 ((i : Int) + 1) = ((i + 1 : Nat) : Int) := by unfold wrap64; omega
        go_wp2_with fail
        go_roundw
        case rel => exact ⟨i + 1, mx n (depT y), _, by first | rfl | (simp [mx]), by first | rfl | (push_cast; rfl), rfl, by omega, hB2, hN2⟩
        case measure => simp [intOf]; omega
      · have hdc : decide ((i : Int) < (l.length : Int)) = false := decide_eq_false (by omega)
        have hr0 : depL l 0 = n := by rw [← hN.out, List.drop_eq_nil_of_le (by omega), depL]
        go_wp2_with fail
        go_ret
        exact ⟨by rw [hr0]; rfl, hB.out⟩
set_option maxHeartbeats 3200000 in
set_option maxRecDepth 100000 in
theorem Size_any {x : S36} (h : Fit x) : ∀ {A B : Option Addr} {c d : Nat} {w : World} (hr : VR w x A c B d), Calls Tryz.prog 49 #[vV x A c B d] w fun e w' => e = .returned (.int .i64 (sizT x)) ∧ Below w.heap.size w w' := by
  induction h with
  | mk x hd ht hn hs hl hx ih =>
    intro A B c d w hr
    rw [sizT_eq]
    unfold vV
    have hrl := Lib.hid hr.l
    have hcl := hr.cl
    clear hr hd ht hn hs hx
    replace ih := Lib.hid ih
    generalize x.f0 = v0
    generalize x.f1 = v1
    generalize x.f2.f0 = v2
    generalize x.f2.f1 = v3
    generalize x.f2.f2 = v4
    generalize x.f3 = v5
    generalize x.f4 = v6
    generalize x.f5.length = n7
    generalize x.f6 = l at *
    go_enter Tryz.func49, Tryz.ntmps49
    go_wp2_with fail
    generalize hw1 : World.alloc w _ = w1
    have B1 : Below w.heap.size w w1 := by rw [← hw1]; exact below_alloc (Below.refl _ _) _
    clear hw1
    replace B1 := Lib.hid B1
    go_loopw [3, 9] (fun v3 v9 w' => ∃ (i : Nat) (n : Int) (X : World), v3 = .int .i64 n ∧ v9 = .int .i64 (i : Int) ∧ X = w' ∧ i ≤ l.length ∧ Hid (Below w.heap.size w X) ∧ Hid (sizL (l.drop i) n = sizL l 1)) (fun v3 v9 _ => l.length - (intOf v9).toNat)
    case atStart => exact ⟨0, 1, _, rfl, rfl, rfl, Nat.zero_le _, B1, Lib.hid (by rw [List.drop_zero])⟩
    case round =>
      obtain ⟨i, n, X, rfl, rfl, rfl, hi, hB, hN⟩ := hrel
      by_cases ci : i < l.length
      · have hdc : decide ((i : Int) < (l.length : Int)) = true := decide_eq_true (by omega)
        have p1 : (i : Int) < (l.length : Int) := by omega
        obtain ⟨ad, A7, c7, A8, c8, rfl, h0, h1, h2, h3, h4, h5, h6, h7, h8, l7, g7, l8, g8⟩ := at_T36 (Kd.C_below hrl.out hB.out) (i : Int) (by omega) (by omega)
        rw [Int.toNat_natCast] at h0 h1 h2 h3 h4 h5 h6 h7 h8
        have hdr := drop_rd (l := l) (i := (i : Int)) (by omega) (by omega)
        have hm := rd_mem (l := l) (i := (i : Int)) (by omega) (by omega)
        have hN2 := hN.out
        rw [show ((i : Int)).toNat = i from Int.toNat_natCast i] at hdr
        rw [hdr, sizL] at hN2
        have hC := Lib.hid (fun W (hb : Below X.heap.size X W) => ih.out _ hm (VR.below (w := X) ⟨g7, l7, g8, l8⟩ hb))
        unfold vV at hC
        rw [show ((i : Int) + 1).toNat = i + 1 by omega] at hdr hN2
        generalize rd_T36 l (i : Int) = y at *
        replace hN2 := Lib.hid hN2
        replace hdr := Lib.hid hdr
        clear l7 g7 l8 g8 hm
        go_wp2_with fail
        generalize hw2 : World.alloc X _ = W
        have BX : Below X.heap.size X W := by rw [← hw2]; exact below_alloc (Below.refl _ _) _
        clear hw2
        refine (hC.out _ BX).mono ?_
        rintro e X2 ⟨rfl, B2⟩
        have hB2 := Lib.hid (below_then hB.out hB.out.size (below_then BX BX.size B2))
        clear h0 h1 h2 h3 h4 h5 h6 h7 h8 BX B2
        have hw : wrap64 ((i : Int) + 1) = ((i + 1 : Nat) : Int) := by unfold wrap64; omega
        go_wp2_with fail
        go_roundw
        case rel => exact ⟨i + 1, wrap64 (n + sizT y), _, by first | rfl | (simp), by first | rfl | (push_cast; rfl), rfl, by omega, hB2, hN2⟩
        case measure => simp [intOf]; omega
      · have hdc : decide ((i : Int) < (l.length : Int)) = false := decide_eq_false (by omega)
        have hr0 : sizL l 1 = n := by rw [← hN.out, List.drop_eq_nil_of_le (by omega), sizL]
        go_wp2_with fail
        go_ret
        exact ⟨by rw [hr0]; rfl, hB.out⟩
set_option maxHeartbeats 3200000 in
set_option maxRecDepth 100000 in
theorem big_any {x : S36} (h : Fit x) {A B : Option Addr} {c d : Nat} {w : World} (hr : VR w x A c B d) : Calls Tryz.prog 14 #[vV x A c B d] w fun e w' => ∃ b : Bool, e = .returned (.bool b) ∧ Below w.heap.size w w' := by
  obtain ⟨r1, h1⟩ := parts_total h 0 0
  obtain ⟨r2, h2⟩ := many_total h
  obtain ⟨k1, hk1⟩ := h1.rounds
  obtain ⟨k2, hk2⟩ := h2.rounds
  have hP := Lib.hid (fun W (hb : Below w.heap.size w W) => calamustop_parts.calls k1 x.f0 x.f1 x.f2.f0 x.f2.f1 x.f2.f2 x.f3 x.f4 A c x.f5 B d x.f6 0 0 r1 W (Kd.C_below hr.n hb) hr.cn (Kd.C_below hr.l hb) hr.cl hk1)
  have hM := Lib.hid (fun W (hb : Below w.heap.size w W) => calamustop_many.calls k2 x.f0 x.f1 x.f2.f0 x.f2.f1 x.f2.f2 x.f3 x.f4 A c x.f5 B d x.f6 r2 W (Kd.C_below hr.n hb) hr.cn (Kd.C_below hr.l hb) hr.cl hk2)
  unfold vV
  clear hr h1 h2 hk1 hk2 h
  generalize x.f0 = v0 at *
  generalize x.f1 = v1 at *
  generalize x.f2.f0 = v2 at *
  generalize x.f2.f1 = v3 at *
  generalize x.f2.f2 = v4 at *
  generalize x.f3 = v5 at *
  generalize x.f4 = v6 at *
  generalize x.f5.length = n7 at *
  generalize x.f6.length = n8 at *
  go_enter Tryz.func14, Tryz.ntmps14
  go_wp2_with fail
  generalize hw1 : World.alloc w _ = w1
  obtain ⟨x1, B1⟩ : w1.heap[w.heap.size]? = some (.cells #[.int .i64 v0, .bool v1, .bool v2, .string v3, .int .i64 v4, .int .u64 v5, .string v6, .slice A n7 c, .slice B n8 d] 36 (0, 0)) ∧ Below w.heap.size w w1 := by
    rw [← hw1]
    exact ⟨heap_alloc_new w _, below_alloc (Below.refl _ _) _⟩
  clear hw1
  refine (hP.out w1 B1).mono ?_
  rintro e w2 ⟨rfl, B2⟩
  have x2 := blk_below x1 B2
  have B3 := Lib.hid (below_then B1 B1.size B2)
  clear B1 B2 x1
  have q0 : ∀ j, w2.cell? ⟨w.heap.size, j, none⟩ = #[Value.int .i64 v0, .bool v1, .bool v2, .string v3, .int .i64 v4, .int .u64 v5, .string v6, .slice A n7 c, .slice B n8 d][j]? := fun j => blk_cell x2 j
  obtain ⟨c0, c1, c2, c3, c4, c5, c6, c7, c8⟩ := And.intro (q0 0) (And.intro (q0 1) (And.intro (q0 2) (And.intro (q0 3) (And.intro (q0 4) (And.intro (q0 5) (And.intro (q0 6) (And.intro (q0 7) (q0 8))))))))
  simp at c0 c1 c2 c3 c4 c5 c6 c7 c8
  have lx := blk_lt x2
  clear q0 x2
  by_cases hb : 65536 < r1
  · have hd := decide_eq_true hb
    go_wp2_with fail
    go_ret
    exact ⟨_, rfl, B3.out⟩
  · have hd := decide_eq_false hb
    go_wp2_with fail
    refine (hM.out w2 B3.out).mono ?_
    rintro e w3 ⟨rfl, B4⟩
    have B5 := below_then B3.out B3.out.size B4
    go_wp2_with fail
    go_ret
    exact ⟨_, rfl, B5⟩
end Go.Proofs.YtcpgcjmamjjokaaGreatDoor
namespace Go.Proofs.YtcpgcjmamjjokaaGreatDoor
set_option linter.unusedVariables false
set_option linter.unusedSimpArgs false

/-- The digits of a number, the highest first; none of 0. -/
def dgs (n : Nat) : List UInt8 := if h : n = 0 then [] else dgs (n / 10) ++ [UInt8.ofNat (48 + n % 10)]
decreasing_by omega
def dg (n : Nat) : List UInt8 := if n = 0 then [48] else dgs n
def dv (c : UInt8) : Nat := c.toNat - 48
def val (l : List UInt8) : Nat := l.foldl (fun a c => 10 * a + dv c) 0
def isD (l : List UInt8) : Prop := ∀ c ∈ l, 48 ≤ c.toNat ∧ c.toNat ≤ 57

theorem dgs_zero : dgs 0 = [] := by rw [dgs, dif_pos rfl]
theorem dgs_pos {n : Nat} (h : n ≠ 0) : dgs n = dgs (n / 10) ++ [UInt8.ofNat (48 + n % 10)] := by rw [dgs, dif_neg h]
theorem ofNat_dig (d : Nat) (h : d < 10) : (UInt8.ofNat (48 + d)).toNat = 48 + d := by
  rw [UInt8.toNat_ofNat']; omega
theorem val_nil : val [] = 0 := rfl
theorem val_snoc (l : List UInt8) (c : UInt8) : val (l ++ [c]) = 10 * val l + dv c := by unfold val; rw [List.foldl_append]; rfl
theorem isD_nil : isD [] := by intro c h; cases h
theorem isD_snoc {l : List UInt8} {c : UInt8} : isD (l ++ [c]) ↔ isD l ∧ 48 ≤ c.toNat ∧ c.toNat ≤ 57 := by
  unfold isD
  constructor
  · intro h
    exact ⟨fun x hx => h x (List.mem_append_left _ hx), h c (List.mem_append_right _ (List.mem_singleton.2 rfl))⟩
  · rintro ⟨h1, h2⟩ x hx
    rcases List.mem_append.1 hx with h | h
    · exact h1 x h
    · rw [List.mem_singleton.1 h]; exact h2
theorem isD_append {l m : List UInt8} : isD (l ++ m) ↔ isD l ∧ isD m := by
  unfold isD
  constructor
  · intro h
    exact ⟨fun x hx => h x (List.mem_append_left _ hx), fun x hx => h x (List.mem_append_right _ hx)⟩
  · rintro ⟨h1, h2⟩ x hx
    rcases List.mem_append.1 hx with h | h
    · exact h1 x h
    · exact h2 x h
theorem isD_zeros (k : Nat) : isD (List.replicate k 48) := by
  intro c hc; rw [List.eq_of_mem_replicate hc]; decide
theorem val_dgs (n : Nat) : val (dgs n) = n := by
  induction n using Nat.strongRecOn with
  | _ n ih =>
    by_cases h : n = 0
    · subst h; rw [dgs_zero]; rfl
    · rw [dgs_pos h, val_snoc, ih (n / 10) (by omega)]
      unfold dv
      rw [ofNat_dig _ (by omega)]; omega
theorem isD_dgs (n : Nat) : isD (dgs n) := by
  induction n using Nat.strongRecOn with
  | _ n ih =>
    by_cases h : n = 0
    · subst h; rw [dgs_zero]; exact isD_nil
    · rw [dgs_pos h, isD_snoc, ofNat_dig _ (by omega)]
      exact ⟨ih _ (by omega), by omega, by omega⟩
theorem dgs_ne {n : Nat} (h : n ≠ 0) : dgs n ≠ [] := by rw [dgs_pos h]; simp
theorem head_dgs (n : Nat) (h : n ≠ 0) : (dgs n).head? ≠ some 48 := by
  induction n using Nat.strongRecOn with
  | _ n ih =>
    rw [dgs_pos h]
    by_cases h1 : n / 10 = 0
    · rw [h1, dgs_zero]
      simp only [List.nil_append, List.head?_cons, ne_eq, Option.some.injEq]
      intro hc
      have h2 := congrArg UInt8.toNat hc
      rw [ofNat_dig _ (by omega)] at h2
      simp at h2
      omega
    · have h3 := ih (n / 10) (by omega) h1
      have h4 := dgs_ne h1
      rw [List.head?_append]
      cases hh : (dgs (n / 10)).head? with
      | none => rw [List.head?_eq_none_iff] at hh; exact absurd hh h4
      | some x => rw [hh] at h3; exact h3
theorem dv_digit {c : UInt8} (h : 48 ≤ c.toNat ∧ c.toNat ≤ 57) : UInt8.ofNat (48 + dv c) = c ∧ dv c < 10 := by
  unfold dv
  refine ⟨?_, by omega⟩
  apply UInt8.toNat_inj.1
  rw [UInt8.toNat_ofNat']; omega
theorem list_snoc_cases (l : List UInt8) : l = [] ∨ ∃ m c, l = m ++ [c] := by
  rcases List.eq_nil_or_concat l with h | ⟨m, c, h⟩
  · exact .inl h
  · exact .inr ⟨m, c, by rw [h, List.concat_eq_append]⟩
/-- Digits that begin with no nought are those of their value. -/
theorem dgs_val (n : Nat) : ∀ l : List UInt8, l.length = n → isD l → l.head? ≠ some 48 → dgs (val l) = l := by
  induction n with
  | zero => intro l hl _ _; rw [List.length_eq_zero_iff.1 hl]; rw [val_nil, dgs_zero]
  | succ n ih =>
    intro l hl hd hh
    rcases list_snoc_cases l with h | ⟨m, c, rfl⟩
    · subst h; simp at hl
    · rw [isD_snoc] at hd
      obtain ⟨hc1, hc2⟩ := dv_digit hd.2
      have hm : m.length = n := by simpa using hl
      by_cases hm0 : m = []
      · subst hm0
        rw [val_snoc, val_nil]
        have : dv c ≠ 0 := by
          intro h0
          apply hh
          rw [← hc1, h0]; rfl
        rw [dgs_pos (by omega), show (10 * 0 + dv c) / 10 = 0 by omega, dgs_zero, show (10 * 0 + dv c) % 10 = dv c by omega, hc1]
      · have hmh : m.head? ≠ some 48 := by
          intro h0; apply hh
          rw [List.head?_append, h0]; rfl
        have h1 := ih m hm hd.1 hmh
        have h2 : val m ≠ 0 := by
          intro h0; rw [h0, dgs_zero] at h1; exact hm0 h1.symm
        rw [val_snoc, dgs_pos (by omega), show (10 * val m + dv c) / 10 = val m by omega, show (10 * val m + dv c) % 10 = dv c by omega, h1, hc1]
theorem val_zeros_left (k : Nat) (l : List UInt8) : val (List.replicate k 48 ++ l) = val l := by
  unfold val
  rw [List.foldl_append]
  congr 1
  induction k with
  | zero => rfl
  | succ k ih => rw [List.replicate_succ, List.foldl_cons]; exact ih
theorem val_zeros_right (k : Nat) (l : List UInt8) : val (l ++ List.replicate k 48) = val l * 10 ^ k := by
  induction k with
  | zero => rw [List.replicate_zero, List.append_nil, Nat.pow_zero, Nat.mul_one]
  | succ k ih =>
    rw [List.replicate_succ', ← List.append_assoc, val_snoc, ih, Nat.pow_succ]
    show 10 * (val l * 10 ^ k) + 0 = _
    rw [Nat.add_zero, Nat.mul_comm 10, Nat.mul_assoc]
/-- Leading noughts struck. -/
def tl (l : List UInt8) : List UInt8 := l.dropWhile (· == 48)
theorem tl_val (l : List UInt8) (h : isD l) : tl l = dgs (val l) := by
  induction l with
  | nil => rw [val_nil, dgs_zero]; rfl
  | cons c l ih =>
    unfold tl
    by_cases hc : c = 48
    · subst hc
      rw [List.dropWhile_cons_of_pos (by decide)]
      have h1 := ih (fun x hx => h x (List.mem_cons_of_mem _ hx))
      unfold tl at h1
      rw [h1]
      exact congrArg dgs (val_zeros_left 1 l).symm
    · rw [List.dropWhile_cons_of_neg (by simpa using hc)]
      exact (dgs_val _ (c :: l) rfl h (by simpa using hc)).symm
/-- A number without the noughts at its end, and how many there were. -/
def cz (n : Nat) : Nat × Nat := if h : n ≠ 0 ∧ n % 10 = 0 then ((cz (n / 10)).1, (cz (n / 10)).2 + 1) else (n, 0)
decreasing_by all_goals omega
theorem cz_step {n : Nat} (h : n ≠ 0) (h0 : n % 10 = 0) : cz n = ((cz (n / 10)).1, (cz (n / 10)).2 + 1) := by rw [cz, dif_pos ⟨h, h0⟩]
theorem cz_stop {n : Nat} (h : n = 0 ∨ n % 10 ≠ 0) : cz n = (n, 0) := by rw [cz, dif_neg]; omega
theorem cz_mul (n : Nat) : (cz n).1 * 10 ^ (cz n).2 = n ∧ (n ≠ 0 → (cz n).1 % 10 ≠ 0) ∧ (n ≠ 0 → (cz n).1 ≠ 0) ∧ (cz n).1 ≤ n := by
  induction n using Nat.strongRecOn with
  | _ n ih =>
    by_cases h : n ≠ 0 ∧ n % 10 = 0
    · rw [cz_step h.1 h.2]
      obtain ⟨h1, h2, h3, h4⟩ := ih (n / 10) (by omega)
      refine ⟨?_, fun _ => h2 (by omega), fun _ => h3 (by omega), by simp only []; omega⟩
      simp only []
      rw [Nat.pow_succ, ← Nat.mul_assoc, h1]; omega
    · rw [cz_stop (by omega)]
      exact ⟨by simp, fun _ => by omega, fun _ => by omega, Nat.le_refl _⟩
theorem cz_mul10 (n k : Nat) (h : n ≠ 0) : cz (n * 10 ^ k) = ((cz n).1, (cz n).2 + k) := by
  induction k with
  | zero => simp
  | succ k ih =>
    have h1 : n * 10 ^ (k + 1) = n * 10 ^ k * 10 := by rw [Nat.pow_succ, Nat.mul_assoc]
    have h2 : n * 10 ^ k ≠ 0 := Nat.mul_ne_zero h (by simp)
    rw [h1, cz_step (by omega) (by omega), show n * 10 ^ k * 10 / 10 = n * 10 ^ k by omega, ih]
    rfl
theorem dgs_mul10 (n k : Nat) (h : n ≠ 0) : dgs (n * 10 ^ k) = dgs n ++ List.replicate k 48 := by
  induction k with
  | zero => simp
  | succ k ih =>
    have h1 : n * 10 ^ (k + 1) = n * 10 ^ k * 10 := by rw [Nat.pow_succ, Nat.mul_assoc]
    have h2 : n * 10 ^ k ≠ 0 := Nat.mul_ne_zero h (by simp)
    rw [h1, dgs_pos (by omega), show n * 10 ^ k * 10 / 10 = n * 10 ^ k by omega, show n * 10 ^ k * 10 % 10 = 0 by omega, ih, List.replicate_succ', List.append_assoc]
    rfl
theorem last_dgs (n : Nat) (h : n % 10 ≠ 0) : (dgs n).getLast? ≠ some 48 := by
  rw [dgs_pos (by omega), List.getLast?_append]
  simp only [List.getLast?_singleton, Option.some_or, ne_eq, Option.some.injEq]
  intro hc
  have h2 := congrArg UInt8.toNat hc
  rw [ofNat_dig _ (by omega)] at h2
  simp at h2
  omega
/-- Noughts at the end struck. -/
def tr (l : List UInt8) : List UInt8 := (l.reverse.dropWhile (· == 48)).reverse
theorem tr_dgs (n : Nat) (h : n ≠ 0) : tr (dgs n) = dgs (cz n).1 ∧ (dgs n).length = (dgs (cz n).1).length + (cz n).2 := by
  obtain ⟨h1, h2, h3, _⟩ := cz_mul n
  have h4 := dgs_mul10 (cz n).1 (cz n).2 (h3 h)
  rw [h1] at h4
  refine ⟨?_, by rw [h4]; simp⟩
  unfold tr
  rw [h4, List.reverse_append, List.reverse_replicate]
  have h5 := last_dgs _ (h2 h)
  have h6 : ∀ k (m : List UInt8), m.head? ≠ some 48 → (List.replicate k 48 ++ m).dropWhile (· == 48) = m := by
    intro k m hm
    induction k with
    | zero =>
      cases m with
      | nil => rfl
      | cons c m => rw [List.replicate_zero, List.nil_append, List.dropWhile_cons_of_neg (by simpa using hm)]
    | succ k ih => rw [List.replicate_succ, List.cons_append, List.dropWhile_cons_of_pos (by decide)]; exact ih
  rw [h6 _ _ (by rw [List.head?_reverse]; exact h5), List.reverse_reverse]
theorem dgs_len (n k : Nat) (h : n < 10 ^ k) : (dgs n).length ≤ k := by
  induction k generalizing n with
  | zero => rw [show n = 0 by simpa using h, dgs_zero]; simp
  | succ k ih =>
    by_cases h0 : n = 0
    · subst h0; rw [dgs_zero]; simp
    · rw [dgs_pos h0]
      have := ih (n / 10) (by rw [Nat.pow_succ] at h; omega)
      simp; omega
theorem cz_small (n k : Nat) (h : n < 10 ^ k) (h0 : n ≠ 0) : (cz n).2 < k := by
  obtain ⟨h1, _, h3, _⟩ := cz_mul n
  have h4 : 10 ^ (cz n).2 < 10 ^ k := by
    have h5 : 10 ^ (cz n).2 ≤ (cz n).1 * 10 ^ (cz n).2 := Nat.le_mul_of_pos_left _ (Nat.pos_of_ne_zero (h3 h0))
    rw [h1] at h5
    exact Nat.lt_of_le_of_lt h5 h
  exact (Nat.pow_lt_pow_iff_right (by decide)).1 h4
end Go.Proofs.YtcpgcjmamjjokaaGreatDoor
namespace Go.Proofs.YtcpgcjmamjjokaaGreatDoor
set_option linter.unusedVariables false
set_option linter.unusedSimpArgs false

theorem foldl_val (l : List UInt8) (a : Nat) : l.foldl (fun a c => 10 * a + dv c) a = a * 10 ^ l.length + val l := by
  induction l generalizing a with
  | nil => simp [val]
  | cons c l ih =>
    unfold val
    rw [List.foldl_cons, List.foldl_cons, ih, ih (10 * 0 + dv c), List.length_cons, Nat.pow_succ, Nat.add_mul, Nat.mul_zero, Nat.zero_add]
    rw [show 10 * a * 10 ^ l.length = a * (10 ^ l.length * 10) by rw [Nat.mul_comm 10 a, Nat.mul_assoc, Nat.mul_comm 10]]
    omega
theorem val_cons (c : UInt8) (l : List UInt8) : val (c :: l) = dv c * 10 ^ l.length + val l := by
  have h := foldl_val l (dv c)
  rw [← h]
  unfold val
  rw [List.foldl_cons, Nat.mul_zero, Nat.zero_add]
theorem isD_cons {c : UInt8} {l : List UInt8} : isD (c :: l) ↔ (48 ≤ c.toNat ∧ c.toNat ≤ 57) ∧ isD l := by
  unfold isD; simp
theorem val_lt (l : List UInt8) (h : isD l) : val l < 10 ^ l.length := by
  induction l with
  | nil => simp [val]
  | cons c l ih =>
    rw [isD_cons] at h
    have h1 := ih h.2
    have h2 := (dv_digit h.1).2
    rw [val_cons, List.length_cons, Nat.pow_succ]
    have h3 : dv c * 10 ^ l.length ≤ 9 * 10 ^ l.length := Nat.mul_le_mul_right _ (by omega)
    omega
/-- One round of the sum: from place j down. -/
theorem drop_cons {p : List UInt8} {i : Nat} {x : UInt8} (h : p[i]? = some x) : p.drop i = x :: p.drop (i + 1) := by
  obtain ⟨h1, h2⟩ := List.getElem?_eq_some_iff.1 h
  rw [List.drop_eq_getElem_cons h1, h2]
theorem add_step (p q r : List UInt8) (L j : Nat) (s c c' : Int) (v : Nat) (x y : UInt8) (hp : p.length = L) (hq : q.length = L) (hj : 0 < j) (hjl : j ≤ L) (hr : r.length = L - j)
    (hI : (val (p.drop j) : Int) + s * (val (q.drop j) : Int) = (val r : Int) + c * ((10 ^ (L - j) : Nat) : Int)) (hv : v < 10)
    (hx : p[j - 1]? = some x) (hy : q[j - 1]? = some y) (hd : ((dv x : Nat) : Int) + s * ((dv y : Nat) : Int) + c = v + 10 * c') :
    (val (p.drop (j - 1)) : Int) + s * (val (q.drop (j - 1)) : Int) = (val (UInt8.ofNat (48 + v) :: r) : Int) + c' * ((10 ^ (L - (j - 1)) : Nat) : Int) := by
  have h1 := drop_cons hx
  have h2 := drop_cons hy
  rw [show j - 1 + 1 = j by omega] at h1 h2
  have h3 : dv (UInt8.ofNat (48 + v)) = v := by unfold dv; rw [ofNat_dig _ hv]; omega
  rw [h1, h2, val_cons, val_cons, val_cons, h3, List.length_drop, List.length_drop, hp, hq, hr, show L - (j - 1) = (L - j) + 1 by omega, Nat.pow_succ]
  generalize 10 ^ (L - j) = T at *
  generalize dv x = x at *
  generalize dv y = y at *
  have h4 : (v : Int) + 10 * c' = (x : Int) + s * (y : Int) + c := hd.symm
  have h5 : ((v : Int) + 10 * c') * (T : Int) = ((x : Int) + s * (y : Int) + c) * (T : Int) := by rw [h4]
  rw [Int.add_mul, Int.add_mul, Int.add_mul, Int.mul_assoc 10, Int.mul_assoc s] at h5
  push_cast
  rw [Int.mul_add]
  have h6 : c' * ((T : Int) * 10) = 10 * (c' * (T : Int)) := by rw [← Int.mul_assoc, Int.mul_comm]
  rw [h6]
  generalize c' * (T : Int) = A at *
  generalize c * (T : Int) = B at *
  generalize s * ((y : Int) * (T : Int)) = C at *
  generalize (v : Int) * (T : Int) = D at *
  generalize (x : Int) * (T : Int) = E at *
  generalize s * (val (q.drop j) : Int) = F at *
  omega

/-- The number t as the program has it. -/
def NB (t : Int) : Bool := decide (t < 0)
def ND (t : Int) : List UInt8 := dg (cz t.natAbs).1
def NE (t : Int) : Nat := (cz t.natAbs).2
theorem NE_zero : NE 0 = 0 := by unfold NE; rw [show (0 : Int).natAbs = 0 from rfl, cz_stop (.inl rfl)]
theorem ND_zero : ND 0 = [48] := by unfold ND; rw [show (0 : Int).natAbs = 0 from rfl, cz_stop (.inl rfl)]; rfl
theorem ND_pos {t : Int} (h : t ≠ 0) : ND t = dgs (cz t.natAbs).1 := by
  unfold ND dg
  rw [if_neg ((cz_mul t.natAbs).2.2.1 (by omega))]
theorem isD_ND (t : Int) : isD (ND t) := by
  unfold ND dg
  split
  · intro c hc; rw [List.mem_singleton.1 hc]; decide
  · exact isD_dgs _
theorem val_ND (t : Int) : val (ND t) * 10 ^ NE t = t.natAbs := by
  by_cases h : t = 0
  · subst h; rw [ND_zero, NE_zero]; rfl
  · rw [ND_pos h, val_dgs]; exact (cz_mul t.natAbs).1
theorem val_lv (t : Int) (e z : Nat) (he : e ≤ NE t) : val (List.replicate z 48 ++ (ND t ++ List.replicate (NE t - e) 48)) * 10 ^ e = t.natAbs := by
  rw [val_zeros_left, val_zeros_right, Nat.mul_assoc, ← Nat.pow_add, show NE t - e + e = NE t by omega, val_ND]
theorem ND_of {t : Int} {V e : Nat} (h : t.natAbs = V * 10 ^ e) (hV : V ≠ 0) : ND t = dgs (cz V).1 ∧ NE t = (cz V).2 + e := by
  have h1 : t ≠ 0 := by
    intro h0; rw [h0] at h
    have := Nat.mul_ne_zero hV (show 10 ^ e ≠ 0 by simp)
    simp at h; omega
  rw [ND_pos h1]
  unfold NE
  rw [h, cz_mul10 V e hV]
  exact ⟨rfl, rfl⟩
/-- The sign. -/
theorem sum_same (a b : Int) (P Q e : Nat) (h : NB a = NB b) (ha : P * 10 ^ e = a.natAbs) (hb : Q * 10 ^ e = b.natAbs) : (a + b).natAbs = (P + Q) * 10 ^ e ∧ (P + Q ≠ 0 → NB (a + b) = NB a) := by
  unfold NB at h
  rw [decide_eq_decide] at h
  rw [Nat.add_mul, ha, hb]
  refine ⟨by omega, fun hn => ?_⟩
  unfold NB
  rw [decide_eq_decide]
  omega
theorem sum_other (a b : Int) (P Q e : Nat) (h : NB a ≠ NB b) (hPQ : Q ≤ P) (ha : P * 10 ^ e = a.natAbs) (hb : Q * 10 ^ e = b.natAbs) : (a + b).natAbs = (P - Q) * 10 ^ e ∧ (P - Q ≠ 0 → NB (a + b) = NB a) := by
  unfold NB at h
  rw [ne_eq, decide_eq_decide] at h
  have hle : Q * 10 ^ e ≤ P * 10 ^ e := Nat.mul_le_mul_right _ hPQ
  rw [Nat.sub_mul, ha, hb]
  rw [ha, hb] at hle
  refine ⟨by omega, fun hn => ?_⟩
  have hlt : Q * 10 ^ e < P * 10 ^ e := Nat.mul_lt_mul_of_pos_right (by omega) (Nat.pos_of_ne_zero (by simp))
  rw [ha, hb] at hlt
  unfold NB
  rw [decide_eq_decide]
  omega
/-- What is well. -/
theorem ND_len (t : Int) (k : Nat) (h : t.natAbs < 10 ^ k) (hk : 1 ≤ k) : (ND t).length ≤ k := by
  by_cases h0 : t = 0
  · subst h0; rw [ND_zero]; simpa using hk
  · rw [ND_pos h0]
    exact dgs_len _ k (Nat.lt_of_le_of_lt (cz_mul t.natAbs).2.2.2 h)
theorem NE_lt (t : Int) (k : Nat) (h : t.natAbs < 10 ^ k) (hk : 1 ≤ k) : NE t < k := by
  by_cases h0 : t = 0
  · subst h0; rw [NE_zero]; omega
  · exact cz_small _ k h (by omega)
theorem ND_head {t : Int} (h : t ≠ 0) : (ND t).head? ≠ some 48 ∧ (ND t).getLast? ≠ some 48 ∧ ND t ≠ [] := by
  rw [ND_pos h]
  obtain ⟨_, h2, h3, _⟩ := cz_mul t.natAbs
  have h3' := h3 (by omega)
  exact ⟨head_dgs _ h3', last_dgs _ (h2 (by omega)), dgs_ne h3'⟩
end Go.Proofs.YtcpgcjmamjjokaaGreatDoor
namespace Go.Proofs.YtcpgcjmamjjokaaGreatDoor
open Go.RowKit Go.Proofs.YtcpgcjmamjjokaaGreatDoorW.PrintWords Go.Proofs.YtcpgcjmamjjokaaGreatDoorW.PrintMore
set_option linter.unusedVariables false
set_option linter.unusedSimpArgs false
theorem blk1 {w : World} {g : Nat} {t : TypeId} {v0 : Value} (h : w.heap[g]? = some (.cells #[v0] t (0, 0))) : w.cell? ⟨g, 0, none⟩ = some v0 ∧ w.frozen? ⟨g, 0, none⟩ = false :=
  ⟨(blk_cell h 0).trans rfl, blk_frozen h 0⟩
theorem blk2 {w : World} {g : Nat} {t : TypeId} {v0 v1 : Value} (h : w.heap[g]? = some (.cells #[v0, v1] t (0, 0))) : w.cell? ⟨g, 0, none⟩ = some v0 ∧ w.cell? ⟨g, 1, none⟩ = some v1 ∧ w.frozen? ⟨g, 0, none⟩ = false ∧ w.frozen? ⟨g, 1, none⟩ = false :=
  ⟨(blk_cell h 0).trans rfl, (blk_cell h 1).trans rfl, blk_frozen h 0, blk_frozen h 1⟩
theorem blk3 {w : World} {g : Nat} {t : TypeId} {v0 v1 v2 : Value} (h : w.heap[g]? = some (.cells #[v0, v1, v2] t (0, 0))) : w.cell? ⟨g, 0, none⟩ = some v0 ∧ w.cell? ⟨g, 1, none⟩ = some v1 ∧ w.cell? ⟨g, 2, none⟩ = some v2 ∧ w.frozen? ⟨g, 0, none⟩ = false ∧ w.frozen? ⟨g, 1, none⟩ = false ∧ w.frozen? ⟨g, 2, none⟩ = false :=
  ⟨(blk_cell h 0).trans rfl, (blk_cell h 1).trans rfl, (blk_cell h 2).trans rfl, blk_frozen h 0, blk_frozen h 1, blk_frozen h 2⟩
theorem blk4 {w : World} {g : Nat} {t : TypeId} {v0 v1 v2 v3 : Value} (h : w.heap[g]? = some (.cells #[v0, v1, v2, v3] t (0, 0))) : w.cell? ⟨g, 0, none⟩ = some v0 ∧ w.cell? ⟨g, 1, none⟩ = some v1 ∧ w.cell? ⟨g, 2, none⟩ = some v2 ∧ w.cell? ⟨g, 3, none⟩ = some v3 ∧ w.frozen? ⟨g, 0, none⟩ = false ∧ w.frozen? ⟨g, 1, none⟩ = false ∧ w.frozen? ⟨g, 2, none⟩ = false ∧ w.frozen? ⟨g, 3, none⟩ = false :=
  ⟨(blk_cell h 0).trans rfl, (blk_cell h 1).trans rfl, (blk_cell h 2).trans rfl, (blk_cell h 3).trans rfl, blk_frozen h 0, blk_frozen h 1, blk_frozen h 2, blk_frozen h 3⟩
theorem blk5 {w : World} {g : Nat} {t : TypeId} {v0 v1 v2 v3 v4 : Value} (h : w.heap[g]? = some (.cells #[v0, v1, v2, v3, v4] t (0, 0))) : w.cell? ⟨g, 0, none⟩ = some v0 ∧ w.cell? ⟨g, 1, none⟩ = some v1 ∧ w.cell? ⟨g, 2, none⟩ = some v2 ∧ w.cell? ⟨g, 3, none⟩ = some v3 ∧ w.cell? ⟨g, 4, none⟩ = some v4 ∧ w.frozen? ⟨g, 0, none⟩ = false ∧ w.frozen? ⟨g, 1, none⟩ = false ∧ w.frozen? ⟨g, 2, none⟩ = false ∧ w.frozen? ⟨g, 3, none⟩ = false ∧ w.frozen? ⟨g, 4, none⟩ = false :=
  ⟨(blk_cell h 0).trans rfl, (blk_cell h 1).trans rfl, (blk_cell h 2).trans rfl, (blk_cell h 3).trans rfl, (blk_cell h 4).trans rfl, blk_frozen h 0, blk_frozen h 1, blk_frozen h 2, blk_frozen h 3, blk_frozen h 4⟩
theorem blk7 {w : World} {g : Nat} {t : TypeId} {v0 v1 v2 v3 v4 v5 v6 : Value} (h : w.heap[g]? = some (.cells #[v0, v1, v2, v3, v4, v5, v6] t (0, 0))) : w.cell? ⟨g, 0, none⟩ = some v0 ∧ w.cell? ⟨g, 1, none⟩ = some v1 ∧ w.cell? ⟨g, 2, none⟩ = some v2 ∧ w.cell? ⟨g, 3, none⟩ = some v3 ∧ w.cell? ⟨g, 4, none⟩ = some v4 ∧ w.cell? ⟨g, 5, none⟩ = some v5 ∧ w.cell? ⟨g, 6, none⟩ = some v6 ∧ w.frozen? ⟨g, 0, none⟩ = false ∧ w.frozen? ⟨g, 1, none⟩ = false ∧ w.frozen? ⟨g, 2, none⟩ = false ∧ w.frozen? ⟨g, 3, none⟩ = false ∧ w.frozen? ⟨g, 4, none⟩ = false ∧ w.frozen? ⟨g, 5, none⟩ = false ∧ w.frozen? ⟨g, 6, none⟩ = false :=
  ⟨(blk_cell h 0).trans rfl, (blk_cell h 1).trans rfl, (blk_cell h 2).trans rfl, (blk_cell h 3).trans rfl, (blk_cell h 4).trans rfl, (blk_cell h 5).trans rfl, (blk_cell h 6).trans rfl, blk_frozen h 0, blk_frozen h 1, blk_frozen h 2, blk_frozen h 3, blk_frozen h 4, blk_frozen h 5, blk_frozen h 6⟩
theorem blk9 {w : World} {g : Nat} {t : TypeId} {v0 v1 v2 v3 v4 v5 v6 v7 v8 : Value} (h : w.heap[g]? = some (.cells #[v0, v1, v2, v3, v4, v5, v6, v7, v8] t (0, 0))) : w.cell? ⟨g, 0, none⟩ = some v0 ∧ w.cell? ⟨g, 1, none⟩ = some v1 ∧ w.cell? ⟨g, 2, none⟩ = some v2 ∧ w.cell? ⟨g, 3, none⟩ = some v3 ∧ w.cell? ⟨g, 4, none⟩ = some v4 ∧ w.cell? ⟨g, 5, none⟩ = some v5 ∧ w.cell? ⟨g, 6, none⟩ = some v6 ∧ w.cell? ⟨g, 7, none⟩ = some v7 ∧ w.cell? ⟨g, 8, none⟩ = some v8 ∧ w.frozen? ⟨g, 0, none⟩ = false ∧ w.frozen? ⟨g, 1, none⟩ = false ∧ w.frozen? ⟨g, 2, none⟩ = false ∧ w.frozen? ⟨g, 3, none⟩ = false ∧ w.frozen? ⟨g, 4, none⟩ = false ∧ w.frozen? ⟨g, 5, none⟩ = false ∧ w.frozen? ⟨g, 6, none⟩ = false ∧ w.frozen? ⟨g, 7, none⟩ = false ∧ w.frozen? ⟨g, 8, none⟩ = false :=
  ⟨(blk_cell h 0).trans rfl, (blk_cell h 1).trans rfl, (blk_cell h 2).trans rfl, (blk_cell h 3).trans rfl, (blk_cell h 4).trans rfl, (blk_cell h 5).trans rfl, (blk_cell h 6).trans rfl, (blk_cell h 7).trans rfl, (blk_cell h 8).trans rfl, blk_frozen h 0, blk_frozen h 1, blk_frozen h 2, blk_frozen h 3, blk_frozen h 4, blk_frozen h 5, blk_frozen h 6, blk_frozen h 7, blk_frozen h 8⟩
theorem alloc2 (w : World) (o o' : Obj) : ((w.alloc o).alloc o').heap[w.heap.size + 1]? = some o' := by
  have h := heap_alloc_new (w.alloc o) o'
  rw [show (w.alloc o).heap.size = w.heap.size + 1 from Array.size_push _] at h
  exact h
structure Kp (w w' : World) (S : Nat → Prop) : Prop where
  os : w'.os = w.os
  tape : w'.tape = w.tape
  output : w'.output = w.output
  size : w.heap.size ≤ w'.heap.size
  block : ∀ k, k < w.heap.size → ¬ S k → w'.heap[k]? = w.heap[k]?

theorem Kp.refl (w : World) (S : Nat → Prop) : Kp w w S := ⟨rfl, rfl, rfl, Nat.le_refl _, fun _ _ _ => rfl⟩
theorem Kp.of_below {w w' : World} (h : Below w.heap.size w w') (S : Nat → Prop) : Kp w w' S := ⟨h.os, h.tape, h.output, h.size, fun k hk _ => h.block k hk⟩
theorem Kp.trans {w w1 w2 : World} {S S2 : Nat → Prop} (h : Kp w w1 S) (k : Kp w1 w2 S2) (hs : ∀ i, S2 i → S i ∨ w.heap.size ≤ i) : Kp w w2 S :=
  ⟨k.os.trans h.os, k.tape.trans h.tape, k.output.trans h.output, Nat.le_trans h.size k.size,
   fun i hi hn => (k.block i (Nat.lt_of_lt_of_le hi h.size) (fun h2 => (hs i h2).elim hn (fun h3 => by omega))).trans (h.block i hi hn)⟩
theorem Kp.mono {w w' : World} {S S2 : Nat → Prop} (h : Kp w w' S) (hs : ∀ i, S i → S2 i) : Kp w w' S2 := ⟨h.os, h.tape, h.output, h.size, fun i hi hn => h.block i hi (fun hk => hn (hs i hk))⟩
theorem Kp.below {w w1 w2 : World} {S : Nat → Prop} (h : Kp w w1 S) (k : Below w1.heap.size w1 w2) : Kp w w2 S := h.trans (Kp.of_below k (fun _ => False)) (fun _ hk => hk.elim)
theorem Kp.set_ {w w1 : World} {S : Nat → Prop} (h : Kp w w1 S) {p : Addr} (hp : S p.block ∨ w.heap.size ≤ p.block) (u : Value) : Kp w (w1.setCell p u) S :=
  h.trans (S2 := fun k => k = p.block) ⟨rfl, rfl, rfl, by simp [World.setCell], fun i _ hn => Below.heap_setCell w1 p u i hn⟩ (fun k hk => by rw [hk]; exact hp)
theorem Kp.grown {w w1 w2 : World} {S : Nat → Prop} {row : Option Nat} (h : Kp w w1 S) (hg : w1.grownBy w2 row) (hr : ∀ k, row = some k → S k ∨ w.heap.size ≤ k) : Kp w w2 S :=
  h.trans (S2 := fun k => row = some k) ⟨hg.os, hg.tape, hg.output, hg.size, fun i hi hn => hg.block i hi (fun he => hn he.symm)⟩ hr
theorem Kp.drew {w w' : World} {S : Nat → Prop} (h : Kp w w' S) : Kp w w'.drew S := ⟨h.os, h.tape, h.output, h.size, h.block⟩
theorem Kp.drewN {w w' : World} {S : Nat → Prop} (h : Kp w w' S) (n : Nat) : Kp w (w'.drewN n) S := ⟨h.os, h.tape, h.output, h.size, h.block⟩
theorem Kp.alloc {w w' : World} {S : Nat → Prop} (h : Kp w w' S) (o : Obj) : Kp w (w'.alloc o) S := h.below (below_alloc (Below.refl _ _) o)
theorem Kp.toBelow {w w' : World} {S : Nat → Prop} {B : Nat} {w0 : World} (h : Kp w w' S) (hb : Below B w0 w) (hB : B ≤ w.heap.size) (hS : ∀ k, S k → B ≤ k) : Below B w0 w' :=
  hb.trans ⟨h.os, h.tape, h.output, h.size, fun k hk => h.block k (Nat.lt_of_lt_of_le hk hB) (fun hs => by have := hS k hs; omega)⟩
theorem Kp.heap {w w' : World} {S : Nat → Prop} (h : Kp w w' S) {g : Nat} {o : Obj} (hg : w.heap[g]? = some o) (hn : ¬ S g) : w'.heap[g]? = some o := (h.block g (blk_lt hg) hn).trans hg
theorem Kp.own {w w' : World} {S : Nat → Prop} (h : Kp w w' S) {base : Nat} {e : TypeId} {size n : Nat} {v : Value} {xs : List Value} (ho : w.ownsRow base e size v n xs) (hn : ∀ k, v.ownBlock = some k → ¬ S k) : w'.ownsRow base e size v n xs := by
  refine ⟨ho.1, ?_⟩
  rcases ho.2 with hc | ⟨g, cap, cur, rfl, hb, hh, r⟩
  · exact .inl hc
  · exact .inr ⟨g, cap, cur, rfl, hb, h.heap hh (hn g rfl), r⟩
theorem Kp.cell {w w' : World} {S : Nat → Prop} (h : Kp w w' S) {a : Addr} {v : Value} (hc : w.cell? a = some v) (hn : ¬ S a.block) : w'.cell? a = some v :=
  (World.cell?_of_block (h.block a.block (World.block_lt_of_cell? w a hc) hn)).trans hc
/-- An event. -/
def ev (k : Int) (neg : Bool) (d : ByteArray) (x : Int) : Value := .agg #[.int .i64 k, .bool false, .bool neg, .string d, .int .i64 x, .int .u64 0, .string ⟨#[]⟩]
end Go.Proofs.YtcpgcjmamjjokaaGreatDoor
namespace Go.Proofs.YtcpgcjmamjjokaaGreatDoor
open Go.RowKit Go.Maps Go.Proofs.YtcpgcjmamjjokaaGreatDoorW.PrintWords Go.Proofs.YtcpgcjmamjjokaaGreatDoorW.PrintMore Go.Proofs.YtcpgcjmamjjokaaGreatDoor.PTopLimits
set_option linter.unusedVariables false
set_option linter.unusedSimpArgs false
/-- Is a text one of these? -/
def inB (s : ByteArray) (S : List ByteArray) : Bool := decide (s.data.toList ∈ S.map fun t => t.data.toList)
/-- A map holds the texts of S (at most n of them), each with true. -/
def SetAt (w : World) (b n : Nat) (S : List ByteArray) : Prop :=
  ∃ D : DataW Unit, w.ownsMap Tryz.prog 9 (plainElem Tryz.prog 4) b n D ∧ ∀ s : ByteArray, s.size ≤ maxLen → D.atKey (.string s.data.toList) (.lit (.bool false)) = .lit (.bool (inB s S))
theorem keyed9 : Keyed Tryz.prog 9 := string_keyed Tryz.underlying9
theorem SetAt.made (w : World) : SetAt (w.alloc (.map #[] 0)) w.heap.size 0 [] :=
  ⟨.map [], World.ownsMap_made w _ _ _, fun s _ => by simp [DataW.atKey, inB]⟩
theorem SetAt.lt {w : World} {b n : Nat} {S : List ByteArray} (h : SetAt w b n S) : b < w.heap.size := by
  obtain ⟨D, h, _⟩ := h
  exact h.lt
theorem SetAt.kept {w w' : World} {b n : Nat} {S : List ByteArray} {row : Option Nat} (h : SetAt w b n S) (hg : w.grownBy w' row) (hne : some b ≠ row) : SetAt w' b n S := by
  obtain ⟨D, h, hD⟩ := h
  exact ⟨D, h.kept hg hne, hD⟩
theorem SetAt.heap {w w' : World} {b n : Nat} {S : List ByteArray} (h : SetAt w b n S) (hb : w'.heap[b]? = w.heap[b]?) : SetAt w' b n S := by
  obtain ⟨D, ⟨es, clock, h1, F, hs, hD'⟩, hD⟩ := h
  exact ⟨D, ⟨es, clock, hb.trans h1, F, hs, hD'⟩, hD⟩
theorem SetAt.below {w w' : World} {b n : Nat} {S : List ByteArray} (h : SetAt w b n S) (hb : Below w.heap.size w w') : SetAt w' b n S := h.heap (hb.block b h.lt)
theorem plainElem_bool_inv {P : Program} {e : TypeId} (he : P.underlying e = some .bool) {v : Value} {z : DataW Unit × List MemPlace} (h : plainElem P e v = some z) : ∃ b, v = .bool b ∧ z = (.lit (.bool b), []) := by
  unfold plainElem at h
  rw [he] at h
  cases v with
  | bool b => exact ⟨b, rfl, (Option.some.inj h).symm⟩
  | _ => cases h
theorem SetAt.look {w : World} {b n : Nat} {S : List ByteArray} (h : SetAt w b n S) {s : ByteArray} (hs : s.size ≤ maxLen) :
    (Instr.lookup 176 (.map (some b)) (.string s) false).run Tryz.prog w = .ok (.bool (inB s S)) w := by
  obtain ⟨D, h, hD⟩ := h
  obtain ⟨v, ps, hrun, hv⟩ := h.lookup keyed9 Tryz.underlying176 (z := .bool false) (by kernel_rfl) (plainElem_bool Tryz.underlying4 false) (Go.WideMaps.keyOf_string_mk Tryz.underlying9 hs)
  obtain ⟨c, rfl, hc⟩ := plainElem_bool_inv Tryz.underlying4 hv
  rw [hD s hs] at hc
  simp only [Prod.mk.injEq, DataW.lit.injEq, Lit.bool.injEq] at hc
  rw [hrun, hc.1]
theorem SetAt.put {w : World} {b n : Nat} {S : List ByteArray} (h : SetAt w b n S) (hn : n < maxLen) {s : ByteArray} (hs : s.size ≤ maxLen) :
    ∃ w', (Instr.mapUpdate 176 (.map (some b)) (.string s) (.bool true)).run Tryz.prog w = .ok () w' ∧ SetAt w' b (n + 1) (s :: S) ∧ w.grownBy w' (some b) := by
  obtain ⟨D, h, hD⟩ := h
  obtain ⟨w', hrun, ho, hg⟩ := h.update keyed9 Tryz.underlying176 hn (Go.WideMaps.keyOf_string_mk Tryz.underlying9 hs) (plainElem_bool Tryz.underlying4 true)
  refine ⟨w', hrun, ⟨_, ho, fun t ht => ?_⟩, hg⟩
  by_cases e : t.data.toList = s.data.toList
  · rw [e, atKey_put_same h.isMap (by simp [WideAt.IsKeyLit])]
    simp [inB, e]
  · rw [atKey_put_other (fun he => e (by injection he)), hD t ht]
    simp [inB, e]
end Go.Proofs.YtcpgcjmamjjokaaGreatDoor
