/- Texts that are well; numbers that are well (any struct). A row of names: texts that are well, no two alike. slices.IndexFunc, ContainsFunc over values and over texts, whatever function literal is asked. value.formed: is a struct a value, but for the limits? value.Check of any struct. value.Check of any struct; the writers refuse what it refuses. The writers refuse what value.Check refuses; TopLimits, but for what the formats say of one value. -/
import Derived.Test.YtcpgcjmamjjokaaGreatDoorGa
import Derived.Test.YtcpgcjmamjjokaaGreatDoorGb
import Derived.LoopTactic
import Derived.Deep.DeepCutAuto
import Derived.Deep.CutBlock
namespace Go.Proofs.YtcpgcjmamjjokaaGreatDoor
open Go.RowKit Go.Maps Go.Proofs.YtcpgcjmamjjokaaGreatDoorW.PrintWords Go.Proofs.YtcpgcjmamjjokaaGreatDoorW.PrintMore Go.Proofs.YtcpgcjmamjjokaaGreatDoor.PTopLimits
set_option linter.unusedVariables false
set_option linter.unusedSimpArgs false
/-- The tables of unicode/utf8 lie in memory. -/
theorem tabs_below {w w' : World} (hT : Lib.Utf8Tabs 0 1 w) (hw : 2 ≤ w.heap.size) (hb : Below w.heap.size w w') : Lib.Utf8Tabs 0 1 w' := Utf8Tabs_below hT hb
theorem Valid_any (s : ByteArray) (hs : s.size ≤ 9223372036854775807) (w : World) (hT : Lib.Utf8Tabs 0 1 w) :
    Calls Tryz.prog 91 #[.string s] w fun e w' => e = .returned (.bool (Lib.validD s.data.toList)) ∧ Below w.heap.size w w' := by
  have hV := Lib.hid (fun w hT => Tryz.utf8_ValidString s w hs hT)
  go_enter Tryz.func91, Tryz.ntmps91
  go_wp2_with fail
  refine (hV.out _ hT).mono ?_
  rintro e w1 ⟨rfl, B1⟩
  go_wp2_with fail
  go_ret
  exact ⟨rfl, B1⟩
def ten : ByteArray := ⟨#[48, 49, 50, 51, 52, 53, 54, 55, 56, 57]⟩
/-- Digits alone, and some. -/
def dgB (s : ByteArray) : Bool := !(decide (s.data.toList = [])) && decide (Lib.trimS s.data.toList ten.data.toList = [])
theorem gdigits (s : ByteArray) (hs : s.size ≤ 140737488351232) (w : World) : Calls Tryz.prog 119 #[.string s] w fun e w' => e = .returned (.bool (dgB s)) ∧ Below w.heap.size w w' := by
  have hT := Lib.hid (fun w => Any.strings_Trim_laid Tryz.lays160 set225 s ten w (by omega) (by decide) (ascii_of_all (by decide)))
  by_cases h0 : s.toList = []
  · have hd : dgB s = false := by simp [dgB, ← Lib.toList_data, h0]
    go_enter Tryz.func119, Tryz.ntmps119
    go_wp2_with fail
    go_ret
    exact ⟨by rw [hd]; rfl, Below.refl _ _⟩
  · have hd : dgB s = decide (Lib.trimS s.data.toList ten.data.toList = []) := by simp [dgB, ← Lib.toList_data, h0]
    go_enter Tryz.func119, Tryz.ntmps119
    go_wp2_with fail
    refine (hT.out _).mono ?_
    rintro e w1 ⟨rfl, B1⟩
    by_cases h1 : Lib.trimS s.data.toList ten.data.toList = []
    · rw [h1]
      rw [h1] at hd
      go_wp2_with fail
      go_ret
      exact ⟨by rw [hd]; simp [h0], B1⟩
    · have h2 : (⟨(Lib.trimS s.data.toList ten.data.toList).toArray⟩ : ByteArray).toList = [] ↔ False := by
        rw [Lib.toList_data]
        simpa using h1
      generalize Lib.trimS s.data.toList ten.data.toList = t at *
      go_wp2_with fail
      go_ret
      exact ⟨by rw [hd]; simp [h1], B1⟩
/-- Is a struct a number? -/
def numB (x : S32) : Bool :=
  (!x.f0 && decide (x.f1.toList = [48]) && decide (x.f2 = 0)) ||
    (dgB x.f1 && decide (x.f1.size ≤ 40) && !(decide (x.f1.toList.head? = some 48)) && !(Lib.hasSuffix x.f1.data.toList [48]) && decide (-400 ≤ x.f2) && decide (x.f2 ≤ 400))
def numE (x : S32) : Int := if numB x then 0 else 10
set_option maxHeartbeats 3200000 in
set_option maxRecDepth 100000 in
theorem gcheck_no (x : S32) (hs : x.f1.size ≤ 140737488351232) (hz : ¬(x.f0 = false ∧ x.f1.toList = [48] ∧ x.f2 = 0)) (hd : dgB x.f1 = false) (w : World) :
    Calls Tryz.prog 90 #[.agg #[.bool x.f0, .string x.f1, .int .i64 x.f2]] w fun e w' => e = .returned (.int .i64 10) ∧ Below w.heap.size w w' := by
  have hD := fun w => gdigits x.f1 hs w
  rw [hd] at hD
  replace hD := Lib.hid hD
  have hz' : x.f0 = true ∨ (x.f0 = false ∧ ¬ x.f1.toList = [48]) ∨ (x.f0 = false ∧ x.f1.toList = [48] ∧ ¬ x.f2 = 0) := by
    cases h : x.f0 <;> by_cases h1 : x.f1.toList = [48] <;> simp_all
  clear hz
  generalize x.f0 = a at *
  generalize x.f1 = d at *
  generalize x.f2 = e at *
  rcases hz' with rfl | ⟨rfl, h1⟩ | ⟨rfl, h1, h2⟩
  all_goals (
    go_enter Tryz.func90, Tryz.ntmps90
    go_wp2_with fail
    generalize hw1 : World.alloc w _ = w1
    obtain ⟨b1, B1⟩ : w1.heap[w.heap.size]? = some (.cells #[.bool _, .string d, .int .i64 e] 32 (0, 0)) ∧ Below w.heap.size w w1 := by
      subst hw1
      exact ⟨heap_alloc_new _ _, below_alloc (Below.refl _ _) _⟩
    clear hw1
    refine (hD.out _).mono ?_
    rintro e w2 ⟨rfl, B2⟩
    have b2 := blk_below b1 B2
    replace B2 := Lib.hid (below_then B1 B1.size B2)
    obtain ⟨c0, c1, c2, f0, f1, f2⟩ := blk3 b2
    clear b1 b2 B1
    go_wp2_with fail
    go_ret
    exact ⟨rfl, B2.out⟩)
set_option maxHeartbeats 6400000 in
set_option maxRecDepth 100000 in
theorem gcheck_yes (a : Bool) (d : ByteArray) (c : UInt8) (ys : List UInt8) (hdl : d.data.toList = c :: ys) (x : Int) (hs : ys.length + 1 ≤ 140737488351232) (hz : ¬(a = false ∧ d.toList = [48] ∧ x = 0)) (hd : dgB d = true) (r : Int)
    (hr : r = if ys.length + 1 ≤ 40 ∧ c ≠ 48 ∧ Lib.hasSuffix (c :: ys) [48] = false ∧ -400 ≤ x ∧ x ≤ 400 then 0 else 10) (w : World) :
    Calls Tryz.prog 90 #[.agg #[.bool a, .string d, .int .i64 x]] w fun e w' => e = .returned (.int .i64 r) ∧ Below w.heap.size w w' := by
  have hs1 : d.size = ys.length + 1 := by rw [Lib.size_eq, hdl]; rfl
  have hD := fun w => gdigits d (by omega) w
  rw [hd] at hD
  have hS := fun w => Tryz.strings_HasSuffix d ⟨#[48]⟩ w (by omega)
  replace hD := Lib.hid hD
  replace hS := Lib.hid hS
  have hz' : a = true ∨ (a = false ∧ ¬ d.toList = [48]) ∨ (a = false ∧ d.toList = [48] ∧ ¬ x = 0) := by
    cases h : a <;> by_cases h1 : d.toList = [48] <;> simp_all
  clear hz
  have hix : ∀ h : 0 < d.size, d[0]'h = c := by
    intro h
    have h1 : d.data.toList[0]? = some c := by rw [hdl]; rfl
    have h2 : d.data[0]? = some c := by rw [← h1]; simp
    obtain ⟨h3, h4⟩ := Array.getElem?_eq_some_iff.1 h2
    exact h4
  have hsuf : Lib.hasSuffix d.data.toList [48] = Lib.hasSuffix (c :: ys) [48] := by rw [hdl]
  clear hdl hd
  replace hr := Lib.hid hr
  rcases hz' with rfl | ⟨rfl, h1⟩ | ⟨rfl, h1, h2⟩
  all_goals (
    go_enter Tryz.func90, Tryz.ntmps90
    go_wp2_with fail
    generalize hw1 : World.alloc w _ = w1
    obtain ⟨b1, B1⟩ : w1.heap[w.heap.size]? = some (.cells #[.bool _, .string d, .int .i64 x] 32 (0, 0)) ∧ Below w.heap.size w w1 := by
      subst hw1
      exact ⟨heap_alloc_new _ _, below_alloc (Below.refl _ _) _⟩
    clear hw1
    refine (hD.out _).mono ?_
    rintro e w2 ⟨rfl, B2⟩
    have b2 := blk_below b1 B2
    replace B2 := Lib.hid (below_then B1 B1.size B2)
    obtain ⟨c0, c1, c2, f0, f1, f2⟩ := blk3 b2
    clear b1 b2 B1
    by_cases k1 : ys.length + 1 ≤ 40
    · have hd40 : decide ((40 : Int) < (ys.length : Int) + 1) = false := decide_eq_false (by omega)
      have hd41 : decide (40 < ys.length + 1) = false := decide_eq_false (by omega)
      by_cases k2 : c = 48
      · have hc48 : ((c.toNat : Int) == 48) = true := by rw [k2]; rfl
        have hr2 := hr.out
        rw [if_neg (fun h => h.2.1 k2)] at hr2
        clear k2 hr
        subst hr2
        go_wp2_with fail
        go_ret
        exact ⟨rfl, B2.out⟩
      · have hc48 : ((c.toNat : Int) == 48) = false := beq_eq_false_iff_ne.2 (fun h => k2 (by apply UInt8.toNat_inj.1; show c.toNat = 48; omega))
        cases k3 : Lib.hasSuffix (c :: ys) [48] with
        | true =>
          have hr2 := hr.out
          rw [k3, if_neg (fun h => absurd h.2.2.1 (by simp))] at hr2
          clear hr
          subst hr2
          go_wp2_with fail
          refine (hS.out _).mono ?_
          rintro e w3 ⟨rfl, rfl⟩
          rw [hsuf, k3]
          go_wp2_with fail
          go_ret
          exact ⟨rfl, B2.out⟩
        | false =>
          by_cases k4 : -400 ≤ x
          · have hx2 : decide (x < -400) = false := decide_eq_false (by omega)
            by_cases k5 : x ≤ 400
            · have hx3 : decide (400 < x) = false := decide_eq_false (by omega)
              have hr2 := hr.out
              rw [k3, if_pos ⟨k1, k2, rfl, k4, k5⟩] at hr2
              clear hr
              subst hr2
              go_wp2_with fail
              refine (hS.out _).mono ?_
              rintro e w3 ⟨rfl, rfl⟩
              rw [hsuf, k3]
              go_wp2_with fail
              go_ret
              exact ⟨rfl, B2.out⟩
            · have hx3 : decide (400 < x) = true := decide_eq_true (by omega)
              have hr2 := hr.out
              rw [if_neg (fun h => k5 h.2.2.2.2)] at hr2
              clear hr
              subst hr2
              go_wp2_with fail
              refine (hS.out _).mono ?_
              rintro e w3 ⟨rfl, rfl⟩
              rw [hsuf, k3]
              go_wp2_with fail
              go_ret
              exact ⟨rfl, B2.out⟩
          · have hx2 : decide (x < -400) = true := decide_eq_true (by omega)
            have hr2 := hr.out
            rw [if_neg (fun h => k4 h.2.2.2.1)] at hr2
            clear hr
            subst hr2
            go_wp2_with fail
            refine (hS.out _).mono ?_
            rintro e w3 ⟨rfl, rfl⟩
            rw [hsuf, k3]
            go_wp2_with fail
            go_ret
            exact ⟨rfl, B2.out⟩
    · have hd40 : decide ((40 : Int) < (ys.length : Int) + 1) = true := decide_eq_true (by omega)
      have hd41 : decide (40 < ys.length + 1) = true := decide_eq_true (by omega)
      have hr2 := hr.out
      rw [if_neg (fun h => k1 h.1)] at hr2
      clear hr
      subst hr2
      go_wp2_with fail
      go_ret
      exact ⟨rfl, B2.out⟩)
/-- num.Check of any struct. -/
theorem gcheck (x : S32) (hs : x.f1.size ≤ 140737488351232) (w : World) :
    Calls Tryz.prog 90 #[.agg #[.bool x.f0, .string x.f1, .int .i64 x.f2]] w fun e w' => e = .returned (.int .i64 (numE x)) ∧ Below w.heap.size w w' := by
  by_cases hz : x.f0 = false ∧ x.f1.toList = [48] ∧ x.f2 = 0
  · obtain ⟨h0, h1, h2⟩ := hz
    have hE : numE x = 0 := by simp [numE, numB, h0, h1, h2]
    have e1 : x.f1 = ⟨#[48]⟩ := by
      rw [Lib.toList_data] at h1
      rw [← Lib.mk_data x.f1, h1]
    rw [hE, h0, e1, h2]
    exact check_zero w
  · have hz1 : (!x.f0 && decide (x.f1.toList = [48]) && decide (x.f2 = 0)) = false := by
      rw [Bool.eq_false_iff]
      intro h
      simp at h
      exact hz ⟨h.1.1, h.1.2, h.2⟩
    cases hd : dgB x.f1 with
    | false =>
      have hE : numE x = 10 := by simp [numE, numB, hz1, hd]
      rw [hE]
      exact gcheck_no x hs hz hd w
    | true =>
      obtain ⟨c, ys, hl⟩ : ∃ c ys, x.f1.data.toList = c :: ys := by
        cases h : x.f1.data.toList with
        | nil => simp [dgB, h] at hd
        | cons c ys => exact ⟨c, ys, rfl⟩
      have e1 : x.f1 = ⟨(c :: ys).toArray⟩ := by rw [← Lib.mk_data x.f1, hl]
      have hsz : x.f1.size = ys.length + 1 := by rw [Lib.size_eq, hl]; rfl
      have hE : numE x = if ys.length + 1 ≤ 40 ∧ c ≠ 48 ∧ Lib.hasSuffix (c :: ys) [48] = false ∧ -400 ≤ x.f2 ∧ x.f2 ≤ 400 then 0 else 10 := by
        unfold numE numB
        rw [hz1, hd, hsz, Lib.toList_data, hl]
        congr 1
        simp [and_assoc]
      exact gcheck_yes x.f0 x.f1 c ys hl x.f2 (by omega) hz hd _ hE w
end Go.Proofs.YtcpgcjmamjjokaaGreatDoor
namespace Go.Proofs.YtcpgcjmamjjokaaGreatDoor
open Go.RowKit Go.Maps Go.Proofs.YtcpgcjmamjjokaaGreatDoorW.PrintWords Go.Proofs.YtcpgcjmamjjokaaGreatDoorW.PrintMore Go.Proofs.YtcpgcjmamjjokaaGreatDoor.PTopLimits
set_option linter.unusedVariables false
set_option linter.unusedSimpArgs false
/-- Names behind some others. -/
def nmsL : List ByteArray → List ByteArray → Bool
  | S, [] => true
  | S, s :: r => !(inB s S) && Lib.validD s.data.toList && nmsL (s :: S) r
theorem drop_rds {l : List ByteArray} {i : Nat} (h1 : i < l.length) : l.drop i = rdOf ByteArray.empty l (i : Int) :: l.drop (i + 1) := by
  unfold rdOf
  rw [Int.toNat_natCast, List.getD_eq_getElem?_getD, List.getElem?_eq_getElem h1, Option.getD_some, List.drop_eq_getElem_cons h1]
theorem rds_mem {l : List ByteArray} {i : Nat} (h1 : i < l.length) : rdOf ByteArray.empty l (i : Int) ∈ l := by
  unfold rdOf
  rw [Int.toNat_natCast, List.getD_eq_getElem?_getD, List.getElem?_eq_getElem h1, Option.getD_some]
  exact List.getElem_mem _
theorem alloc_size (w : World) (o : Obj) : (w.alloc o).heap.size = w.heap.size + 1 := Array.size_push _
set_option maxHeartbeats 1600000 in
set_option maxRecDepth 100000 in
theorem names_any (l : List ByteArray) (A : Option Addr) (c : Nat) (w : World) (hr : Kd.string.C w A l.length l) (hc : l.length ≤ c) (hn : l.length ≤ 140737488351232) (hs : ∀ s ∈ l, s.size ≤ 140737488351232) (hT : Lib.Utf8Tabs 0 1 w) :
    Calls Tryz.prog 92 #[.slice A l.length c] w fun e w' => e = .returned (.bool (nmsL [] l)) ∧ Below w.heap.size w w' := by
  have hmm := @run_makeMap Tryz.prog
  have hV := Lib.hid (fun s hs w hT => Valid_any s hs w hT)
  replace hr := Lib.hid hr
  replace hs := Lib.hid hs
  replace hT := Lib.hid hT
  go_enter Tryz.func92, Tryz.ntmps92
  go_wp2_with fail
  generalize hw1 : World.alloc w _ = w1
  obtain ⟨g, hg⟩ : ∃ g, w.heap.size = g := ⟨_, rfl⟩
  obtain ⟨hS, B1⟩ : SetAt w1 g 0 [] ∧ Below w.heap.size w w1 := by
    subst hw1 hg
    exact ⟨SetAt.made w, below_alloc (Below.refl _ _) _⟩
  clear hw1
  rw [hg]
  go_loopw [9] (fun v9 w' => ∃ (i : Nat) (S : List ByteArray) (X : World), v9 = .int .i64 (i : Int) ∧ X = w' ∧ i ≤ l.length ∧ Hid (SetAt X g i S) ∧ Hid (Below w.heap.size w X) ∧ Hid (nmsL S (l.drop i) = nmsL [] l)) (fun v9 _ => l.length - (intOf v9).toNat)
  case atStart => exact ⟨0, [], _, rfl, rfl, Nat.zero_le _, Lib.hid hS, Lib.hid B1, Lib.hid (by rw [List.drop_zero])⟩
  case round =>
    obtain ⟨i, S, X, rfl, rfl, hi, hSX, hB, hN⟩ := hrel
    clear hS B1
    by_cases ci : i < l.length
    · have hd : decide ((i : Int) < (l.length : Int)) = true := decide_eq_true (by omega)
      obtain ⟨ad, rfl, hx⟩ := Kd.at_string hr.out (i : Int) (by omega) (by omega)
      rw [Int.toNat_natCast] at hx
      have hx := (hB.out.cell (World.block_lt_of_cell? w _ hx)).trans hx
      have hN2 := hN.out
      rw [drop_rds ci, nmsL] at hN2
      have hsz := hs.out _ (rds_mem ci)
      generalize rdOf ByteArray.empty l (i : Int) = s at *
      have hlook := hSX.out.look (s := s) (by unfold maxLen; omega)
      have hVs := Lib.hid (hV.out s (by omega) X (Utf8Tabs_below hT.out hB.out))
      replace hN2 := Lib.hid hN2
      replace hsz := Lib.hid hsz
      cases hin : inB s S with
      | true =>
        rw [hin] at hlook
        have hr0 : nmsL [] l = false := by rw [← hN2.out, hin]; rfl
        go_wp2_with fail
        go_ret
        exact ⟨by rw [hr0]; rfl, hB.out⟩
      | false =>
        rw [hin] at hlook
        go_wp2_with fail
        refine hVs.out.mono ?_
        rintro e X2 ⟨rfl, B2⟩
        have hS2 := hSX.out.below B2
        have hB2 := below_then hB.out hB.out.size B2
        cases hv : Lib.validD s.data.toList with
        | false =>
          have hr0 : nmsL [] l = false := by rw [← hN2.out, hv]; simp
          go_wp2_with fail
          go_ret
          exact ⟨by rw [hr0]; rfl, hB2⟩
        | true =>
          obtain ⟨X3, hput, hS3, hg3⟩ := hS2.put (s := s) (by unfold maxLen; omega) (by have := hsz.out; unfold maxLen; omega)
          have hB3 := pw_below_grown hB2 _ hB2.size hg3 (fun k hk => by injection hk with hk; omega)
          have hN3 : nmsL (s :: S) (l.drop (i + 1)) = nmsL [] l := by rw [← hN2.out, hin, hv]; rfl
          have hw : wrap64 ((i : Int) + 1) = ((i + 1 : Nat) : Int) := by unfold wrap64; omega
          replace hS3 := Lib.hid hS3
          replace hB3 := Lib.hid hB3
          replace hN3 := Lib.hid hN3
          clear hS2 hB2 hg3 B2
          go_wp2_with fail
          go_roundw
          case rel => exact ⟨i + 1, _, _, by first | rfl | (push_cast; rfl), rfl, by omega, hS3, hB3, hN3⟩
          case measure => simp [intOf]; omega
    · have hd : decide ((i : Int) < (l.length : Int)) = false := decide_eq_false (by omega)
      have hr0 : nmsL [] l = true := by rw [← hN.out, List.drop_eq_nil_of_le (by omega), nmsL]
      go_wp2_with fail
      go_ret
      exact ⟨by rw [hr0]; rfl, hB.out⟩
end Go.Proofs.YtcpgcjmamjjokaaGreatDoor
namespace Go.Proofs.YtcpgcjmamjjokaaGreatDoor
open Go.RowKit Go.Maps Go.Proofs.YtcpgcjmamjjokaaGreatDoorW.PrintWords Go.Proofs.YtcpgcjmamjjokaaGreatDoorW.PrintMore Go.Proofs.YtcpgcjmamjjokaaGreatDoor.PTopLimits
set_option linter.unusedVariables false
set_option linter.unusedSimpArgs false
theorem any_drop {α : Type} {q : α → Bool} {l : List α} {x : α} {i : Nat} {r : List α} (h : l.drop i = x :: r) (hx : q x = true) : l.any q = true := by
  rw [List.any_eq_true]
  exact ⟨x, List.mem_of_mem_drop (i := i) (by rw [h]; simp), hx⟩
set_option maxHeartbeats 1600000 in
set_option maxRecDepth 100000 in
theorem index_v (F : Nat) (hcf : ∀ args (w : World), (callFunc F args).run Tryz.prog w = .ok (.enter F args) w) (q : S36 → Bool) (l : List S36) (B : Option Addr) (d : Nat) (w : World) (hr : k36.C w B l.length l) (hd : l.length ≤ d) (hn : l.length ≤ 140737488351232)
    (hq : ∀ y ∈ l, ∀ (A7 : Option Addr) (c7 : Nat) (A8 : Option Addr) (c8 : Nat) (X : World), Below w.heap.size w X → VR X y A7 c7 A8 c8 → Calls Tryz.prog F #[vV y A7 c7 A8 c8] X fun e w' => e = .returned (.bool (q y)) ∧ Below X.heap.size X w') :
    Calls Tryz.prog 125 #[.slice B l.length d, .func (.func F) #[] #[]] w fun e w' => ∃ r : Int, e = .returned (.int .i64 r) ∧ decide (0 ≤ r) = l.any q ∧ Below w.heap.size w w' := by
  have hB0 := Lib.hid (Below.refl w.heap.size w)
  replace hr := Lib.hid hr
  replace hq := Lib.hid hq
  go_enter Tryz.func125, Tryz.ntmps125
  go_wp2_with fail
  go_loopw [8] (fun v8 w' => ∃ (i : Nat) (X : World), v8 = .int .i64 (i : Int) ∧ X = w' ∧ i ≤ l.length ∧ Hid (Below w.heap.size w X) ∧ Hid ((l.drop i).any q = l.any q)) (fun v8 _ => l.length - (intOf v8).toNat)
  case atStart => exact ⟨0, _, rfl, rfl, Nat.zero_le _, hB0, Lib.hid (by rw [List.drop_zero])⟩
  case round =>
    obtain ⟨i, X, rfl, rfl, hi, hB, hN⟩ := hrel
    by_cases ci : i < l.length
    · have hdc : decide ((i : Int) < (l.length : Int)) = true := decide_eq_true (by omega)
      have p1 : (i : Int) < (l.length : Int) := by omega
      obtain ⟨ad, A7, c7, A8, c8, rfl, h0, h1, h2, h3, h4, h5, h6, h7, h8, l7, g7, l8, g8⟩ := at_T36 (Kd.C_below hr.out hB.out) (i : Int) (by omega) (by omega)
      rw [Int.toNat_natCast] at h0 h1 h2 h3 h4 h5 h6 h7 h8
      have hdr := drop_rd (l := l) (i := (i : Int)) (by omega) (by omega)
      have hm := rd_mem (l := l) (i := (i : Int)) (by omega) (by omega)
      have hN2 := hN.out
      rw [show ((i : Int)).toNat = i from Int.toNat_natCast i] at hdr
      rw [hdr, List.any_cons] at hN2
      have hC := Lib.hid (hq.out _ hm A7 c7 A8 c8 X hB.out ⟨g7, l7, g8, l8⟩)
      unfold vV at hC
      rw [show ((i : Int) + 1).toNat = i + 1 by omega] at hdr hN2
      generalize rd_T36 l (i : Int) = y at *
      replace hN2 := Lib.hid hN2
      replace hdr := Lib.hid hdr
      clear l7 g7 l8 g8 hm
      go_wp2_with fail
      refine hC.out.mono ?_
      rintro e X2 ⟨rfl, B2⟩
      have hB2 := Lib.hid (below_then hB.out hB.out.size B2)
      clear h0 h1 h2 h3 h4 h5 h6 h7 h8
      cases hqy : q y with
      | true =>
        have hr0 : l.any q = true := by rw [← hN2.out, hqy]; rfl
        go_wp2_with fail
        go_ret
        exact ⟨(i : Int), rfl, by rw [hr0]; exact decide_eq_true (by omega), hB2.out⟩
      | false =>
        have hN3 : (l.drop (i + 1)).any q = l.any q := by rw [← hN2.out, hqy]; rfl
        have hw : wrap64 ((i : Int) + 1) = ((i + 1 : Nat) : Int) := by unfold wrap64; omega
        replace hN3 := Lib.hid hN3
        go_wp2_with fail
        go_roundw
        case rel => exact ⟨i + 1, _, by first | rfl | (push_cast; rfl), rfl, by omega, hB2, hN3⟩
        case measure => simp [intOf]; omega
    · have hdc : decide ((i : Int) < (l.length : Int)) = false := decide_eq_false (by omega)
      have hr0 : l.any q = false := by rw [← hN.out, List.drop_eq_nil_of_le (by omega)]; rfl
      go_wp2_with fail
      go_ret
      exact ⟨-1, rfl, by rw [hr0]; rfl, hB.out⟩
theorem contains_v (F : Nat) (hcf : ∀ args (w : World), (callFunc F args).run Tryz.prog w = .ok (.enter F args) w) (q : S36 → Bool) (l : List S36) (B : Option Addr) (d : Nat) (w : World) (hr : k36.C w B l.length l) (hd : l.length ≤ d) (hn : l.length ≤ 140737488351232)
    (hq : ∀ y ∈ l, ∀ (A7 : Option Addr) (c7 : Nat) (A8 : Option Addr) (c8 : Nat) (X : World), Below w.heap.size w X → VR X y A7 c7 A8 c8 → Calls Tryz.prog F #[vV y A7 c7 A8 c8] X fun e w' => e = .returned (.bool (q y)) ∧ Below X.heap.size X w') :
    Calls Tryz.prog 93 #[.slice B l.length d, .func (.func F) #[] #[]] w fun e w' => e = .returned (.bool (l.any q)) ∧ Below w.heap.size w w' := by
  have hI := Lib.hid (index_v F hcf q l B d w hr hd hn hq)
  clear hq hr
  go_enter Tryz.func93, Tryz.ntmps93
  go_wp2_with fail
  refine hI.out.mono ?_
  rintro e w1 ⟨r, rfl, h1, B1⟩
  go_wp2_with fail
  go_ret
  exact ⟨by rw [← h1]; rfl, B1⟩
set_option maxHeartbeats 1600000 in
set_option maxRecDepth 100000 in
theorem index_s (F : Nat) (hcf : ∀ args (w : World), (callFunc F args).run Tryz.prog w = .ok (.enter F args) w) (q : ByteArray → Bool) (l : List ByteArray) (B : Option Addr) (d : Nat) (w : World) (hr : Kd.string.C w B l.length l) (hd : l.length ≤ d) (hn : l.length ≤ 140737488351232)
    (hq : ∀ y ∈ l, ∀ X : World, Below w.heap.size w X → Calls Tryz.prog F #[.string y] X fun e w' => e = .returned (.bool (q y)) ∧ Below X.heap.size X w') :
    Calls Tryz.prog 126 #[.slice B l.length d, .func (.func F) #[] #[]] w fun e w' => ∃ r : Int, e = .returned (.int .i64 r) ∧ decide (0 ≤ r) = l.any q ∧ Below w.heap.size w w' := by
  have hB0 := Lib.hid (Below.refl w.heap.size w)
  replace hr := Lib.hid hr
  replace hq := Lib.hid hq
  go_enter Tryz.func126, Tryz.ntmps126
  go_wp2_with fail
  go_loopw [8] (fun v8 w' => ∃ (i : Nat) (X : World), v8 = .int .i64 (i : Int) ∧ X = w' ∧ i ≤ l.length ∧ Hid (Below w.heap.size w X) ∧ Hid ((l.drop i).any q = l.any q)) (fun v8 _ => l.length - (intOf v8).toNat)
  case atStart => exact ⟨0, _, rfl, rfl, Nat.zero_le _, hB0, Lib.hid (by rw [List.drop_zero])⟩
  case round =>
    obtain ⟨i, X, rfl, rfl, hi, hB, hN⟩ := hrel
    by_cases ci : i < l.length
    · have hdc : decide ((i : Int) < (l.length : Int)) = true := decide_eq_true (by omega)
      have p1 : (i : Int) < (l.length : Int) := by omega
      obtain ⟨ad, rfl, hx⟩ := Kd.at_string (Kd.C_below hr.out hB.out) (i : Int) (by omega) (by omega)
      rw [Int.toNat_natCast] at hx
      have hN2 := hN.out
      rw [drop_rds ci, List.any_cons] at hN2
      have hC := Lib.hid (hq.out _ (rds_mem ci) X hB.out)
      generalize rdOf ByteArray.empty l (i : Int) = y at *
      replace hN2 := Lib.hid hN2
      go_wp2_with fail
      refine hC.out.mono ?_
      rintro e X2 ⟨rfl, B2⟩
      have hB2 := Lib.hid (below_then hB.out hB.out.size B2)
      clear hx
      cases hqy : q y with
      | true =>
        have hr0 : l.any q = true := by rw [← hN2.out, hqy]; rfl
        go_wp2_with fail
        go_ret
        exact ⟨(i : Int), rfl, by rw [hr0]; exact decide_eq_true (by omega), hB2.out⟩
      | false =>
        have hN3 : (l.drop (i + 1)).any q = l.any q := by rw [← hN2.out, hqy]; rfl
        have hw : wrap64 ((i : Int) + 1) = ((i + 1 : Nat) : Int) := by unfold wrap64; omega
        replace hN3 := Lib.hid hN3
        go_wp2_with fail
        go_roundw
        case rel => exact ⟨i + 1, _, by first | rfl | (push_cast; rfl), rfl, by omega, hB2, hN3⟩
        case measure => simp [intOf]; omega
    · have hdc : decide ((i : Int) < (l.length : Int)) = false := decide_eq_false (by omega)
      have hr0 : l.any q = false := by rw [← hN.out, List.drop_eq_nil_of_le (by omega)]; rfl
      go_wp2_with fail
      go_ret
      exact ⟨-1, rfl, by rw [hr0]; rfl, hB.out⟩
theorem contains_s (F : Nat) (hcf : ∀ args (w : World), (callFunc F args).run Tryz.prog w = .ok (.enter F args) w) (q : ByteArray → Bool) (l : List ByteArray) (B : Option Addr) (d : Nat) (w : World) (hr : Kd.string.C w B l.length l) (hd : l.length ≤ d) (hn : l.length ≤ 140737488351232)
    (hq : ∀ y ∈ l, ∀ X : World, Below w.heap.size w X → Calls Tryz.prog F #[.string y] X fun e w' => e = .returned (.bool (q y)) ∧ Below X.heap.size X w') :
    Calls Tryz.prog 95 #[.slice B l.length d, .func (.func F) #[] #[]] w fun e w' => e = .returned (.bool (l.any q)) ∧ Below w.heap.size w w' := by
  have hI := Lib.hid (index_s F hcf q l B d w hr hd hn hq)
  clear hq hr
  go_enter Tryz.func95, Tryz.ntmps95
  go_wp2_with fail
  refine hI.out.mono ?_
  rintro e w1 ⟨r, rfl, h1, B1⟩
  go_wp2_with fail
  go_ret
  exact ⟨by rw [← h1]; rfl, B1⟩
end Go.Proofs.YtcpgcjmamjjokaaGreatDoor
namespace Go.Proofs.YtcpgcjmamjjokaaGreatDoor
open Go.RowKit Go.Maps Go.Proofs.YtcpgcjmamjjokaaGreatDoorW.PrintWords Go.Proofs.YtcpgcjmamjjokaaGreatDoorW.PrintMore Go.Proofs.YtcpgcjmamjjokaaGreatDoor.PTopLimits
set_option linter.unusedVariables false
set_option linter.unusedSimpArgs false
/-- Nothing is left. -/
def rz (fl : Bool) (nm : S32) (bt : Int) (tx : ByteArray) (n m : Nat) : Bool :=
  !fl && (!nm.f0 && decide (nm.f1.toList = []) && decide (nm.f2 = 0)) && decide (bt = 0) && decide (tx.toList = []) && decide (n = 0) && decide (m = 0)
/-- A struct is a value, but for what its list holds. -/
def baseF (x : S36) : Bool :=
  if x.f0 = 1 then rz x.f1 x.f2 x.f3 x.f4 x.f5.length x.f6.length
  else if x.f0 = 2 then rz false x.f2 x.f3 x.f4 x.f5.length x.f6.length
  else if x.f0 = 3 then numB x.f2 && rz x.f1 z32 x.f3 x.f4 x.f5.length x.f6.length
  else if x.f0 = 4 then rz x.f1 x.f2 0 x.f4 x.f5.length x.f6.length
  else if x.f0 = 5 then Lib.validD x.f4.data.toList && rz x.f1 x.f2 x.f3 ⟨#[]⟩ x.f5.length x.f6.length
  else if x.f0 = 6 then rz x.f1 x.f2 x.f3 ⟨#[]⟩ x.f5.length x.f6.length
  else if x.f0 = 7 then rz x.f1 x.f2 x.f3 x.f4 x.f5.length 0
  else if x.f0 = 8 then (decide (x.f5.length = x.f6.length) && nmsL [] x.f5) && rz x.f1 x.f2 x.f3 x.f4 0 0
  else if x.f0 = 9 then (decide (x.f6.length = 1) && Lib.validD x.f4.data.toList) && rz x.f1 x.f2 x.f3 ⟨#[]⟩ x.f5.length 0
  else false
mutual
/-- A struct is a value, but for the limits. -/
def frmT : S36 → Bool
  | ⟨a, b, c, d, e, f, l⟩ => baseF ⟨a, b, c, d, e, f, l⟩ && frmL l
def frmL : List S36 → Bool
  | [] => true
  | x :: r => frmT x && frmL r
end
theorem frmT_eq (x : S36) : frmT x = (baseF x && frmL x.f6) := by cases x; rw [frmT]
theorem frmL_any : ∀ l : List S36, (l.any fun y => !frmT y) = !frmL l
  | [] => by rw [frmL]; rfl
  | x :: r => by rw [List.any_cons, frmL_any r, frmL]; cases frmT x <;> rfl
def vC (x : S36) (A : Option Addr) (c : Nat) (B : Option Addr) (d : Nat) : Obj :=
  .cells #[.int .i64 x.f0, .bool x.f1, .bool x.f2.f0, .string x.f2.f1, .int .i64 x.f2.f2, .int .u64 x.f3, .string x.f4, .slice A x.f5.length c, .slice B x.f6.length d] 36 (0, 0)
def rC (k : Int) (fl : Bool) (nm : S32) (bt : Int) (tx : ByteArray) (A : Option Addr) (n c : Nat) (B : Option Addr) (m d : Nat) : Obj :=
  .cells #[.int .i64 k, .bool fl, .bool nm.f0, .string nm.f1, .int .i64 nm.f2, .int .u64 bt, .string tx, .slice A n c, .slice B m d] 36 (0, 0)
theorem fm_put {w w' : World} {G j : Nat} {o : Obj} {cs cs' : Array Value} {v : Value} (h1 : w'.heap[G]? = some o) (h2 : w'.heap[G + 1]? = some (.cells cs 36 (0, 0))) (hB : Below w.heap.size w w') (hG : w.heap.size = G) (hcs : cs.setIfInBounds j v = cs') :
    (w'.setCell ⟨G + 1, j, none⟩ v).heap[G]? = some o ∧ (w'.setCell ⟨G + 1, j, none⟩ v).heap[G + 1]? = some (.cells cs' 36 (0, 0)) ∧ Below w.heap.size w (w'.setCell ⟨G + 1, j, none⟩ v) :=
  ⟨(Below.heap_setCell w' ⟨G + 1, j, none⟩ v G (by simp)).trans h1, blk_put h2 j _ hcs, below_set hB (by omega)⟩
set_option maxHeartbeats 6400000 in
set_option maxRecDepth 100000 in
theorem formed_step (x : S36) (hx : Fit x) (A : Option Addr) (c : Nat) (B : Option Addr) (d : Nat) (w : World) (hr : VR w x A c B d) (hT : Lib.Utf8Tabs 0 1 w)
    (hrec : ∀ w', Below w.heap.size w w' → Calls Tryz.prog 93 #[.slice B x.f6.length d, .func (.func 94) #[] #[]] w' fun e w'' => e = .returned (.bool (!frmL x.f6)) ∧ Below w'.heap.size w' w'') :
    Calls Tryz.prog 46 #[vV x A c B d] w fun e w' => e = .returned (.bool (frmT x)) ∧ Below w.heap.size w w' := by
  have hNum := fun w => gcheck x.f2 hx.digits w
  have hVal := fun w hb => Valid_any x.f4 (by have := hx.text; omega) w (Utf8Tabs_below hT hb)
  have hNms := fun w' (hb : Below w.heap.size w w') => names_any x.f5 A c w' (Kd.C_below hr.n hb) hr.cn hx.names hx.name (Utf8Tabs_below hT hb)
  have hl1 := hx.names
  have hl2 := hx.list
  rw [frmT_eq]
  obtain ⟨bx, hbx⟩ : ∃ b, baseF x = b := ⟨_, rfl⟩
  rw [hbx]
  unfold baseF at hbx
  clear hr hT hx
  obtain ⟨k, fl, ⟨ng, dg, ex⟩, bt, tx, ns, l⟩ := x
  unfold vV
  dsimp only at *
  replace hl1 := Lib.hid hl1
  replace hl2 := Lib.hid hl2
  replace hNum := Lib.hid hNum
  replace hVal := Lib.hid hVal
  replace hNms := Lib.hid hNms
  replace hrec := Lib.hid hrec
  replace hbx := Lib.hid hbx
  generalize frmL l = fr at *
  go_enter Tryz.func46, Tryz.ntmps46
  go_upto_block 0 with fail
  generalize hw1 : World.alloc _ _ = w1
  obtain ⟨G, hG⟩ : ∃ G, w.heap.size = G := ⟨_, rfl⟩
  rw [hG]
  obtain ⟨b1, b2, B1⟩ : w1.heap[G]? = some (.cells #[.int .i64 k, .bool fl, .bool ng, .string dg, .int .i64 ex, .int .u64 bt, .string tx, .slice A ns.length c, .slice B l.length d] 36 (0, 0)) ∧ w1.heap[G + 1]? = some (.cells #[.int .i64 k, .bool fl, .bool ng, .string dg, .int .i64 ex, .int .u64 bt, .string tx, .slice A ns.length c, .slice B l.length d] 36 (0, 0)) ∧ Below w.heap.size w w1 := by
    subst hw1 hG
    exact ⟨blk_alloc (heap_alloc_new _ _) _, alloc2 _ _ _, below_alloc (below_alloc (Below.refl _ _) _) _⟩
  clear hw1
  replace hG := Lib.hid hG
  replace B1 := Lib.hid B1
  go_cut [4] (fun v4 wc => ∃ (ok fl' : Bool) (nm : S32) (bt' : Int) (tx' : ByteArray) (A' : Option Addr) (n c' : Nat) (B' : Option Addr) (m d' : Nat), v4 = .bool ok ∧ Hid (wc.heap[G]? = some (.cells #[.int .i64 k, .bool fl, .bool ng, .string dg, .int .i64 ex, .int .u64 bt, .string tx, .slice A ns.length c, .slice B l.length d] 36 (0, 0))) ∧ Hid (wc.heap[G + 1]? = some (rC k fl' nm bt' tx' A' n c' B' m d')) ∧ Hid (Below w.heap.size w wc) ∧ Hid (bx = (ok && rz fl' nm bt' tx' n m)))
  case first =>
    obtain ⟨c0, c1, c2, c3, c4, c5, c6, c7, c8, f0, f1, f2, f3, f4, f5, f6, f7, f8⟩ := blk9 b1
    obtain ⟨d0, d1, d2, d3, d4, d5, d6, d7, d8, g0, g1, g2, g3, g4, g5, g6, g7, g8⟩ := blk9 b2
    replace b1 := Lib.hid b1
    replace b2 := Lib.hid b2
    by_cases k1 : k = 1
    · subst k1
      go_wp2_with fail
      go_meet
      exact ⟨true, fl, ⟨ng, dg, ex⟩, bt, tx, _, _, _, _, _, _, rfl, b1, b2, B1, Lib.hid (by rw [← hbx.out]; rfl)⟩
    by_cases k2 : k = 2
    · subst k2
      go_wp2_with fail
      go_meet
      obtain ⟨p1, p2, p3⟩ := fm_put (w := w) b1.out b2.out B1.out hG.out rfl
      exact ⟨true, false, ⟨ng, dg, ex⟩, bt, tx, _, _, _, _, _, _, rfl, Lib.hid p1, Lib.hid p2, Lib.hid p3, Lib.hid (by rw [← hbx.out]; rfl)⟩
    by_cases k3 : k = 3
    · subst k3
      go_wp2_with fail
      refine (hNum.out _).mono ?_
      rintro e w2 ⟨rfl, B2⟩
      have b1' := blk_below b1.out B2
      have b2' := blk_below b2.out B2
      have B3 := below_then B1.out B1.out.size B2
      clear c0 c1 c2 c3 c4 c5 c6 c7 c8 f0 f1 f2 f3 f4 f5 f6 f7 f8 d0 d1 d2 d3 d4 d5 d6 d7 d8 g0 g1 g2 g3 g4 g5 g6 g7 g8
      obtain ⟨c0, c1, c2, c3, c4, c5, c6, c7, c8, f0, f1, f2, f3, f4, f5, f6, f7, f8⟩ := blk9 b1'
      obtain ⟨d0, d1, d2, d3, d4, d5, d6, d7, d8, g0, g1, g2, g3, g4, g5, g6, g7, g8⟩ := blk9 b2'
      have hnE : (numE ⟨ng, dg, ex⟩ == 0) = numB ⟨ng, dg, ex⟩ := by unfold numE; cases numB ⟨ng, dg, ex⟩ <;> rfl
      generalize numE ⟨ng, dg, ex⟩ = ne at *
      go_wp2_with fail
      go_meet
      obtain ⟨p1, p2, p3⟩ := fm_put (w := w) b1' b2' B3 hG.out rfl
      obtain ⟨p1, p2, p3⟩ := fm_put (w := w) p1 p2 p3 hG.out rfl
      obtain ⟨p1, p2, p3⟩ := fm_put (w := w) p1 p2 p3 hG.out rfl
      exact ⟨numB ⟨ng, dg, ex⟩, fl, z32, bt, tx, _, _, _, _, _, _, rfl, Lib.hid p1, Lib.hid p2, Lib.hid p3, Lib.hid (by rw [← hbx.out]; rfl)⟩
    by_cases k4 : k = 4
    · subst k4
      go_wp2_with fail
      go_meet
      obtain ⟨p1, p2, p3⟩ := fm_put (w := w) b1.out b2.out B1.out hG.out rfl
      exact ⟨true, fl, ⟨ng, dg, ex⟩, 0, tx, _, _, _, _, _, _, rfl, Lib.hid p1, Lib.hid p2, Lib.hid p3, Lib.hid (by rw [← hbx.out]; rfl)⟩
    by_cases k5 : k = 5
    · subst k5
      go_wp2_with fail
      refine (hVal.out _ B1.out).mono ?_
      rintro e w2 ⟨rfl, B2⟩
      have b1' := blk_below b1.out B2
      have b2' := blk_below b2.out B2
      have B3 := below_then B1.out B1.out.size B2
      clear c0 c1 c2 c3 c4 c5 c6 c7 c8 f0 f1 f2 f3 f4 f5 f6 f7 f8 d0 d1 d2 d3 d4 d5 d6 d7 d8 g0 g1 g2 g3 g4 g5 g6 g7 g8
      obtain ⟨c0, c1, c2, c3, c4, c5, c6, c7, c8, f0, f1, f2, f3, f4, f5, f6, f7, f8⟩ := blk9 b1'
      obtain ⟨d0, d1, d2, d3, d4, d5, d6, d7, d8, g0, g1, g2, g3, g4, g5, g6, g7, g8⟩ := blk9 b2'
      go_wp2_with fail
      go_meet
      obtain ⟨p1, p2, p3⟩ := fm_put (w := w) b1' b2' B3 hG.out rfl
      exact ⟨_, fl, ⟨ng, dg, ex⟩, bt, ⟨#[]⟩, _, _, _, _, _, _, rfl, Lib.hid p1, Lib.hid p2, Lib.hid p3, Lib.hid (by rw [← hbx.out]; rfl)⟩
    by_cases k6 : k = 6
    · subst k6
      go_wp2_with fail
      go_meet
      obtain ⟨p1, p2, p3⟩ := fm_put (w := w) b1.out b2.out B1.out hG.out rfl
      exact ⟨true, fl, ⟨ng, dg, ex⟩, bt, ⟨#[]⟩, _, _, _, _, _, _, rfl, Lib.hid p1, Lib.hid p2, Lib.hid p3, Lib.hid (by rw [← hbx.out]; rfl)⟩
    by_cases k7 : k = 7
    · subst k7
      go_wp2_with fail
      go_meet
      obtain ⟨p1, p2, p3⟩ := fm_put (w := w) b1.out b2.out B1.out hG.out rfl
      exact ⟨true, fl, ⟨ng, dg, ex⟩, bt, tx, _, _, _, _, _, _, rfl, Lib.hid p1, Lib.hid p2, Lib.hid p3, Lib.hid (by rw [← hbx.out]; rfl)⟩
    by_cases k8 : k = 8
    · subst k8
      by_cases hln : ns.length = l.length
      · have hd1 : ((ns.length : Int) == (l.length : Int)) = true := by simp [hln]
        replace hln := Lib.hid hln
        go_wp2_with fail
        refine (hNms.out _ B1.out).mono ?_
        rintro e w2 ⟨rfl, B2⟩
        have b1' := blk_below b1.out B2
        have b2' := blk_below b2.out B2
        have B3 := below_then B1.out B1.out.size B2
        clear c0 c1 c2 c3 c4 c5 c6 c7 c8 f0 f1 f2 f3 f4 f5 f6 f7 f8 d0 d1 d2 d3 d4 d5 d6 d7 d8 g0 g1 g2 g3 g4 g5 g6 g7 g8
        obtain ⟨c0, c1, c2, c3, c4, c5, c6, c7, c8, f0, f1, f2, f3, f4, f5, f6, f7, f8⟩ := blk9 b1'
        obtain ⟨d0, d1, d2, d3, d4, d5, d6, d7, d8, g0, g1, g2, g3, g4, g5, g6, g7, g8⟩ := blk9 b2'
        go_wp2_with fail
        go_meet
        obtain ⟨p1, p2, p3⟩ := fm_put (w := w) b1' b2' B3 hG.out rfl
        obtain ⟨p1, p2, p3⟩ := fm_put (w := w) p1 p2 p3 hG.out rfl
        exact ⟨_, fl, ⟨ng, dg, ex⟩, bt, tx, _, _, _, _, _, _, rfl, Lib.hid p1, Lib.hid p2, Lib.hid p3, Lib.hid (by rw [← hbx.out]; simp [hln.out])⟩
      · have hd1 : ((ns.length : Int) == (l.length : Int)) = false := by simp; omega
        replace hln := Lib.hid hln
        go_wp2_with fail
        go_meet
        obtain ⟨p1, p2, p3⟩ := fm_put (w := w) b1.out b2.out B1.out hG.out rfl
        obtain ⟨p1, p2, p3⟩ := fm_put (w := w) p1 p2 p3 hG.out rfl
        exact ⟨false, fl, ⟨ng, dg, ex⟩, bt, tx, _, _, _, _, _, _, rfl, Lib.hid p1, Lib.hid p2, Lib.hid p3, Lib.hid (by rw [← hbx.out]; simp [hln.out])⟩
    by_cases k9 : k = 9
    · subst k9
      by_cases hln : l.length = 1
      · have hd1 : ((l.length : Int) == 1) = true := by simp [hln]
        replace hln := Lib.hid hln
        go_wp2_with fail
        refine (hVal.out _ B1.out).mono ?_
        rintro e w2 ⟨rfl, B2⟩
        have b1' := blk_below b1.out B2
        have b2' := blk_below b2.out B2
        have B3 := below_then B1.out B1.out.size B2
        clear c0 c1 c2 c3 c4 c5 c6 c7 c8 f0 f1 f2 f3 f4 f5 f6 f7 f8 d0 d1 d2 d3 d4 d5 d6 d7 d8 g0 g1 g2 g3 g4 g5 g6 g7 g8
        obtain ⟨c0, c1, c2, c3, c4, c5, c6, c7, c8, f0, f1, f2, f3, f4, f5, f6, f7, f8⟩ := blk9 b1'
        obtain ⟨d0, d1, d2, d3, d4, d5, d6, d7, d8, g0, g1, g2, g3, g4, g5, g6, g7, g8⟩ := blk9 b2'
        go_wp2_with fail
        go_meet
        obtain ⟨p1, p2, p3⟩ := fm_put (w := w) b1' b2' B3 hG.out rfl
        obtain ⟨p1, p2, p3⟩ := fm_put (w := w) p1 p2 p3 hG.out rfl
        exact ⟨_, fl, ⟨ng, dg, ex⟩, bt, ⟨#[]⟩, _, _, _, _, _, _, rfl, Lib.hid p1, Lib.hid p2, Lib.hid p3, Lib.hid (by rw [← hbx.out]; simp [hln.out])⟩
      · have hd1 : ((l.length : Int) == 1) = false := by simp; omega
        replace hln := Lib.hid hln
        go_wp2_with fail
        go_meet
        obtain ⟨p1, p2, p3⟩ := fm_put (w := w) b1.out b2.out B1.out hG.out rfl
        obtain ⟨p1, p2, p3⟩ := fm_put (w := w) p1 p2 p3 hG.out rfl
        exact ⟨false, fl, ⟨ng, dg, ex⟩, bt, ⟨#[]⟩, _, _, _, _, _, _, rfl, Lib.hid p1, Lib.hid p2, Lib.hid p3, Lib.hid (by rw [← hbx.out]; simp [hln.out])⟩
    have hb0 : bx = false := by rw [← hbx.out]; simp [k1, k2, k3, k4, k5, k6, k7, k8, k9]
    go_wp2_with fail
    go_ret
    exact ⟨by rw [hb0]; rfl, B1.out⟩
  case rest =>
    obtain ⟨ok, fl', ⟨na, nd, ne⟩, bt', tx', A', n, c', B', m, d', rfl, q1, q2, Bc, hb⟩ := hcut
    have q2' := q2.out
    unfold rC at q2'
    dsimp only at q2'
    obtain ⟨c0, c1, c2, c3, c4, c5, c6, c7, c8, f0, f1, f2, f3, f4, f5, f6, f7, f8⟩ := blk9 q1.out
    obtain ⟨d0, d1, d2, d3, d4, d5, d6, d7, d8, g0, g1, g2, g3, g4, g5, g6, g7, g8⟩ := blk9 q2'
    clear q2' b1 b2 B1 hNum hVal hNms
    have hfin := Lib.hid (fun (b : Bool) (h : bx = b) => h)
    cases ok with
    | false =>
      have hb0 : bx = false := by rw [hb.out]; rfl
      replace hb0 := Lib.hid hb0
      go_wp2_with fail
      go_ret
      exact ⟨by rw [hb0.out]; rfl, Bc.out⟩
    | true =>
      cases fl' with
      | true =>
        have hb0 := Lib.hid (show bx = false by rw [hb.out]; rfl)
        go_wp2_with fail
        go_ret
        exact ⟨by rw [hb0.out]; rfl, Bc.out⟩
      | false =>
        by_cases e1 : na = false ∧ nd.toList = [] ∧ ne = 0
        · obtain ⟨rfl, e2, rfl⟩ := e1
          by_cases e3 : bt' = 0
          · subst e3
            by_cases e4 : tx'.toList = []
            · by_cases e5 : n = 0
              · subst e5
                by_cases e6 : m = 0
                · subst e6
                  have hb1 := Lib.hid (show bx = true by rw [hb.out]; simp [rz, e2, e4])
                  go_wp2_with fail
                  refine (hrec.out _ Bc.out).mono ?_
                  rintro e w2 ⟨rfl, B2⟩
                  have B3 := below_then Bc.out Bc.out.size B2
                  go_wp2_with fail
                  go_ret
                  exact ⟨by rw [hb1.out]; simp, B3⟩
                · have hb0 := Lib.hid (show bx = false by rw [hb.out]; simp [rz, e6])
                  have h6 : decide ((0 : Int) < (m : Int)) = true := decide_eq_true (by omega)
                  have h7 : decide (0 < m) = true := decide_eq_true (by omega)
                  replace e6 := Lib.hid e6
                  go_wp2_with fail
                  go_ret
                  exact ⟨by rw [hb0.out]; rfl, Bc.out⟩
              · have hb0 := Lib.hid (show bx = false by rw [hb.out]; simp [rz, e5])
                have h6 : decide ((0 : Int) < (n : Int)) = true := decide_eq_true (by omega)
                have h7 : decide (0 < n) = true := decide_eq_true (by omega)
                replace e5 := Lib.hid e5
                go_wp2_with fail
                go_ret
                exact ⟨by rw [hb0.out]; rfl, Bc.out⟩
            · have hb0 := Lib.hid (show bx = false by rw [hb.out]; simp [rz, e4])
              go_wp2_with fail
              go_ret
              exact ⟨by rw [hb0.out]; rfl, Bc.out⟩
          · have hb0 := Lib.hid (show bx = false by rw [hb.out]; simp [rz, e3])
            go_wp2_with fail
            go_ret
            exact ⟨by rw [hb0.out]; rfl, Bc.out⟩
        · have hb0 : bx = false := by
            rw [hb.out]
            have : (!na && decide (nd.toList = []) && decide (ne = 0)) = false := by
              rw [Bool.eq_false_iff]
              intro h
              simp at h
              exact e1 ⟨h.1.1, h.1.2, h.2⟩
            simp [rz, this]
          replace hb0 := Lib.hid hb0
          have hz' : na = true ∨ (na = false ∧ ¬ nd.toList = []) ∨ (na = false ∧ nd.toList = [] ∧ ¬ ne = 0) := by
            cases h : na <;> by_cases h1 : nd.toList = [] <;> simp_all
          clear e1 hb hfin
          rcases hz' with rfl | ⟨rfl, h1⟩ | ⟨rfl, h1, h2⟩
          all_goals (
            go_wp2_with fail
            go_ret
            exact ⟨by rw [hb0.out]; rfl, Bc.out⟩)
end Go.Proofs.YtcpgcjmamjjokaaGreatDoor
namespace Go.Proofs.YtcpgcjmamjjokaaGreatDoor
open Go.RowKit Go.Maps Go.Proofs.YtcpgcjmamjjokaaGreatDoorW.PrintWords Go.Proofs.YtcpgcjmamjjokaaGreatDoorW.PrintMore Go.Proofs.YtcpgcjmamjjokaaGreatDoor.PTopLimits
set_option linter.unusedVariables false
set_option linter.unusedSimpArgs false
theorem vV_of {x : S36} {A : Option Addr} {c : Nat} {B : Option Addr} {d : Nat} : vV x A c B d = .agg #[.int .i64 x.f0, .bool x.f1, .bool x.f2.f0, .string x.f2.f1, .int .i64 x.f2.f2, .int .u64 x.f3, .string x.f4, .slice A x.f5.length c, .slice B x.f6.length d] := rfl
theorem hcf94 : ∀ args (w : World), (callFunc 94 args).run Tryz.prog w = .ok (.enter 94 args) w := fun args w => by kernel_rfl
theorem hcf96 : ∀ args (w : World), (callFunc 96 args).run Tryz.prog w = .ok (.enter 96 args) w := fun args w => by kernel_rfl
theorem hcf97 : ∀ args (w : World), (callFunc 97 args).run Tryz.prog w = .ok (.enter 97 args) w := fun args w => by kernel_rfl
set_option maxRecDepth 100000 in
theorem not94 (v0 v1 v2 v3 v4 v5 v6 v7 v8 : Value) (b : Bool) (w : World) (h : ∀ X, Below w.heap.size w X → Calls Tryz.prog 46 #[.agg #[v0, v1, v2, v3, v4, v5, v6, v7, v8]] X fun e w' => e = .returned (.bool b) ∧ Below X.heap.size X w') :
    Calls Tryz.prog 94 #[.agg #[v0, v1, v2, v3, v4, v5, v6, v7, v8]] w fun e w' => e = .returned (.bool !b) ∧ Below w.heap.size w w' := by
  replace h := Lib.hid h
  go_enter Tryz.func94, Tryz.ntmps94
  go_wp2_with fail
  refine (h.out _ (below_alloc (Below.refl _ _) _)).mono ?_
  rintro e w1 ⟨rfl, B1⟩
  have B2 := below_then (below_alloc (Below.refl w.heap.size w) _) (by simp) B1
  go_wp2_with fail
  go_ret
  exact ⟨rfl, B2⟩
set_option maxRecDepth 100000 in
theorem not97 (v0 v1 v2 v3 v4 v5 v6 v7 v8 : Value) (b : Bool) (w : World) (h : ∀ X, Below w.heap.size w X → Calls Tryz.prog 47 #[.agg #[v0, v1, v2, v3, v4, v5, v6, v7, v8]] X fun e w' => e = .returned (.bool b) ∧ Below X.heap.size X w') :
    Calls Tryz.prog 97 #[.agg #[v0, v1, v2, v3, v4, v5, v6, v7, v8]] w fun e w' => e = .returned (.bool !b) ∧ Below w.heap.size w w' := by
  replace h := Lib.hid h
  go_enter Tryz.func97, Tryz.ntmps97
  go_wp2_with fail
  refine (h.out _ (below_alloc (Below.refl _ _) _)).mono ?_
  rintro e w1 ⟨rfl, B1⟩
  have B2 := below_then (below_alloc (Below.refl w.heap.size w) _) (by simp) B1
  go_wp2_with fail
  go_ret
  exact ⟨rfl, B2⟩
theorem long96 (s : ByteArray) (w : World) : Calls Tryz.prog 96 #[.string s] w fun e w' => e = .returned (.bool (decide (64 < s.size))) ∧ Below w.heap.size w w' := by
  have h1 : decide ((64 : Int) < (s.size : Int)) = decide (64 < s.size) := decide_eq_decide.2 (by omega)
  go_enter Tryz.func96, Tryz.ntmps96
  go_wp2_with fail
  go_ret
  exact ⟨by first | rfl | (rw [← h1]; rfl), Below.refl _ _⟩
theorem formed_any {x : S36} (h : Fit x) : ∀ (A : Option Addr) (c : Nat) (B : Option Addr) (d : Nat) (w : World), VR w x A c B d → Lib.Utf8Tabs 0 1 w →
    Calls Tryz.prog 46 #[vV x A c B d] w fun e w' => e = .returned (.bool (frmT x)) ∧ Below w.heap.size w w' := by
  have h' := h
  induction h with
  | mk x hd ht hn hs hl hx ih =>
    intro A c B d w hr hT
    refine formed_step x h' A c B d w hr hT ?_
    intro w' hb
    have hC := contains_v 94 hcf94 (fun y => !frmT y) x.f6 B d w' (Kd.C_below hr.l hb) hr.cl hl (fun y hy A7 c7 A8 c8 X hX hV => not94 _ _ _ _ _ _ _ _ _ _ X (fun X' hX' => ih y hy (hx y hy) A7 c7 A8 c8 X' (hV.below hX') (Utf8Tabs_below (Utf8Tabs_below (Utf8Tabs_below hT hb) hX) hX')))
    rw [frmL_any] at hC
    exact hC
/-- Texts and lists are within the limits, but for what the list holds. -/
def shB (x : S36) : Bool := decide (x.f4.size ≤ if x.f0 = 9 then 64 else 4096) && decide (x.f6.length ≤ 256) && !(x.f5.any fun s => decide (64 < s.size))
mutual
def shoT : S36 → Bool
  | ⟨a, b, c, d, e, f, l⟩ => shB ⟨a, b, c, d, e, f, l⟩ && shoL l
def shoL : List S36 → Bool
  | [] => true
  | x :: r => shoT x && shoL r
end
theorem shoT_eq (x : S36) : shoT x = (shB x && shoL x.f6) := by cases x; rw [shoT]
theorem shoL_any : ∀ l : List S36, (l.any fun y => !shoT y) = !shoL l
  | [] => by rw [shoL]; rfl
  | x :: r => by rw [List.any_cons, shoL_any r, shoL]; cases shoT x <;> rfl
set_option maxHeartbeats 3200000 in
set_option maxRecDepth 100000 in
theorem short_step (x : S36) (hx : Fit x) (A : Option Addr) (c : Nat) (B : Option Addr) (d : Nat) (w : World) (hr : VR w x A c B d)
    (hrec : ∀ w', Below w.heap.size w w' → Calls Tryz.prog 93 #[.slice B x.f6.length d, .func (.func 97) #[] #[]] w' fun e w'' => e = .returned (.bool (!shoL x.f6)) ∧ Below w'.heap.size w' w'') :
    Calls Tryz.prog 47 #[vV x A c B d] w fun e w' => e = .returned (.bool (shoT x)) ∧ Below w.heap.size w w' := by
  have hNms := fun w' (hb : Below w.heap.size w w') => contains_s 96 hcf96 (fun s => decide (64 < s.size)) x.f5 A c w' (Kd.C_below hr.n hb) hr.cn hx.names (fun y _ X _ => long96 y X)
  rw [shoT_eq]
  obtain ⟨bx, hbx⟩ : ∃ b, shB x = b := ⟨_, rfl⟩
  rw [hbx]
  unfold shB at hbx
  clear hr hx
  obtain ⟨k, fl, ⟨ng, dg, ex⟩, bt, tx, ns, l⟩ := x
  unfold vV
  dsimp only at *
  generalize hany : (ns.any fun s => decide (64 < s.size)) = an at *
  replace hNms := Lib.hid hNms
  replace hrec := Lib.hid hrec
  generalize frmL l = fr at *
  obtain ⟨mo, hmo⟩ : ∃ m : Int, (if k = 9 then (64 : Int) else 4096) = m := ⟨_, rfl⟩
  have hbx2 : bx = (decide ((tx.size : Int) ≤ mo) && decide ((l.length : Int) ≤ 256) && !an) := by
    rw [← hbx, ← hmo, show decide (tx.size ≤ if k = 9 then 64 else 4096) = decide ((tx.size : Int) ≤ if k = 9 then (64 : Int) else 4096) from decide_eq_decide.2 (by split <;> omega), show decide (l.length ≤ 256) = decide ((l.length : Int) ≤ 256) from decide_eq_decide.2 (by omega)]
  clear hbx hany
  replace hbx2 := Lib.hid hbx2
  have hG : w.heap.size = w.heap.size := rfl
  by_cases hk : k = 9
  · subst hk
    rw [if_pos rfl] at hmo
    subst hmo
    go_enter Tryz.func47, Tryz.ntmps47
    replace hG := Lib.hid hG
    by_cases e1 : (tx.size : Int) ≤ 64
    · have h1 : decide ((64 : Int) < (tx.size : Int)) = false := decide_eq_false (by omega)
      by_cases e2 : (l.length : Int) ≤ 256
      · have h2 : decide ((256 : Int) < (l.length : Int)) = false := decide_eq_false (by omega)
        have h3 : bx = !an := by rw [hbx2.out, decide_eq_true e1, decide_eq_true e2]; rfl
        replace h3 := Lib.hid h3
        replace e1 := Lib.hid e1
        replace e2 := Lib.hid e2
        go_wp2_with fail
        generalize hw1 : World.alloc _ _ = w1
        obtain ⟨b1, B1⟩ : w1.heap[w.heap.size]? = some (.cells #[.int .i64 _, .bool fl, .bool ng, .string dg, .int .i64 ex, .int .u64 bt, .string tx, .slice A ns.length c, .slice B l.length d] 36 (0, 0)) ∧ Below w.heap.size w w1 := by
          subst hw1
          exact ⟨heap_alloc_new _ _, below_alloc (Below.refl _ _) _⟩
        clear hw1
        refine (hNms.out _ B1).mono ?_
        rintro e w2 ⟨rfl, B2⟩
        have b2 := blk_below b1 B2
        have B3 := below_then B1 B1.size B2
        obtain ⟨c0, c1, c2, c3, c4, c5, c6, c7, c8, f0, f1, f2, f3, f4, f5, f6, f7, f8⟩ := blk9 b2
        replace B3 := Lib.hid B3
        clear b1 b2 B1 B2
        cases an with
        | true =>
          go_wp2_with fail
          go_ret
          exact ⟨by rw [h3.out]; rfl, B3.out⟩
        | false =>
          go_wp2_with fail
          refine (hrec.out _ B3.out).mono ?_
          rintro e w3 ⟨rfl, B4⟩
          have B5 := below_then B3.out B3.out.size B4
          go_wp2_with fail
          go_ret
          exact ⟨by rw [h3.out]; simp, B5⟩
      · have h2 : decide ((256 : Int) < (l.length : Int)) = true := decide_eq_true (by omega)
        have h3 : bx = false := by rw [hbx2.out, decide_eq_false e2]; simp
        replace h3 := Lib.hid h3
        replace e1 := Lib.hid e1
        replace e2 := Lib.hid e2
        go_wp2_with fail
        go_ret
        exact ⟨by rw [h3.out]; rfl, below_alloc (Below.refl _ _) _⟩
    · have h1 : decide ((64 : Int) < (tx.size : Int)) = true := decide_eq_true (by omega)
      have h3 : bx = false := by rw [hbx2.out, decide_eq_false e1]; rfl
      replace h3 := Lib.hid h3
      replace e1 := Lib.hid e1
      go_wp2_with fail
      go_ret
      exact ⟨by rw [h3.out]; rfl, below_alloc (Below.refl _ _) _⟩
  · rw [if_neg hk] at hmo
    subst hmo
    have hk' : (k == 9) = false := by simp [hk]
    go_enter Tryz.func47, Tryz.ntmps47
    replace hG := Lib.hid hG
    by_cases e1 : (tx.size : Int) ≤ 4096
    · have h1 : decide ((4096 : Int) < (tx.size : Int)) = false := decide_eq_false (by omega)
      by_cases e2 : (l.length : Int) ≤ 256
      · have h2 : decide ((256 : Int) < (l.length : Int)) = false := decide_eq_false (by omega)
        have h3 : bx = !an := by rw [hbx2.out, decide_eq_true e1, decide_eq_true e2]; rfl
        replace h3 := Lib.hid h3
        replace e1 := Lib.hid e1
        replace e2 := Lib.hid e2
        go_wp2_with fail
        generalize hw1 : World.alloc _ _ = w1
        obtain ⟨b1, B1⟩ : w1.heap[w.heap.size]? = some (.cells #[.int .i64 _, .bool fl, .bool ng, .string dg, .int .i64 ex, .int .u64 bt, .string tx, .slice A ns.length c, .slice B l.length d] 36 (0, 0)) ∧ Below w.heap.size w w1 := by
          subst hw1
          exact ⟨heap_alloc_new _ _, below_alloc (Below.refl _ _) _⟩
        clear hw1
        refine (hNms.out _ B1).mono ?_
        rintro e w2 ⟨rfl, B2⟩
        have b2 := blk_below b1 B2
        have B3 := below_then B1 B1.size B2
        obtain ⟨c0, c1, c2, c3, c4, c5, c6, c7, c8, f0, f1, f2, f3, f4, f5, f6, f7, f8⟩ := blk9 b2
        replace B3 := Lib.hid B3
        clear b1 b2 B1 B2
        cases an with
        | true =>
          go_wp2_with fail
          go_ret
          exact ⟨by rw [h3.out]; rfl, B3.out⟩
        | false =>
          go_wp2_with fail
          refine (hrec.out _ B3.out).mono ?_
          rintro e w3 ⟨rfl, B4⟩
          have B5 := below_then B3.out B3.out.size B4
          go_wp2_with fail
          go_ret
          exact ⟨by rw [h3.out]; simp, B5⟩
      · have h2 : decide ((256 : Int) < (l.length : Int)) = true := decide_eq_true (by omega)
        have h3 : bx = false := by rw [hbx2.out, decide_eq_false e2]; simp
        replace h3 := Lib.hid h3
        replace e1 := Lib.hid e1
        replace e2 := Lib.hid e2
        go_wp2_with fail
        go_ret
        exact ⟨by rw [h3.out]; rfl, below_alloc (Below.refl _ _) _⟩
    · have h1 : decide ((4096 : Int) < (tx.size : Int)) = true := decide_eq_true (by omega)
      have h3 : bx = false := by rw [hbx2.out, decide_eq_false e1]; rfl
      replace h3 := Lib.hid h3
      replace e1 := Lib.hid e1
      go_wp2_with fail
      go_ret
      exact ⟨by rw [h3.out]; rfl, below_alloc (Below.refl _ _) _⟩
theorem short_any {x : S36} (h : Fit x) : ∀ (A : Option Addr) (c : Nat) (B : Option Addr) (d : Nat) (w : World), VR w x A c B d →
    Calls Tryz.prog 47 #[vV x A c B d] w fun e w' => e = .returned (.bool (shoT x)) ∧ Below w.heap.size w w' := by
  have h' := h
  induction h with
  | mk x hd ht hn hs hl hx ih =>
    intro A c B d w hr
    refine short_step x h' A c B d w hr ?_
    intro w' hb
    have hC := contains_v 97 hcf97 (fun y => !shoT y) x.f6 B d w' (Kd.C_below hr.l hb) hr.cl hl (fun y hy A7 c7 A8 c8 X hX hV => not97 _ _ _ _ _ _ _ _ _ _ X (fun X' hX' => ih y hy (hx y hy) A7 c7 A8 c8 X' (hV.below hX')))
    rw [shoL_any] at hC
    exact hC
/-- What value.Check says. -/
def chkT (x : S36) : Int := if frmT x = false then 40 else if shoT x = false ∨ 16 < depT x ∨ 4096 < sizT x then 2 else 0
end Go.Proofs.YtcpgcjmamjjokaaGreatDoor
namespace Go.Proofs.YtcpgcjmamjjokaaGreatDoor
open Go.RowKit Go.Maps Go.Proofs.YtcpgcjmamjjokaaGreatDoorW.PrintWords Go.Proofs.YtcpgcjmamjjokaaGreatDoorW.PrintMore Go.Proofs.YtcpgcjmamjjokaaGreatDoor.PTopLimits
set_option linter.unusedVariables false
set_option linter.unusedSimpArgs false
set_option maxHeartbeats 3200000 in
set_option maxRecDepth 100000 in
theorem Check_any {x : S36} (h : Fit x) (A : Option Addr) (c : Nat) (B : Option Addr) (d : Nat) (w : World) (hr : VR w x A c B d) (hT : Lib.Utf8Tabs 0 1 w) :
    Calls Tryz.prog 20 #[vV x A c B d] w fun e w' => e = .returned (.int .i64 (chkT x)) ∧ Below w.heap.size w w' := by
  have hF := fun X (hb : Below w.heap.size w X) => formed_any h A c B d X (hr.below hb) (Utf8Tabs_below hT hb)
  have hS := fun X (hb : Below w.heap.size w X) => short_any h A c B d X (hr.below hb)
  have hD := fun X (hb : Below w.heap.size w X) => Depth_any h (hr.below hb)
  have hZ := fun X (hb : Below w.heap.size w X) => Size_any h (hr.below hb)
  obtain ⟨r, hrr⟩ : ∃ r, chkT x = r := ⟨_, rfl⟩
  rw [hrr]
  unfold chkT at hrr
  clear hr hT h
  generalize frmT x = bf at *
  generalize shoT x = bs at *
  generalize depT x = dp at *
  generalize sizT x = sz at *
  unfold vV at *
  generalize hx0 : x.f0 = v0 at *
  generalize x.f1 = v1 at *
  generalize x.f2.f0 = v2 at *
  generalize x.f2.f1 = v3 at *
  generalize x.f2.f2 = v4 at *
  generalize x.f3 = v5 at *
  generalize x.f4 = v6 at *
  generalize x.f5.length = n7 at *
  generalize x.f6.length = n8 at *
  clear hx0
  replace hF := Lib.hid hF
  replace hS := Lib.hid hS
  replace hD := Lib.hid hD
  replace hZ := Lib.hid hZ
  replace hrr := Lib.hid hrr
  go_enter Tryz.func20, Tryz.ntmps20
  go_wp2_with fail
  generalize hw1 : World.alloc _ _ = w1
  obtain ⟨G, hG⟩ : ∃ G, w.heap.size = G := ⟨_, rfl⟩
  rw [hG]
  obtain ⟨b1, B1⟩ : w1.heap[G]? = some (.cells #[.int .i64 v0, .bool v1, .bool v2, .string v3, .int .i64 v4, .int .u64 v5, .string v6, .slice A n7 c, .slice B n8 d] 36 (0, 0)) ∧ Below w.heap.size w w1 := by
    subst hw1 hG
    exact ⟨heap_alloc_new _ _, below_alloc (Below.refl _ _) _⟩
  clear hw1
  replace hG := Lib.hid hG
  refine (hF.out _ B1).mono ?_
  rintro e w2 ⟨rfl, B2⟩
  have b2 := blk_below b1 B2
  have B3 := Lib.hid (below_then B1 B1.size B2)
  clear b1 B1 B2
  cases bf with
  | false =>
    have hr2 := hrr.out
    rw [if_pos rfl] at hr2
    subst hr2
    go_wp2_with fail
    go_ret
    exact ⟨rfl, B3.out⟩
  | true =>
    have hr2 := hrr.out
    rw [if_neg (by simp)] at hr2
    clear hrr
    replace hr2 := Lib.hid hr2
    obtain ⟨c0, c1, c2, c3, c4, c5, c6, c7, c8, f0, f1, f2, f3, f4, f5, f6, f7, f8⟩ := blk9 b2
    replace b2 := Lib.hid b2
    go_wp2_with fail
    refine (hS.out _ B3.out).mono ?_
    rintro e w4 ⟨rfl, B4⟩
    have b4 := blk_below b2.out B4
    have B5 := Lib.hid (below_then B3.out B3.out.size B4)
    clear b2 B4 c0 c1 c2 c3 c4 c5 c6 c7 c8 f0 f1 f2 f3 f4 f5 f6 f7 f8
    cases bs with
    | false =>
      have hr3 := hr2.out
      rw [if_pos (.inl rfl)] at hr3
      subst hr3
      go_wp2_with fail
      go_ret
      exact ⟨rfl, B5.out⟩
    | true =>
      obtain ⟨c0, c1, c2, c3, c4, c5, c6, c7, c8, f0, f1, f2, f3, f4, f5, f6, f7, f8⟩ := blk9 b4
      replace b4 := Lib.hid b4
      go_wp2_with fail
      refine (hD.out _ B5.out).mono ?_
      rintro e w6 ⟨rfl, B6⟩
      have b6 := blk_below b4.out B6
      have B7 := Lib.hid (below_then B5.out B5.out.size B6)
      clear b4 B6 c0 c1 c2 c3 c4 c5 c6 c7 c8 f0 f1 f2 f3 f4 f5 f6 f7 f8
      by_cases e1 : 16 < dp
      · have h1 : decide (16 < dp) = true := decide_eq_true e1
        have hr3 := hr2.out
        rw [if_pos (.inr (.inl e1))] at hr3
        subst hr3
        replace e1 := Lib.hid e1
        go_wp2_with fail
        go_ret
        exact ⟨rfl, B7.out⟩
      · have h1 : decide (16 < dp) = false := decide_eq_false e1
        obtain ⟨c0, c1, c2, c3, c4, c5, c6, c7, c8, f0, f1, f2, f3, f4, f5, f6, f7, f8⟩ := blk9 b6
        replace b6 := Lib.hid b6
        replace e1 := Lib.hid e1
        go_wp2_with fail
        refine (hZ.out _ B7.out).mono ?_
        rintro e w8 ⟨rfl, B8⟩
        have B9 := Lib.hid (below_then B7.out B7.out.size B8)
        clear B8 c0 c1 c2 c3 c4 c5 c6 c7 c8 f0 f1 f2 f3 f4 f5 f6 f7 f8
        by_cases e2 : 4096 < sz
        · have h2 : decide (4096 < sz) = true := decide_eq_true e2
          have hr3 := hr2.out
          rw [if_pos (.inr (.inr e2))] at hr3
          subst hr3
          replace e2 := Lib.hid e2
          go_wp2_with fail
          go_ret
          exact ⟨rfl, B9.out⟩
        · have h2 : decide (4096 < sz) = false := decide_eq_false e2
          have hr3 := hr2.out
          rw [if_neg (by rintro (h | h | h); exact absurd h (by simp); exact absurd h (by have := e1.out; omega); exact absurd h (by omega))] at hr3
          subst hr3
          replace e2 := Lib.hid e2
          go_wp2_with fail
          go_ret
          exact ⟨rfl, B9.out⟩
end Go.Proofs.YtcpgcjmamjjokaaGreatDoor
namespace Go.Proofs.YtcpgcjmamjjokaaGreatDoor
open Go.RowKit Go.Maps Go.Proofs.YtcpgcjmamjjokaaGreatDoorW.PrintWords Go.Proofs.YtcpgcjmamjjokaaGreatDoorW.PrintMore Go.Proofs.YtcpgcjmamjjokaaGreatDoor.PTopLimits
set_option linter.unusedVariables false
set_option linter.unusedSimpArgs false
/-- What the formats read of the program's variables. -/
structure Laid (w : World) : Prop where
  tabs : Lib.Utf8Tabs 0 1 w
  w0 : w.cell? ⟨5, 0, none⟩ = some (.int .i64 1)
  w1 : w.cell? ⟨5, 1, none⟩ = some (.int .i64 2)
  w2 : w.cell? ⟨5, 2, none⟩ = some (.int .i64 4)
  w3 : w.cell? ⟨5, 3, none⟩ = some (.int .i64 8)
theorem Laid.below {w w' : World} (h : Laid w) (hb : Below w.heap.size w w') : Laid w' :=
  ⟨Utf8Tabs_below h.tabs hb, pw_cell_below hb h.w0, pw_cell_below hb h.w1, pw_cell_below hb h.w2, pw_cell_below hb h.w3⟩
/-- What is refused. -/
def Refused (n : Nat) (v : Value) (r : Int) (w : World) : Prop := Calls Tryz.prog n #[v] w fun e w' => e = .returned (.tuple #[.slice none 0 0, .int .i64 r]) ∧ Below w.heap.size w w'
/-- A value's nine cells. -/
def nine (v0 : Int) (v1 v2 : Bool) (v3 : ByteArray) (v4 v5 : Int) (v6 : ByteArray) (A : Option Addr) (n7 c : Nat) (B : Option Addr) (n8 d : Nat) : Value :=
  .agg #[.int .i64 v0, .bool v1, .bool v2, .string v3, .int .i64 v4, .int .u64 v5, .string v6, .slice A n7 c, .slice B n8 d]
set_option maxHeartbeats 1600000 in
set_option maxRecDepth 100000 in
theorem refuse50 {v0 : Int} {v1 v2 : Bool} {v3 : ByteArray} {v4 v5 : Int} {v6 : ByteArray} {A : Option Addr} {n7 c : Nat} {B : Option Addr} {n8 d : Nat} {r : Int} (hr : r ≠ 0) (w : World)
    (hC : ∀ X, Below w.heap.size w X → Calls Tryz.prog 20 #[nine v0 v1 v2 v3 v4 v5 v6 A n7 c B n8 d] X fun e w' => e = .returned (.int .i64 r) ∧ Below X.heap.size X w') : Refused 50 (nine v0 v1 v2 v3 v4 v5 v6 A n7 c B n8 d) r w := by
  unfold Refused
  unfold nine at *
  replace hC := Lib.hid hC
  have hne : (r == 0) = false := by simp [hr]
  go_enter Tryz.func50, Tryz.ntmps50
  go_wp2_with fail
  generalize hw1 : World.alloc _ _ = w1
  have B1 : Below w.heap.size w w1 := by
    subst hw1
    exact below_alloc (Below.refl _ _) _
  clear hw1
  refine (hC.out _ B1).mono ?_
  rintro e w2 ⟨rfl, B2⟩
  have B3 := below_then B1 B1.size B2
  go_wp2_with fail
  go_ret2
  exact ⟨rfl, B3⟩
set_option maxHeartbeats 1600000 in
set_option maxRecDepth 100000 in
theorem refuse51 {v0 : Int} {v1 v2 : Bool} {v3 : ByteArray} {v4 v5 : Int} {v6 : ByteArray} {A : Option Addr} {n7 c : Nat} {B : Option Addr} {n8 d : Nat} {r : Int} (hr : r ≠ 0) (w : World)
    (hC : ∀ X, Below w.heap.size w X → Calls Tryz.prog 20 #[nine v0 v1 v2 v3 v4 v5 v6 A n7 c B n8 d] X fun e w' => e = .returned (.int .i64 r) ∧ Below X.heap.size X w') : Refused 51 (nine v0 v1 v2 v3 v4 v5 v6 A n7 c B n8 d) r w := by
  unfold Refused
  unfold nine at *
  replace hC := Lib.hid hC
  have hne : (r == 0) = false := by simp [hr]
  go_enter Tryz.func51, Tryz.ntmps51
  go_wp2_with fail
  generalize hw1 : World.alloc _ _ = w1
  have B1 : Below w.heap.size w w1 := by
    subst hw1
    exact below_alloc (Below.refl _ _) _
  clear hw1
  refine (hC.out _ B1).mono ?_
  rintro e w2 ⟨rfl, B2⟩
  have B3 := below_then B1 B1.size B2
  go_wp2_with fail
  go_ret2
  exact ⟨rfl, B3⟩
set_option maxHeartbeats 1600000 in
set_option maxRecDepth 100000 in
theorem refuse52 {v0 : Int} {v1 v2 : Bool} {v3 : ByteArray} {v4 v5 : Int} {v6 : ByteArray} {A : Option Addr} {n7 c : Nat} {B : Option Addr} {n8 d : Nat} {r : Int} (hr : r ≠ 0) (w : World)
    (hC : ∀ X, Below w.heap.size w X → Calls Tryz.prog 20 #[nine v0 v1 v2 v3 v4 v5 v6 A n7 c B n8 d] X fun e w' => e = .returned (.int .i64 r) ∧ Below X.heap.size X w') : Refused 52 (nine v0 v1 v2 v3 v4 v5 v6 A n7 c B n8 d) r w := by
  unfold Refused
  unfold nine at *
  replace hC := Lib.hid hC
  have hne : (r == 0) = false := by simp [hr]
  go_enter Tryz.func52, Tryz.ntmps52
  go_wp2_with fail
  generalize hw1 : World.alloc _ _ = w1
  have B1 : Below w.heap.size w w1 := by
    subst hw1
    exact below_alloc (Below.refl _ _) _
  clear hw1
  refine (hC.out _ B1).mono ?_
  rintro e w2 ⟨rfl, B2⟩
  have B3 := below_then B1 B1.size B2
  go_wp2_with fail
  go_ret2
  exact ⟨rfl, B3⟩
set_option maxHeartbeats 1600000 in
set_option maxRecDepth 100000 in
theorem refuse53 {v0 : Int} {v1 v2 : Bool} {v3 : ByteArray} {v4 v5 : Int} {v6 : ByteArray} {A : Option Addr} {n7 c : Nat} {B : Option Addr} {n8 d : Nat} {r : Int} (hr : r ≠ 0) (w : World)
    (hC : ∀ X, Below w.heap.size w X → Calls Tryz.prog 20 #[nine v0 v1 v2 v3 v4 v5 v6 A n7 c B n8 d] X fun e w' => e = .returned (.int .i64 r) ∧ Below X.heap.size X w') : Refused 53 (nine v0 v1 v2 v3 v4 v5 v6 A n7 c B n8 d) r w := by
  unfold Refused
  unfold nine at *
  replace hC := Lib.hid hC
  have hne : (r == 0) = false := by simp [hr]
  go_enter Tryz.func53, Tryz.ntmps53
  go_wp2_with fail
  generalize hw1 : World.alloc _ _ = w1
  have B1 : Below w.heap.size w w1 := by
    subst hw1
    exact below_alloc (Below.refl _ _) _
  clear hw1
  refine (hC.out _ B1).mono ?_
  rintro e w2 ⟨rfl, B2⟩
  have B3 := below_then B1 B1.size B2
  go_wp2_with fail
  go_ret2
  exact ⟨rfl, B3⟩
set_option maxHeartbeats 3200000 in
set_option maxRecDepth 100000 in
theorem write_no (f : Int) (hf : f = 0 ∨ f = 1 ∨ f = 2 ∨ f = 3) {v0 : Int} {v1 v2 : Bool} {v3 : ByteArray} {v4 v5 : Int} {v6 : ByteArray} {A : Option Addr} {n7 c : Nat} {B : Option Addr} {n8 d : Nat} {r : Int} (hr : r ≠ 0) (w : World)
    (hC : ∀ X, Below w.heap.size w X → Calls Tryz.prog 20 #[nine v0 v1 v2 v3 v4 v5 v6 A n7 c B n8 d] X fun e w' => e = .returned (.int .i64 r) ∧ Below X.heap.size X w') :
    Calls Tryz.prog 22 #[.int .i64 f, nine v0 v1 v2 v3 v4 v5 v6 A n7 c B n8 d] w fun e w' => e = .returned (.tuple #[.slice none 0 0, .int .i64 r]) ∧ Below w.heap.size w w' := by
  have h50 := fun X (hb : Below w.heap.size w X) => refuse50 hr X (fun Y hY => hC Y (below_then hb hb.size hY))
  have h51 := fun X (hb : Below w.heap.size w X) => refuse51 hr X (fun Y hY => hC Y (below_then hb hb.size hY))
  have h52 := fun X (hb : Below w.heap.size w X) => refuse52 hr X (fun Y hY => hC Y (below_then hb hb.size hY))
  have h53 := fun X (hb : Below w.heap.size w X) => refuse53 hr X (fun Y hY => hC Y (below_then hb hb.size hY))
  clear hC hr
  unfold Refused at *
  unfold nine at *
  replace h50 := Lib.hid h50
  replace h51 := Lib.hid h51
  replace h52 := Lib.hid h52
  replace h53 := Lib.hid h53
  have B1 := fun o => Lib.hid (below_alloc (Below.refl w.heap.size w) o)
  rcases hf with rfl | rfl | rfl | rfl
  · go_enter Tryz.func22, Tryz.ntmps22
    go_wp2_with fail
    refine (h50.out _ (B1 _).out).mono ?_
    rintro e w2 ⟨rfl, B2⟩
    have B3 := below_then (B1 _).out (B1 _).out.size B2
    go_wp2_with fail
    go_ret2
    exact ⟨rfl, B3⟩
  · go_enter Tryz.func22, Tryz.ntmps22
    go_wp2_with fail
    refine (h51.out _ (B1 _).out).mono ?_
    rintro e w2 ⟨rfl, B2⟩
    have B3 := below_then (B1 _).out (B1 _).out.size B2
    go_wp2_with fail
    go_ret2
    exact ⟨rfl, B3⟩
  · go_enter Tryz.func22, Tryz.ntmps22
    go_wp2_with fail
    refine (h52.out _ (B1 _).out).mono ?_
    rintro e w2 ⟨rfl, B2⟩
    have B3 := below_then (B1 _).out (B1 _).out.size B2
    go_wp2_with fail
    go_ret2
    exact ⟨rfl, B3⟩
  · go_enter Tryz.func22, Tryz.ntmps22
    go_wp2_with fail
    refine (h53.out _ (B1 _).out).mono ?_
    rintro e w2 ⟨rfl, B2⟩
    have B3 := below_then (B1 _).out (B1 _).out.size B2
    go_wp2_with fail
    go_ret2
    exact ⟨rfl, B3⟩
set_option maxHeartbeats 3200000 in
set_option maxRecDepth 100000 in
theorem limits_walk (hsp : ∀ X : World, Laid X → Calls Tryz.prog 21 #[] X fun e w' => e = .returned (.bool true) ∧ Below X.heap.size X w') {x : S36} (h : Fit x) (A : Option Addr) (c : Nat) (B : Option Addr) (d : Nat) (w : World) (hr : VR w x A c B d) (hL : Laid w) :
    Calls Tryz.prog 5 #[vV x A c B d] w fun e w' => e = .returned (.bool true) ∧ Below w.heap.size w w' := by
  have hBig := fun X (hb : Below w.heap.size w X) => big_any h (hr.below hb)
  have hChk := fun X (hb : Below w.heap.size w X) => Check_any h A c B d X (hr.below hb) (Utf8Tabs_below hL.tabs hb)
  have hSp := fun X (hb : Below w.heap.size w X) => hsp X (hL.below hb)
  have hWr := fun (hne : chkT x ≠ 0) (f : Int) (hf : f = 0 ∨ f = 1 ∨ f = 2 ∨ f = 3) X (hb : Below w.heap.size w X) => write_no f hf hne X (fun Y hY => hChk Y (below_then hb hb.size hY))
  clear hr hL h hsp
  generalize chkT x = r at *
  unfold vV at *
  unfold nine at hWr
  generalize x.f0 = v0 at *
  generalize x.f1 = v1 at *
  generalize x.f2.f0 = v2 at *
  generalize x.f2.f1 = v3 at *
  generalize x.f2.f2 = v4 at *
  generalize x.f3 = v5 at *
  generalize x.f4 = v6 at *
  generalize x.f5.length = n7 at *
  generalize x.f6.length = n8 at *
  replace hBig := Lib.hid hBig
  replace hChk := Lib.hid hChk
  replace hSp := Lib.hid hSp
  replace hWr := Lib.hid hWr
  go_enter Tryz.func5, Tryz.ntmps5
  go_wp2_with fail
  generalize hw1 : World.alloc _ _ = w1
  obtain ⟨G, hG⟩ : ∃ G, w.heap.size = G := ⟨_, rfl⟩
  rw [hG]
  obtain ⟨b1, B1⟩ : w1.heap[G]? = some (.cells #[.int .i64 v0, .bool v1, .bool v2, .string v3, .int .i64 v4, .int .u64 v5, .string v6, .slice A n7 c, .slice B n8 d] 36 (0, 0)) ∧ Below w.heap.size w w1 := by
    subst hw1 hG
    exact ⟨heap_alloc_new _ _, below_alloc (Below.refl _ _) _⟩
  clear hw1
  replace hG := Lib.hid hG
  refine (hBig.out _ B1).mono ?_
  rintro e w2 ⟨bb, rfl, B2⟩
  have b2 := blk_below b1 B2
  have B3 := Lib.hid (below_then B1 B1.size B2)
  clear b1 B1 B2
  obtain ⟨c0, c1, c2, c3, c4, c5, c6, c7, c8, f0, f1, f2, f3, f4, f5, f6, f7, f8⟩ := blk9 b2
  replace b2 := Lib.hid b2
  cases bb with
  | true =>
    go_wp2_with fail
    go_ret
    exact ⟨rfl, B3.out⟩
  | false =>
    go_wp2_with fail
    refine (hChk.out _ B3.out).mono ?_
    rintro e w4 ⟨rfl, B4⟩
    have b4 := blk_below b2.out B4
    have B5 := Lib.hid (below_then B3.out B3.out.size B4)
    clear b2 B4 c0 c1 c2 c3 c4 c5 c6 c7 c8 f0 f1 f2 f3 f4 f5 f6 f7 f8
    replace b4 := Lib.hid b4
    by_cases hr0 : r = 0
    · subst hr0
      go_wp2_with fail
      refine (hSp.out _ B5.out).mono ?_
      rintro e w6 ⟨rfl, B6⟩
      have B7 := below_then B5.out B5.out.size B6
      go_wp2_with fail
      go_ret
      exact ⟨rfl, B7⟩
    · have hW := Lib.hid (hWr.out hr0)
      have hne : (r == 0) = false := by simp [hr0]
      have hee : (r == r) = true := by simp
      clear hWr
      replace hr0 := Lib.hid hr0
      go_wp2_with fail
      go_loopw [4] (fun j4 w' => ∃ (i : Nat) (X : World), j4 = .int .i64 (i : Int) ∧ X = w' ∧ i ≤ 4 ∧ Hid (X.heap[G]? = some (.cells #[.int .i64 v0, .bool v1, .bool v2, .string v3, .int .i64 v4, .int .u64 v5, .string v6, .slice A n7 c, .slice B n8 d] 36 (0, 0))) ∧ Hid (Below w.heap.size w X)) (fun j4 _ => 4 - (intOf j4).toNat)
      case atStart => exact ⟨0, _, rfl, rfl, by omega, b4, B5⟩
      case round =>
        obtain ⟨i, X, rfl, rfl, hi, hX, hB⟩ := hrel
        obtain ⟨c0, c1, c2, c3, c4, c5, c6, c7, c8, f0, f1, f2, f3, f4, f5, f6, f7, f8⟩ := blk9 hX.out
        by_cases ci : i < 4
        · have hd1 : decide ((i : Int) < 4) = true := decide_eq_true (by omega)
          have hC := Lib.hid (hW.out (i : Int) (by omega) X hB.out)
          go_wp2_with fail
          refine hC.out.mono ?_
          rintro e X2 ⟨rfl, B2⟩
          have hX2 := Lib.hid (blk_below hX.out B2)
          have hB2 := Lib.hid (below_then hB.out hB.out.size B2)
          have hw : wrap64 ((i : Int) + 1) = ((i + 1 : Nat) : Int) := by unfold wrap64; omega
          clear B2
          go_wp2_with fail
          go_roundw
          case rel => exact ⟨i + 1, _, by first | rfl | (push_cast; rfl), rfl, by omega, hX2, hB2⟩
          case measure => simp [intOf]; omega
        · have hd1 : decide ((i : Int) < 4) = false := decide_eq_false (by omega)
          go_wp2_with fail
          refine (hSp.out _ hB.out).mono ?_
          rintro e w6 ⟨rfl, B6⟩
          have B7 := below_then hB.out hB.out.size B6
          go_wp2_with fail
          go_ret
          exact ⟨rfl, B7⟩
end Go.Proofs.YtcpgcjmamjjokaaGreatDoor
