/- The Checker's Feed. -/
import Derived.Test.YtimfabbielphbaaDoorWh
import Derived.Test.YtimfabbielphbaaDoorPf
import Derived.Deep.RegionWith
import Derived.StillTailTactics
namespace Go.Proofs.YtimfabbielphbaaDoor
open Go.RowKit Go.Lib Go.Proofs.YtimfabbielphbaaDoorW.PrintWords Go.Proofs.YtimfabbielphbaaDoorW.PrintMore
set_option linter.unusedVariables false
set_option linter.unusedSimpArgs false

/-- A Checker's own block, its four bytes as a list. -/
def ChkL (w : World) (g : Nat) (bs : List UInt8) (n : Nat) (bad : Bool) : Prop :=
  bs.length = 4 ∧ w.heap[g]? = some (.cells ((bs.map fun (b : UInt8) => Value.int .u8 b.toNat) ++ [Value.int .i64 n, Value.bool bad]).toArray 55 (0, 0))
theorem ChkL.cells {w : World} {g n : Nat} {bs : List UInt8} {bad : Bool} (h : ChkL w g bs n bad) :
    w.cell? ⟨g, 4, none⟩ = some (.int .i64 n) ∧ w.cell? ⟨g, 5, none⟩ = some (.bool bad) ∧ (∀ j, w.frozen? ⟨g, j, none⟩ = false) := by
  obtain ⟨h4, h⟩ := h
  match bs, h4 with
  | [b0, b1, b2, b3], _ => exact ⟨(blk_cell h 4).trans rfl, (blk_cell h 5).trans rfl, fun j => blk_frozen h j⟩
theorem ChkL.byte {w : World} {g n : Nat} {bs : List UInt8} {bad : Bool} (h : ChkL w g bs n bad) (j : Nat) (hj : j < 4) : w.cell? ⟨g, j, none⟩ = some (.int .u8 (bs.getD j 0).toNat) := by
  obtain ⟨h4, h⟩ := h
  refine (blk_cell h j).trans ?_
  simp [List.getElem?_append, h4, hj, List.getD_eq_getElem?_getD, List.getElem?_eq_getElem (show j < bs.length by omega)]
theorem ChkL.setn {w : World} {g n : Nat} {bs : List UInt8} {bad : Bool} (h : ChkL w g bs n bad) (m : Nat) : ChkL (w.setCell ⟨g, 4, none⟩ (.int .i64 m)) g bs m bad := by
  obtain ⟨h4, h⟩ := h
  match bs, h4 with
  | [b0, b1, b2, b3], _ => exact ⟨rfl, by simpa using blk_set h 4 (.int .i64 m)⟩
theorem ChkL.setb {w : World} {g n : Nat} {bs : List UInt8} {bad : Bool} (h : ChkL w g bs n bad) (z : Bool) : ChkL (w.setCell ⟨g, 5, none⟩ (.bool z)) g bs n z := by
  obtain ⟨h4, h⟩ := h
  match bs, h4 with
  | [b0, b1, b2, b3], _ => exact ⟨rfl, by simpa using blk_set h 5 (.bool z)⟩
theorem ChkL.setx {w : World} {g n : Nat} {bs : List UInt8} {bad : Bool} (h : ChkL w g bs n bad) (j : Nat) (x : UInt8) (hj : j < 4) : ChkL (w.setCell ⟨g, j, none⟩ (.int .u8 x.toNat)) g (bs.set j x) n bad := by
  obtain ⟨h4, h⟩ := h
  refine ⟨by simp [h4], ?_⟩
  rw [blk_set h j (.int .u8 x.toNat)]
  match bs, h4 with
  | [b0, b1, b2, b3], _ =>
    rcases (show j = 0 ∨ j = 1 ∨ j = 2 ∨ j = 3 by omega) with rfl | rfl | rfl | rfl <;> simp
theorem ChkL.kept {w w' : World} {g n : Nat} {bs : List UInt8} {bad : Bool} {S : Nat → Prop} (h : ChkL w g bs n bad) (hk : Kp w w' S) (hS : ¬ S g) : ChkL w' g bs n bad := ⟨h.1, hk.heap h.2 hS⟩
theorem ChkL.below {w w' : World} {g n : Nat} {bs : List UInt8} {bad : Bool} (h : ChkL w g bs n bad) (hb : Below w.heap.size w w') : ChkL w' g bs n bad := ⟨h.1, blk_below h.2 hb⟩
theorem ChkL.lt {w : World} {g n : Nat} {bs : List UInt8} {bad : Bool} (h : ChkL w g bs n bad) : g < w.heap.size := blk_lt h.2
theorem ChkL.reads {w : World} {g n : Nat} {bs : List UInt8} {bad : Bool} (h : ChkL w g bs n bad) (m : Nat) (hm : m ≤ 4) : ReadsInt w .u8 (some ⟨g, 0, none⟩) m ((bs.take m).map fun x => (x.toNat : Int)) := by
  have h4 := h.1
  refine ⟨by simp; omega, by omega, fun _ => ⟨_, rfl, fun j hj => ?_⟩⟩
  have := h.byte j (by omega)
  rw [show (Addr.add ⟨g, 0, none⟩ j) = ⟨g, j, none⟩ by rcases j with _ | j <;> simp [Addr.add], this]
  simp [List.getD_eq_getElem?_getD, List.getElem?_take, hj, List.getElem?_eq_getElem (show j < bs.length by omega)]
/-- A Checker as a whole: what is left, and whether it was wrong. -/
def ChkIs (w : World) (g : Nat) (s : List UInt8 × Bool) : Prop := Lft s ∧ ∃ bs, bs.take s.1.length = s.1 ∧ ChkL w g bs s.1.length s.2
theorem tabs_kp {w w' : World} {g : Nat} (hT : Lib.Utf8Tabs 0 1 w) (k : Kp w w' (· = g)) (hg : 2 ≤ g) : Lib.Utf8Tabs 0 1 w' := by
  have h0 : w'.heap[0]? = w.heap[0]? := k.block 0 (World.block_lt_of_cell? _ _ (hT.1 0 (by omega))) (by omega)
  have h1 : w'.heap[1]? = w.heap[1]? := k.block 1 (World.block_lt_of_cell? _ _ (hT.2 0 (by omega)).1) (by omega)
  refine ⟨fun c hc => ?_, fun i hi => ⟨?_, ?_⟩⟩
  · rw [World.cell?_of_block h0]; exact hT.1 c hc
  · rw [World.cell?_of_block h1]; exact (hT.2 i hi).1
  · rw [World.cell?_of_block h1]; exact (hT.2 i hi).2

theorem tabs_heap {w w' : World} (hT : Lib.Utf8Tabs 0 1 w) (e : w'.heap = w.heap) : Lib.Utf8Tabs 0 1 w' := by
  refine ⟨fun c hc => ?_, fun i hi => ⟨?_, ?_⟩⟩
  · rw [World.cell?_of_block (w := w) (w' := w') (by rw [e])]; exact hT.1 c hc
  · rw [World.cell?_of_block (w := w) (w' := w') (by rw [e])]; exact (hT.2 i hi).1
  · rw [World.cell?_of_block (w := w) (w' := w') (by rw [e])]; exact (hT.2 i hi).2
theorem slice_left (w : World) (g n : Nat) (hn : n < 4) : (Instr.sliceAt 53 (.pointer (some ⟨g, 0, none⟩)) none (some (.int .i64 ((n : Int) + 1))) none).run Tryd.prog w = .ok (.slice (some ⟨g, 0, none⟩) (n + 1) 4) w := by
  rcases (show n = 0 ∨ n = 1 ∨ n = 2 ∨ n = 3 by omega) with rfl | rfl | rfl | rfl <;> kernel_rfl
theorem decode_left (l : List UInt8) (w : World) (hT : Lib.Utf8Tabs 0 1 w) (hs : (⟨l.toArray⟩ : ByteArray).size ≤ 9223372036854775806) (hne : l ≠ []) (p q r : Nat) (hD : Pl.stL l = (p, q, r)) :
    Calls Tryd.prog 16 #[.string ⟨l.toArray⟩, .int .i64 0] w fun e w' => e = .returned (.tuple #[.int .i64 p, .int .i64 q, .int .i64 r]) ∧ Below w.heap.size w w' := by
  refine (decode_any ⟨l.toArray⟩ 0 w hT hs).mono fun e w' h => ⟨h.1.trans ?_, h.2⟩
  have hl : 0 < l.length := List.length_pos_iff.2 hne
  have : dcL (⟨l.toArray⟩ : ByteArray).data.toList 0 = (p, q, r) := by
    unfold dcL
    rw [if_neg (by simp; omega)]
    simpa using hD
  rw [this]; rfl
theorem set_take (bs : List UInt8) (n : Nat) (x : UInt8) (hn : n < bs.length) : (bs.set n x).take (n + 1) = bs.take n ++ [x] := by
  rw [List.take_add_one, List.take_set_of_le (Nat.le_refl _)]
  simp [hn]
theorem strOf_bytes (xs : List UInt8) : strOfNums (xs.map fun x => (x.toNat : Int)) = ⟨xs.toArray⟩ := by
  simp only [strOfNums, List.map_map]
  congr 1
  congr 1
  conv => rhs; rw [← List.map_id xs]
  apply List.map_congr_left
  intro x _
  simp

set_option maxHeartbeats 2000000 in
set_option maxRecDepth 1000000 in
theorem feed_any (w : World) (g : Nat) (s : List UInt8 × Bool) (h : ChkIs w g s) (A : Option Addr) (m cap : Nat) (xs : List UInt8) (hT : Lib.Utf8Tabs 0 1 w) (hg1 : 2 ≤ g)
    (hr : ReadsInt w .u8 A m (xs.map fun x => (x.toNat : Int))) (hne : ∀ ad, A = some ad → ∀ j, j < m → (ad.add j).block ≠ g) (hm : m ≤ 1000000) (hc : m ≤ cap) :
    Calls Tryd.prog 19 #[.pointer (some ⟨g, 0, none⟩), .slice A m cap] w fun e w' => e = .returned (.int .i64 (feedE (fed s xs))) ∧ ChkIs w' g (fed s xs) ∧ Kp w w' (· = g) := by
  have hxl : xs.length = m := by have := hr.1; simpa using this
  have HX := Aside0.mk hxl
  clear hxl
  go_enter Tryd.func19, Tryd.ntmps19
  go_wp2_with fail
  replace hT := Aside0.mk hT
  replace hr := Aside0.mk hr
  go_loopw [14] (fun i w' => ∃ (j : Nat) (t : List UInt8 × Bool), i = .int .i64 j ∧ j ≤ m ∧ ChkIs w' g t ∧ Aside0 (fed s (xs.take j) = t) ∧ Kp w w' (· = g)) (fun i _ => m - (RowKit.intOf i).toNat)
  case atStart => exact ⟨0, s, rfl, by omega, h, ⟨rfl⟩, Kp.refl _ _⟩
  case round =>
    obtain ⟨j, ⟨l, z⟩, rfl, hj, ⟨HL, bs, hbs, H⟩, HF, HK⟩ := hrel
    have hn := HL.short
    simp only at hn hbs H
    have hgw := H.lt
    have h4 := H.1
    obtain ⟨n, hln⟩ : ∃ n, l.length = n := ⟨_, rfl⟩
    rw [hln] at hn hbs H
    obtain ⟨k4, k5, kf⟩ := H.cells
    by_cases hjm : j < m
    · have hd : decide ((j : Int) < (m : Int)) = true := decide_eq_true (by omega)
      obtain ⟨x, hx⟩ : ∃ x, xs[j]? = some x := ⟨_, List.getElem?_eq_getElem (by have := HX.out; omega)⟩
      obtain ⟨ad, rfl, hcell⟩ := (HK.reads hr.out (fun ad had j hj => hne ad had j hj)).2.2 (by omega)
      have hcx : wr.cell? (ad.add j) = some (Value.int .u8 (x.toNat : Int)) := by
        rw [hcell j hjm]; simp [List.getD_eq_getElem?_getD, hx]
      clear hcell
      have hst := fed_take s xs j x hx
      rw [HF.out] at hst
      cases z with
      | true =>
        have hstop := fed_stop s xs j l HF.out
        replace hx := Aside0.mk hx
        replace hst := Aside0.mk hst
        replace hstop := Aside0.mk hstop
        replace hln := Aside0.mk hln
        replace hbs := Aside0.mk hbs
        go_wp2_with fail
        go_ret
        exact ⟨by rw [hstop.out]; rfl, by rw [hstop.out]; exact ⟨HL, bs, by rw [hln.out]; exact hbs.out, by rw [hln.out]; exact H⟩, HK⟩
      | false =>
        have HK2 : Kp w wr.drew (· = g) := HK.drew
        have H2 : ChkL wr.drew g bs n false := H
        have hT' := tabs_kp hT.out HK2 hg1
        have ht : (x.toNat : Int) < 256 := by have := UInt8.toNat_lt x; omega
        have hn2 : (n : Int) < 4 := by omega
        replace hT' := Aside0.mk hT'
        replace hx := Aside0.mk hx
        replace hst := Aside0.mk hst
        replace hln := Aside0.mk hln
        replace hbs := Aside0.mk hbs
        clear H
        go_wp2_with fail
        go_still_tail 9, (by kernel_rfl)
        change wpList _ _ _ _ _ wr.drew
        generalize wr.drew = w2 at *
        clear k4 k5 kf hcx
        obtain ⟨k4, k5, kf⟩ := H2.cells
        have k6 := H2.byte n hn
        have H3 := (H2.setx n x hn).setn (n + 1)
        have HK3 := (HK2.set_ (p := ⟨g, n, none⟩) (.inl rfl) (.int .u8 (x.toNat : Int))).set_ (p := ⟨g, 4, none⟩) (.inl rfl) (.int .i64 ((n + 1 : Nat) : Int))
        rw [show (((n + 1 : Nat)) : Int) = (n : Int) + 1 from by omega] at HK3
        have hT3 : Lib.Utf8Tabs 0 1 ((w2.setCell ⟨g, n, none⟩ (.int .u8 (x.toNat : Int))).setCell ⟨g, 4, none⟩ (.int .i64 ((n : Int) + 1))) := tabs_kp hT.out HK3 hg1
        have H3' : ChkL ((w2.setCell ⟨g, n, none⟩ (.int .u8 (x.toNat : Int))).setCell ⟨g, 4, none⟩ (.int .i64 ((n : Int) + 1))) g (bs.set n x) (n + 1) false := by
          rw [show (((n + 1 : Nat)) : Int) = (n : Int) + 1 from by omega] at H3
          exact H3
        replace hT3 := Aside0.mk hT3
        replace HK3 := Aside0.mk HK3
        replace H3' := Aside0.mk H3'
        clear H3
        replace H2 := Aside0.mk H2
        go_wp2_with fail
        generalize ((w2.setCell ⟨g, n, none⟩ (.int .u8 (x.toNat : Int))).setCell ⟨g, 4, none⟩ (.int .i64 ((n : Int) + 1))) = w3 at *
        clear k4 k5 kf k6 H2 HK2 hT'
        replace H3 := H3'.out
        obtain ⟨k4, k5, kf⟩ := H3.cells
        rw [show (((n + 1 : Nat)) : Int) = (n : Int) + 1 from by omega] at k4
        have hrd := H3.reads (n + 1) (by omega)
        rw [set_take bs n x (by omega), hbs.out] at hrd
        have hcv : ∀ w', w'.heap = w3.heap → (convert 35 9 (.slice (some ⟨g, 0, none⟩) (n + 1) 4)).run Tryd.prog w' = .ok (.string ⟨(l ++ [x]).toArray⟩) w' := fun w' e => by
          have hrd' : ReadsInt w' .u8 (some ⟨g, 0, none⟩) (n + 1) ((l ++ [x]).map fun x => (x.toNat : Int)) := by
            refine ⟨hrd.1, hrd.2.1, fun h => ?_⟩
            obtain ⟨ad, e1, e2⟩ := hrd.2.2 h
            refine ⟨ad, e1, fun j hj => ?_⟩
            rw [World.cell?_of_block (w := w3) (w' := w') (by rw [e])]
            exact e2 j hj
          rw [string_of_reads (e := 5) Tryd.underlying35 Tryd.underlying5 Tryd.underlying9 hrd', strOf_bytes]
        have hcv1 := hcv w3.drew rfl
        have hcv2 : (convert 35 9 (.slice (some ⟨g, 0, none⟩) ((n : Int) + 1).toNat 4)).run Tryd.prog w3.drew = .ok (.string ⟨(l ++ [x]).toArray⟩) w3.drew := by
          rw [show ((n : Int) + 1).toNat = n + 1 by omega]; exact hcv1
        clear hcv
        have hsl := slice_left w3.drew g n hn
        have hT4 : ∀ w', w'.heap = w3.heap → Lib.Utf8Tabs 0 1 w' := fun w' e => tabs_heap hT3.out e
        have hT5 := Aside0.mk (hT4 w3.drew rfl)
        clear hT4
        have hsz : (⟨(l ++ [x]).toArray⟩ : ByteArray).size ≤ 9223372036854775806 := by
          have := hln.out
          show (l ++ [x]).toArray.size ≤ _
          simp; omega
        replace hsz := Aside0.mk hsz
        replace hrd := Aside0.mk hrd
        clear hT3
        obtain ⟨p, q, r, hD⟩ : ∃ p q r, Pl.stL (l ++ [x]) = (p, q, r) := ⟨_, _, _, rfl⟩
        replace hD := Aside0.mk hD
        go_region_with (go_at_call 16; refine (decode_left _ _ hT5.out hsz.out (by simp) p q r hD.out).mono ?_; rintro e w4 ⟨rfl, B4⟩)
        have her : Pl.erL (l ++ [x]) = r := by unfold Pl.erL; rw [hD.out]
        have hrc := Pl.erL_cases (l ++ [x])
        rw [her] at hrc
        have hstp : stp (l, false) x = (if r = 31 then l ++ [x] else [], decide (r = 30)) := by unfold stp; rw [if_neg (by simp), her]
        have HLs := stp_lft (l, false) x HL
        have H4 := ChkL.below (w := w3.drew) H3 B4
        have HK4 : Kp w w4 (· = g) := (HK3.out.drew (w' := w3)).below B4
        have hgl := H4.lt
        have htk := set_take bs n x (by omega)
        rw [hbs.out] at htk
        have hlx : (l ++ [x]).length = n + 1 := by simp [hln.out]
        clear k4 k5 kf hsl hcv1 hcv2 H3 B4
        obtain ⟨k4, k5, kf⟩ := H4.cells
        rw [show (((n + 1 : Nat)) : Int) = (n : Int) + 1 from by omega] at k4
        rw [hstp] at HLs
        have hst := Aside0.mk (hst.out.trans hstp)
        replace HLs := Aside0.mk HLs
        replace htk := Aside0.mk htk
        replace hlx := Aside0.mk hlx
        replace her := Aside0.mk her
        clear hstp
        rcases hrc with rfl | rfl | rfl
        · have HF0 := (H4.setn 0).setb false
          have HKF := (HK4.set_ (p := ⟨g, 4, none⟩) (.inl rfl) (.int .i64 0)).set_ (p := ⟨g, 5, none⟩) (.inl rfl) (.bool false)
          replace HF0 := Aside0.mk HF0
          go_wp2
          go_roundw
          case rel => exact ⟨j + 1, ([], false), by go_num, by omega, ⟨.inl rfl, _, rfl, HF0.out⟩, ⟨hst.out⟩, HKF⟩
          case measure => simp [RowKit.intOf]; omega
        · have HF0 := (H4.setn 0).setb true
          have HKF := (HK4.set_ (p := ⟨g, 4, none⟩) (.inl rfl) (.int .i64 0)).set_ (p := ⟨g, 5, none⟩) (.inl rfl) (.bool true)
          replace HF0 := Aside0.mk HF0
          go_wp2
          go_roundw
          case rel => exact ⟨j + 1, ([], true), by go_num, by omega, ⟨.inl rfl, _, rfl, HF0.out⟩, ⟨hst.out⟩, HKF⟩
          case measure => simp [RowKit.intOf]; omega
        · have HF0 := H4.setb false
          have HKF := HK4.set_ (p := ⟨g, 5, none⟩) (.inl rfl) (.bool false)
          replace HF0 := Aside0.mk HF0
          go_wp2
          go_roundw
          case rel => exact ⟨j + 1, (l ++ [x], false), by go_num, by omega, ⟨HLs.out, bs.set n x, by rw [hlx.out]; exact htk.out, by rw [hlx.out]; exact HF0.out⟩, ⟨hst.out⟩, HKF⟩
          case measure => simp [RowKit.intOf]; omega
    · have hd : decide ((j : Int) < (m : Int)) = false := decide_eq_false (by omega)
      have hall : xs.take j = xs := List.take_of_length_le (by have := HX.out; omega)
      have hfin : fed s xs = (l, z) := by rw [← hall]; exact HF.out
      replace hall := Aside0.mk hall
      replace hln := Aside0.mk hln
      replace hbs := Aside0.mk hbs
      have hout : ChkIs wr g (l, z) := ⟨HL, bs, by rw [hln.out]; exact hbs.out, by rw [hln.out]; exact H⟩
      replace hfin := Aside0.mk hfin
      cases z with
      | true =>
        go_wp2
        go_ret
        exact ⟨by rw [hfin.out]; rfl, by rw [hfin.out]; exact hout, HK⟩
      | false =>
        go_wp2
        go_ret
        exact ⟨by rw [hfin.out]; rfl, by rw [hfin.out]; exact hout, HK⟩
end Go.Proofs.YtimfabbielphbaaDoor
