/- num.Check at numbers that are well. -/
import Derived.Test.YtcpgcjmamjjokaaGreatDoorAc
import Derived.Test.YtcpgcjmamjjokaaGreatDoorSh
import Derived.Shelf.Strings.SlTrimAscii
namespace Go.Proofs.YtcpgcjmamjjokaaGreatDoor
open Go.RowKit Go.Proofs.YtcpgcjmamjjokaaGreatDoorW.PrintWords Go.Proofs.YtcpgcjmamjjokaaGreatDoorW.PrintMore
set_option linter.unusedVariables false
set_option linter.unusedSimpArgs false
/-- What is asked of Trim. -/
def TrimD : Prop := ∀ (l : List UInt8), isD l → l.length ≤ 1000 → ∀ w : World, Calls Tryz.prog 158 #[.string ⟨l.toArray⟩, .string ⟨#[48, 49, 50, 51, 52, 53, 54, 55, 56, 57]⟩] w fun e w' => e = .returned (.string ⟨#[]⟩) ∧ Below w.heap.size w w'
set_option maxRecDepth 100000 in
theorem digits_ok (hT : TrimD) (c : UInt8) (ys : List UInt8) (h : isD (c :: ys)) (hl : (c :: ys).length ≤ 1000) (w : World) : Calls Tryz.prog 119 #[.string ⟨(c :: ys).toArray⟩] w fun e w' => e = .returned (.bool true) ∧ Below w.heap.size w w' := by
  have hT' := fun w => hT (c :: ys) h hl w
  go_enter Tryz.func119, Tryz.ntmps119
  go_wp2_with fail
  refine (hT' _).mono ?_
  rintro e w1 ⟨rfl, B1⟩
  go_wp2_with fail
  go_ret
  exact ⟨rfl, B1⟩
set_option maxRecDepth 100000 in
theorem check_zero (w : World) : Calls Tryz.prog 90 #[.agg #[.bool false, .string ⟨#[48]⟩, .int .i64 0]] w fun e w' => e = .returned (.int .i64 0) ∧ Below w.heap.size w w' := by
  go_enter Tryz.func90, Tryz.ntmps90
  go_wp2_with fail
  go_ret
  exact ⟨rfl, below_alloc (Below.refl _ _) _⟩
set_option maxHeartbeats 1600000 in
set_option maxRecDepth 100000 in
theorem check_ok (hT : TrimD) (neg : Bool) (c : UInt8) (ys : List UInt8) (x : Int) (h : isD (c :: ys)) (hlen : ys.length + 1 ≤ 40) (hh : c ≠ 48) (ht : Lib.hasSuffix (c :: ys) [48] = false) (hx0 : -400 ≤ x) (hx1 : x ≤ 400) (w : World) :
    Calls Tryz.prog 90 #[.agg #[.bool neg, .string ⟨(c :: ys).toArray⟩, .int .i64 x]] w fun e w' => e = .returned (.int .i64 0) ∧ Below w.heap.size w w' := by
  have hD := fun w => digits_ok hT c ys h (by simp; omega) w
  have hS := fun w => Tryz.strings_HasSuffix ⟨(c :: ys).toArray⟩ ⟨#[48]⟩ w (by show (c :: ys).toArray.size ≤ _; simp; omega)
  have hs1 : (⟨(c :: ys).toArray⟩ : ByteArray).size = ys.length + 1 := by
    show (c :: ys).toArray.size = _
    simp
  replace hD := Lib.hid hD
  replace hS := Lib.hid hS
  replace ht := Lib.hid ht
  have hc48 : ((c.toNat : Int) == 48) = false := beq_eq_false_iff_ne.2 (fun h => hh (by apply UInt8.toNat_inj.1; show c.toNat = 48; omega))
  have hd40 : decide ((40 : Int) < (ys.length : Int) + 1) = false := decide_eq_false (by omega)
  have hd41 : decide (40 < ys.length + 1) = false := decide_eq_false (by omega)
  have hix : ∀ h : 0 < (⟨(c :: ys).toArray⟩ : ByteArray).size, (⟨(c :: ys).toArray⟩ : ByteArray)[0]'h = c := fun _ => rfl
  have hx2 : decide (x < -400) = false := decide_eq_false (by omega)
  have hx3 : decide (400 < x) = false := decide_eq_false (by omega)
  go_enter Tryz.func90, Tryz.ntmps90
  go_wp2_with fail
  generalize hw1 : World.alloc w _ = w1
  obtain ⟨b1, B1⟩ : w1.heap[w.heap.size]? = some (.cells #[.bool neg, .string ⟨(c :: ys).toArray⟩, .int .i64 x] 32 (0, 0)) ∧ Below w.heap.size w w1 := by
    subst hw1
    exact ⟨heap_alloc_new _ _, below_alloc (Below.refl _ _) _⟩
  clear hw1
  refine (hD.out _).mono ?_
  rintro e w2 ⟨rfl, B2⟩
  have b2 := blk_below b1 B2
  replace B2 := Lib.hid (below_then B1 B1.size B2)
  obtain ⟨c0, c1, c2, f0, f1, f2⟩ := blk3 b2
  clear b1 b2 B1
  go_wp2_with fail
  refine (hS.out _).mono ?_
  rintro e w3 ⟨rfl, rfl⟩
  rw [ht.out]
  go_wp2_with fail
  go_ret
  exact ⟨rfl, B2.out⟩
/-- A struct that is a number. -/
theorem check_num (hT : TrimD) (t : Int) (ht : t.natAbs < 1000000000000000) (w : World) : Calls Tryz.prog 90 #[numV t] w fun e w' => e = .returned (.int .i64 0) ∧ Below w.heap.size w w' := by
  unfold numV
  by_cases h0 : t = 0
  · subst h0
    rw [ND_zero, NE_zero]
    exact check_zero w
  · have h1 := ND_head h0
    have h2 := isD_ND t
    have h3 := ND_len t 15 ht (by decide)
    have h4 := NE_lt t 15 ht (by decide)
    generalize ND t = l at *
    cases l with
    | nil => exact absurd rfl h1.2.2
    | cons c ys =>
      refine check_ok hT _ c ys _ h2 (by simpa using (show (c :: ys).length ≤ 40 by omega)) (by simpa using h1.1) ?_ (by omega) (by omega) w
      unfold Lib.hasSuffix
      rw [Bool.eq_false_iff]
      intro hs
      rw [List.isSuffixOf_iff_suffix] at hs
      obtain ⟨m, hm⟩ := hs
      apply h1.2.1
      rw [← hm]; simp
theorem set225 : (Tryz.prog.info? 225).map (fun i => (i.zero, i.size)) = some (some (.agg (Array.replicate 256 (.bool false))), 256) := by kernel_rfl
theorem drop_all (p : UInt8 → Bool) (l : List UInt8) (h : ∀ b ∈ l, p b = true) : l.dropWhile p = [] := by
  induction l with
  | nil => rfl
  | cons c l ih => rw [List.dropWhile_cons_of_pos (h c (by simp))]; exact ih (fun b hb => h b (by simp [hb]))
theorem trimD : TrimD := by
  intro l hl hlen w
  have h := Any.strings_Trim_laid Tryz.lays160 set225 ⟨l.toArray⟩ ⟨#[48, 49, 50, 51, 52, 53, 54, 55, 56, 57]⟩ w (by show l.toArray.size ≤ _; simp; omega) (by decide) (ascii_of_all (by decide))
  have e : Lib.trimS (⟨l.toArray⟩ : ByteArray).data.toList (⟨#[48, 49, 50, 51, 52, 53, 54, 55, 56, 57]⟩ : ByteArray).data.toList = [] := by
    unfold Lib.trimS Lib.trimRightS Lib.trimLeftS
    have h1 : ∀ b ∈ l.reverse, (([48, 49, 50, 51, 52, 53, 54, 55, 56, 57] : List UInt8).contains b) = true := by
      intro b hb
      have h2 := hl b (List.mem_reverse.1 hb)
      have h3 : ∀ n : Fin 256, 48 ≤ n.1 → n.1 ≤ 57 → (([48, 49, 50, 51, 52, 53, 54, 55, 56, 57] : List UInt8).contains (UInt8.ofNat n.1)) = true := by decide +kernel
      have h4 := h3 ⟨b.toNat, b.toNat_lt⟩ h2.1 h2.2
      simpa using h4
    have h5 : l.reverse.dropWhile (fun b => ([48, 49, 50, 51, 52, 53, 54, 55, 56, 57] : List UInt8).contains b) = [] := by
      exact drop_all _ _ h1
    show List.dropWhile _ (List.dropWhile _ (l.toArray.toList).reverse).reverse = []
    rw [show l.toArray.toList = l by simp]
    rw [show (List.dropWhile _ l.reverse) = [] from h5]
    rfl
  refine h.mono ?_
  rintro e' w' ⟨rfl, hB⟩
  rw [e]
  exact ⟨rfl, hB⟩
end Go.Proofs.YtcpgcjmamjjokaaGreatDoor
