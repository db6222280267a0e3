/- The Checker as a whole: New, End; the law's state; awake. -/
import Derived.Test.YtimfabbielphbaaDoorWi
namespace Go.Proofs.YtimfabbielphbaaDoor
open Go.RowKit Go.Lib Go.Proofs.YtimfabbielphbaaDoorW.PrintWords Go.Proofs.YtimfabbielphbaaDoorW.PrintMore
set_option linter.unusedVariables false
set_option linter.unusedSimpArgs false

theorem new_is (w : World) : Calls Tryd.prog 18 #[] w fun e w' => e = .returned (.pointer (some ⟨w.heap.size, 0, none⟩)) ∧ ChkIs w' w.heap.size ([], false) ∧ Below w.heap.size w w' :=
  (new_any w).mono fun e w' ⟨h1, h2, h3⟩ => ⟨h1, ⟨.inl rfl, [0, 0, 0, 0], rfl, rfl, h2⟩, h3⟩
theorem end_is (w : World) (g : Nat) (s : List UInt8 × Bool) (h : ChkIs w g s) :
    Calls Tryd.prog 21 #[.pointer (some ⟨g, 0, none⟩)] w fun e w' => e = .returned (.int .i64 (endS s)) ∧ w' = w := by
  obtain ⟨h1, bs, h2, h4, h3⟩ := h
  match bs, h4 with
  | [b0, b1, b2, b3], _ =>
    refine (end_any w g b0.toNat b1.toNat b2.toNat b3.toNat s.1.length s.2 h3).mono fun e w' ⟨he, hw⟩ => ⟨he.trans ?_, hw⟩
    unfold endE endS
    by_cases hb : s.2 = true
    · rw [if_pos hb, if_pos hb]
    · rw [if_neg hb, if_neg hb]
      by_cases hz : s.1 = []
      · rw [if_pos (by rw [hz]; rfl), if_pos hz]
      · rw [if_neg (fun c => hz (List.length_eq_zero_iff.1 c)), if_neg hz]
theorem ChkIs.lt {w : World} {g : Nat} {s : List UInt8 × Bool} (h : ChkIs w g s) : g < w.heap.size := by
  obtain ⟨_, bs, _, h⟩ := h; exact h.lt
theorem ChkIs.kept {w w' : World} {g : Nat} {s : List UInt8 × Bool} {S : Nat → Prop} (h : ChkIs w g s) (hk : Kp w w' S) (hS : ¬ S g) : ChkIs w' g s := by
  obtain ⟨h1, bs, h2, h3⟩ := h; exact ⟨h1, bs, h2, h3.kept hk hS⟩
theorem ChkIs.below {w w' : World} {g : Nat} {s : List UInt8 × Bool} (h : ChkIs w g s) (hb : Below w.heap.size w w') : ChkIs w' g s := by
  obtain ⟨h1, bs, h2, h3⟩ := h; exact ⟨h1, bs, h2, h3.below hb⟩

/-- What is wrong with the beginning of a text. -/
def begE (e : Nat) : Nat := if e = 30 then 30 else 0
set_option maxHeartbeats 1000000 in
set_option maxRecDepth 1000000 in
theorem state_any (s : ByteArray) (w : World) (hs : s.size ≤ 1000000000) :
    Calls Tryd.prog 20 #[.string s] w fun e w' => e = .returned (.tuple #[.int .i64 (begE (Pl.cnt s.data.toList).2), .int .i64 (Pl.cnt s.data.toList).2]) ∧ Below w.heap.size w w' := by
  have hl : s.data.toList.length = s.size := Array.length_toList
  obtain ⟨E, hE⟩ : ∃ E, (Pl.cnt s.data.toList).2 = E := ⟨_, rfl⟩
  rw [hE]
  replace hE := Aside0.mk hE
  go_enter Tryd.func20, Tryd.ntmps20
  go_wp2_with fail
  go_loopw [4] (fun a w' => ∃ (p : Nat), Below w.heap.size w w' ∧ a = .int .i64 p ∧ p ≤ s.size ∧ Aside0 ((Pl.cnt (s.data.toList.drop p)).2 = E)) (fun a _ => s.size - (RowKit.intOf a).toNat)
  case atStart => exact ⟨0, Below.refl _ _, rfl, by omega, ⟨hE.out⟩⟩
  case round =>
    obtain ⟨p, HB, rfl, hps, HC⟩ := hrel
    by_cases hp : p < s.size
    · have hd : decide ((p : Int) < (s.size : Int)) = true := decide_eq_true (by omega)
      have hne : s.data.toList.drop p ≠ [] := by intro h; have := congrArg List.length h; simp at this; omega
      have hdc : dcL s.data.toList p = Pl.stL (s.data.toList.drop p) := cnt_at _ _ (by omega)
      obtain ⟨c, n, r, hD⟩ : ∃ c n r, Pl.stL (s.data.toList.drop p) = (c, n, r) := ⟨_, _, _, rfl⟩
      have her : Pl.erL (s.data.toList.drop p) = r := by unfold Pl.erL; rw [hD]
      have hwd : Pl.wdL (s.data.toList.drop p) = n := by unfold Pl.wdL; rw [hD]
      have hrc := Pl.erL_cases (s.data.toList.drop p)
      rw [her] at hrc
      rw [hD] at hdc
      replace hdc := Aside0.mk hdc
      replace hD := Aside0.mk hD
      rcases hrc with rfl | rfl | rfl
      · have hw := Pl.wdL_pos _ hne her
        have hg2 := Pl.cnt_good2 _ hne her
        rw [hwd, List.length_drop, hl] at hw
        rw [hwd, List.drop_drop, HC.out] at hg2
        have HC' := Aside0.mk hg2.symm
        have hx1 : IntKind.i64.wrap ((p : Int) + (n : Int)) = ((p + n : Nat) : Int) := by rw [← Int.natCast_add]; exact IntWalk.i64_in _ (by omega)
        replace hx1 := Aside0.mk hx1
        clear her hwd hg2
        go_wp2_with fail
        refine (refDecode _ _ _).mono ?_
        rw [hdc.out]
        rintro e w1 ⟨rfl, B1⟩
        replace HB := below_then HB HB.size B1
        replace hx1 := hx1.out
        unfold trip
        go_wp2
        go_roundw
        case rel => exact ⟨p + n, HB, by go_num, by omega, HC'⟩
        case measure => simp [RowKit.intOf]; omega
      · have hb := Pl.cnt_bad _ hne (by omega)
        have hE30 : E = 30 := by rw [← HC.out, hb]; exact her
        replace hE30 := Aside0.mk hE30
        clear her hwd hb
        go_wp2_with fail
        refine (refDecode _ _ _).mono ?_
        rw [hdc.out]
        rintro e w1 ⟨rfl, B1⟩
        replace HB := below_then HB HB.size B1
        unfold trip
        go_wp2
        go_ret2
        exact ⟨by rw [hE30.out]; rfl, HB⟩
      · have hb := Pl.cnt_bad _ hne (by omega)
        have hE31 : E = 31 := by rw [← HC.out, hb]; exact her
        replace hE31 := Aside0.mk hE31
        clear her hwd hb
        go_wp2_with fail
        refine (refDecode _ _ _).mono ?_
        rw [hdc.out]
        rintro e w1 ⟨rfl, B1⟩
        replace HB := below_then HB HB.size B1
        unfold trip
        go_wp2
        go_ret2
        exact ⟨by rw [hE31.out]; rfl, HB⟩
    · have hd : decide ((p : Int) < (s.size : Int)) = false := decide_eq_false (by omega)
      have hE0 : E = 0 := by rw [← HC.out, List.drop_of_length_le (by omega)]; rfl
      replace hE0 := Aside0.mk hE0
      go_wp2
      go_ret2
      exact ⟨by rw [hE0.out]; rfl, HB⟩

/-! ### awake -/
theorem aw_enc : Pl.isCh 8364 = true ∧ Utf8.encode 8364 = ⟨#[226, 130, 172]⟩ := by decide +kernel
theorem aw_d1 : dcL [97, 226, 130, 172] 1 = (8364, 3, 0) := by decide +kernel
theorem aw_d2 : dcL [226, 130] 0 = (0, 0, 31) := by decide +kernel
theorem aw_c : Pl.cnt [195, 169, 97] = (2, 0) := by decide +kernel
theorem aw_v : decide ((Pl.cnt [237, 160, 128]).2 = 0) = false := by decide +kernel
theorem aw_f1 : fed ([], false) [226] = ([226], false) := by decide +kernel
theorem aw_f2 : fed ([226], false) [130, 172] = ([], false) := by decide +kernel
theorem aw_f3 : fed ([], false) [255] = ([], true) := by decide +kernel

theorem buf1 (w : World) (x : Nat) (hx : x < 256) : ReadsInt (w.alloc (.cells #[.int .u8 x] 5)) .u8 (some ⟨w.heap.size, 0, none⟩) 1 ([UInt8.ofNat x].map fun y => (y.toNat : Int)) := by
  refine ⟨rfl, by omega, fun _ => ⟨_, rfl, fun j hj => ?_⟩⟩
  obtain rfl : j = 0 := by omega
  refine (blk_cell (heap_alloc_new w _) 0).trans ?_
  simp; omega
theorem buf2 (w : World) (x y : Nat) (hx : x < 256) (hy : y < 256) : ReadsInt (w.alloc (.cells #[.int .u8 x, .int .u8 y] 5)) .u8 (some ⟨w.heap.size, 0, none⟩) 2 ([UInt8.ofNat x, UInt8.ofNat y].map fun z => (z.toNat : Int)) := by
  refine ⟨rfl, by omega, fun _ => ⟨_, rfl, fun j hj => ?_⟩⟩
  rcases (show j = 0 ∨ j = 1 by omega) with rfl | rfl
  · refine (blk_cell (heap_alloc_new w _) 0).trans ?_
    simp; omega
  · refine (blk_cell (heap_alloc_new w _) 1).trans ?_
    simp; omega

theorem encode_is (r : Int) (w : World) (hr : -9223372036854775808 ≤ r ∧ r ≤ 9223372036854775807) :
    Calls Tryd.prog 14 #[.int .i64 r] w fun e w' => e = .returned (if Pl.isCh r then .tuple #[.string (Utf8.encode r), .int .i64 0] else .tuple #[.string ⟨#[]⟩, .int .i64 1]) ∧ w = w' := (encode_any r w hr).mono fun _ _ h => ⟨h.1, h.2.symm⟩
theorem end_is' (w : World) (g : Nat) (s : List UInt8 × Bool) (h : ChkIs w g s) :
    Calls Tryd.prog 21 #[.pointer (some ⟨g, 0, none⟩)] w fun e w' => e = .returned (.int .i64 (endS s)) ∧ w = w' := (end_is w g s h).mono fun _ _ h => ⟨h.1, h.2.symm⟩
theorem far (g h j : Nat) (hn : g ≠ h) (ad : Addr) (e : some (⟨g, 0, none⟩ : Addr) = some ad) : (ad.add j).block ≠ h := by
  injection e with e; subst e; rcases j with _ | j <;> simpa [Addr.add] using hn
set_option maxHeartbeats 4000000 in
set_option maxRecDepth 1000000 in
theorem awake_any (w : World) (hT : Lib.Utf8Tabs 0 1 w) (hg : 2 ≤ w.heap.size) :
    Calls Tryd.prog 12 #[] w fun e w' => e = .returned (.bool true) ∧ Below w.heap.size w w' := by
  replace hT := Aside0.mk hT
  go_enter Tryd.func12, Tryd.ntmps12
  go_wp2_with fail
  refine (encode_is _ _ (by omega)).mono ?_
  rw [aw_enc.1, aw_enc.2]
  rintro e w1 ⟨rfl, rfl⟩
  go_wp2_with fail
  refine (decode_any _ _ _ hT.out (by decide)).mono ?_
  rw [aw_d1]
  rintro e w1 ⟨rfl, B1⟩
  unfold trip
  have hT1 := Aside0.mk (Utf8Tabs_below hT.out B1)
  go_wp2_with fail
  refine (decode_any _ _ _ hT1.out (by decide)).mono ?_
  rw [aw_d2]
  rintro e w2 ⟨rfl, B2⟩
  unfold trip
  have hT2 := Aside0.mk (Utf8Tabs_below hT1.out B2)
  replace B2 := below_then B1 B1.size B2
  clear B1 hT1
  go_wp2_with fail
  refine (count_any _ _ hT2.out (by decide)).mono ?_
  rw [aw_c]
  rintro e w3 ⟨rfl, B3⟩
  have hT3 := Aside0.mk (Utf8Tabs_below hT2.out B3)
  replace B3 := below_then B2 B2.size B3
  clear B2 hT2
  go_wp2_with fail
  refine (new_is _).mono ?_
  rintro e w4 ⟨rfl, C4, B4⟩
  have hT4 := Aside0.mk (Utf8Tabs_below hT3.out B4)
  obtain ⟨g, hgg⟩ : ∃ g, w3.heap.size = g := ⟨_, rfl⟩
  have hg3 : w.heap.size ≤ g := by rw [← hgg]; exact B3.size
  have hg2 : 2 ≤ g := Nat.le_trans hg hg3
  rw [hgg] at C4
  have K4 : Kp w w4 (· = g) := Kp.of_below (below_then B3 B3.size B4) _
  clear B3 hT3 B4
  rw [hgg]
  clear hgg
  -- a beginning
  go_wp2_with fail
  have Bb := below_alloc (Below.refl w4.heap.size w4) (.cells #[.int .u8 226] 5)
  have hl4 := C4.lt
  have hTb := Aside0.mk (Utf8Tabs_below hT4.out Bb)
  refine (feed_any _ g _ (C4.below Bb) _ 1 1 _ hTb.out hg2 (buf1 w4 226 (by omega)) (fun ad had j hj => far _ g j (by omega) ad had) (by omega) (by omega)).mono ?_
  rw [show fed ([], false) [UInt8.ofNat 226] = ([226], false) from aw_f1]
  rintro e w5 ⟨rfl, C5, K5⟩
  have KK5 := (K4.below Bb).trans K5 (fun i hi => .inl hi)
  have hT5 := Aside0.mk (tabs_kp hTb.out K5 hg2)
  clear Bb hTb hT4 C4 K4 K5 hl4
  go_wp2_with fail
  refine (end_is' _ g _ C5).mono ?_
  rintro e w6 ⟨rfl, rfl⟩
  go_wp2_with fail
  have Bb := below_alloc (Below.refl w5.heap.size w5) (.cells #[.int .u8 130, .int .u8 172] 5)
  have hl4 := C5.lt
  have hTb := Aside0.mk (Utf8Tabs_below hT5.out Bb)
  refine (feed_any _ g _ (C5.below Bb) _ 2 2 _ hTb.out hg2 (buf2 w5 130 172 (by omega) (by omega)) (fun ad had j hj => far _ g j (by omega) ad had) (by omega) (by omega)).mono ?_
  rw [show fed ([226], false) [UInt8.ofNat 130, UInt8.ofNat 172] = ([], false) from aw_f2]
  rintro e w7 ⟨rfl, C7, K7⟩
  have KK7 := (KK5.below Bb).trans K7 (fun i hi => .inl hi)
  have hT7 := Aside0.mk (tabs_kp hTb.out K7 hg2)
  clear Bb hTb hT5 C5 KK5 K7 hl4
  go_wp2_with fail
  refine (end_is' _ g _ C7).mono ?_
  rintro e w8 ⟨rfl, rfl⟩
  go_wp2_with fail
  have Bb := below_alloc (Below.refl w7.heap.size w7) (.cells #[.int .u8 255] 5)
  have hl4 := C7.lt
  have hTb := Aside0.mk (Utf8Tabs_below hT7.out Bb)
  refine (feed_any _ g _ (C7.below Bb) _ 1 1 _ hTb.out hg2 (buf1 w7 255 (by omega)) (fun ad had j hj => far _ g j (by omega) ad had) (by omega) (by omega)).mono ?_
  rw [show fed ([], false) [UInt8.ofNat 255] = ([], true) from aw_f3]
  rintro e w9 ⟨rfl, C9, K9⟩
  have KK9 := (KK7.below Bb).trans K9 (fun i hi => .inl hi)
  have hT9 := Aside0.mk (tabs_kp hTb.out K9 hg2)
  clear Bb hTb hT7 C7 KK7 K9 hl4 C9
  go_wp2_with fail
  refine (valid_any _ _ hT9.out (by decide)).mono ?_
  rw [aw_v]
  rintro e w10 ⟨rfl, B10⟩
  have BF := (KK9.toBelow (Below.refl w.heap.size w) (Nat.le_refl _) (fun k hk => by omega))
  replace BF := below_then BF BF.size B10
  clear KK9 B10
  go_wp2
  go_ret
  exact ⟨rfl, BF⟩
end Go.Proofs.YtimfabbielphbaaDoor
