/- The law UtfRound, walked. -/
import Derived.Test.YtimfabbielphbaaDoorWl
namespace Go.Proofs.YtimfabbielphbaaDoor
open Go.RowKit Go.Lib Go.Proofs.YtimfabbielphbaaDoorW.PrintWords Go.Proofs.YtimfabbielphbaaDoorW.PrintMore
set_option linter.unusedVariables false
set_option linter.unusedSimpArgs false

theorem ba_ext {a b : ByteArray} (h : a.data.toList = b.data.toList) : a = b := ByteArray.ext (Array.ext' h)
theorem ba_size (a : ByteArray) : a.data.toList.length = a.size := Array.length_toList
theorem encV_ch (n : Nat) (h : Pl.isCh (n : Int) = true) : encV (n : Int) = (Utf8.encode (n : Int), 0) := by unfold encV; rw [if_pos h]
theorem dcL_zero (l : List UInt8) (x : Nat × Nat × Nat) (hne : l ≠ []) (h : Pl.stL l = x) : dcL l 0 = x := by
  have hl : 0 < l.length := List.length_pos_iff.2 hne
  unfold dcL
  rw [if_neg (by omega), Int.toNat_zero, List.drop_zero]
  exact h
theorem encL_E (n : Nat) (E : ByteArray) (hE : Utf8.encode (n : Int) = E) (h : Pl.isCh (n : Int) = true) : encL n = E.data.toList := by rw [encL_nat n h, ← hE, encode_nat n h]
theorem enc_dec (n : Nat) (E : ByteArray) (hE : Utf8.encode (n : Int) = E) (h : Pl.isCh (n : Int) = true) : dcL E.data.toList 0 = (n, E.size, 0) := by
  obtain ⟨h1, h2⟩ := enc_st n h
  rw [encL_E n E hE h] at h1 h2
  rw [← ba_size]
  exact dcL_zero _ _ h2 h1
theorem enc_small (n : Nat) (E : ByteArray) (hE : Utf8.encode (n : Int) = E) (h : Pl.isCh (n : Int) = true) : E.size ≤ 4 := by
  have h1 := nats_len (encL n)
  rw [nats_encL n h] at h1
  rw [encL_E n E hE h, ba_size] at h1
  rw [← h1]
  unfold encB
  repeat' split
  all_goals simp
theorem enc_one (n : Nat) (E : ByteArray) (hE : Utf8.encode (n : Int) = E) (h : Pl.isCh (n : Int) = true) : Pl.cnt E.data.toList = (1, 0) := by
  have h1 := enc_cnt n h
  rw [encL_E n E hE h] at h1
  exact h1

/-- What stands at a place of a text. -/
theorem step_fact (s : ByteArray) (p : Nat) (hp : p < s.size) (h0 : (Pl.cnt (s.data.toList.drop p)).2 = 0) :
    ∃ c n, dcL s.data.toList p = (c, n, 0) ∧ Pl.isCh (c : Int) = true ∧ (Utf8.encode (c : Int)).data.toList = (s.data.toList.drop p).take n ∧ 1 ≤ n ∧ p + n ≤ s.size ∧ (Pl.cnt (s.data.toList.drop (p + n))).2 = 0 := by
  have hl := ba_size s
  have hne : s.data.toList.drop p ≠ [] := by intro h; have := congrArg List.length h; simp at this; omega
  have he : Pl.erL (s.data.toList.drop p) = 0 := by
    apply Decidable.byContradiction
    intro hx; rw [Pl.cnt_bad _ hne hx] at h0; exact hx h0
  obtain ⟨c, n, r, hD⟩ : ∃ c n r, Pl.stL (s.data.toList.drop p) = (c, n, r) := ⟨_, _, _, rfl⟩
  have hr : r = 0 := by unfold Pl.erL at he; rw [hD] at he; exact he
  subst hr
  have hw := Pl.wdL_pos _ hne he
  have hwn : Pl.wdL (s.data.toList.drop p) = n := by unfold Pl.wdL; rw [hD]
  have hg := Pl.cnt_good2 _ hne he
  rw [hwn, List.length_drop, hl] at hw
  rw [hwn, List.drop_drop, h0] at hg
  obtain ⟨k1, k2⟩ := st_enc _ hne c n hD
  rw [encL_E c _ rfl k1] at k2
  exact ⟨c, n, by rw [cnt_at _ _ (by omega)]; exact hD, k1, k2, hw.1, by omega, hg.symm⟩

set_option maxHeartbeats 4000000 in
set_option maxRecDepth 1000000 in
theorem round_walk (w : World) (hT : Lib.Utf8Tabs 0 1 w) (r : Int) (hr : (Lit.int .i64 r).wf = true) (s : ByteArray) (hs : s.size ≤ 140737488351232) :
    Calls Tryd.prog 7 #[.int .i64 r, .string s] w fun e w' => e = .returned (.bool true) ∧ Below w.heap.size w w' := by
  replace hT := Aside0.mk hT
  have hrb := wf_bounds hr
  clear hr
  by_cases hlong : (s.size : Int) > 16384
  · go_enter Tryd.func7, Tryd.ntmps7
    go_wp2
    go_ret
    exact ⟨rfl, Below.refl _ _⟩
  have hls := ba_size s
  obtain ⟨k, x, hc⟩ : ∃ k x, Pl.cnt s.data.toList = (k, x) := ⟨_, _, rfl⟩
  replace hc := Aside0.mk hc
  obtain ⟨b, hb⟩ : ∃ b, decide (x = 0) = b := ⟨_, rfl⟩
  replace hb := Aside0.mk hb
  by_cases hch : Pl.isCh r = true
  · obtain ⟨n, rfl⟩ : ∃ n : Nat, r = n := by
      rw [isCh_iff] at hch; exact ⟨r.toNat, by omega⟩
    have hE := encV_ch n hch
    obtain ⟨E, hEE⟩ : ∃ E, Utf8.encode (n : Int) = E := ⟨_, rfl⟩
    rw [hEE] at hE
    have hD := enc_dec n E hEE hch
    have hV := enc_one n E hEE hch
    have hz := enc_small n E hEE hch
    clear hEE
    replace hE := Aside0.mk hE
    replace hD := Aside0.mk hD
    replace hV := Aside0.mk hV
    cases b
    all_goals
      go_enter Tryd.func7, Tryd.ntmps7
      go_wp2_with fail
      refine (enc_is _ _ hrb E 0 hE.out).mono ?_
      rintro e w1 ⟨rfl, rfl⟩
      go_wp2_with fail
      refine (dec_is _ _ _ hT.out (by omega) _ _ _ hD.out).mono ?_
      rintro e w1 ⟨rfl, B1⟩
      have hT1 := Aside0.mk (Utf8Tabs_below hT.out B1)
      go_wp2_with fail
      refine (valid_is E _ hT1.out (by omega) 1 0 true hV.out rfl).mono ?_
      rintro e w2 ⟨rfl, B2⟩
      have hT2 := Aside0.mk (Utf8Tabs_below hT1.out B2)
      replace B2 := below_then B1 B1.size B2
      clear B1 hT1
      go_wp2_with fail
      refine (valid_is s _ hT2.out (by omega) k x _ hc.out hb.out).mono ?_
      rintro e w3 ⟨rfl, B3⟩
      have hT3 := Aside0.mk (Utf8Tabs_below hT2.out B3)
      replace B3 := below_then B2 B2.size B3
      clear B2 hT2
      go_wp2_with fail
    · refine (aw _ hT3.out).mono ?_
      rintro e w4 ⟨rfl, B4⟩
      replace B4 := below_then B3 B3.size B4
      go_wp2
      go_ret
      exact ⟨rfl, B4⟩
    · have hx0 : x = 0 := by simpa using hb.out
      go_loopw [10, 11] (fun g a w' => ∃ (p : Nat) (u : ByteArray), Below w.heap.size w w' ∧ g = .string u ∧ a = .int .i64 p ∧ p ≤ s.size ∧ u.size = p ∧ Aside0 (u.data.toList = s.data.toList.take p) ∧ Aside0 ((Pl.cnt (s.data.toList.drop p)).2 = 0) ∧ Aside0 (Lib.Utf8Tabs 0 1 w')) (fun _ a _ => s.size - (RowKit.intOf a).toNat)
      case atStart => exact ⟨0, ⟨#[]⟩, B3, rfl, rfl, by omega, rfl, ⟨by simp⟩, ⟨by rw [List.drop_zero, hc.out]; exact hx0⟩, hT3⟩
      case round =>
        obtain ⟨p, u, HB, rfl, rfl, hps, hu, HU, HC, HT⟩ := hrel
        by_cases hp : p < s.size
        · have hd : decide ((p : Int) < (s.size : Int)) = true := decide_eq_true (by omega)
          obtain ⟨c, n, hD, hch, hE, hn1, hn2, hC2⟩ := step_fact s p hp HC.out
          obtain ⟨F, hF⟩ : ∃ F, Utf8.encode (c : Int) = F := ⟨_, rfl⟩
          rw [hF] at hE
          have hFV := encV_ch c hch
          rw [hF] at hFV
          have hFs : F.size = n := by rw [← ba_size, hE, List.length_take, List.length_drop, ba_size]; omega
          have hcb : (c : Int) ≤ 1114111 := by rw [isCh_iff] at hch; omega
          have hx1 : IntKind.i64.wrap ((p : Int) + (n : Int)) = ((p + n : Nat) : Int) := by rw [← Int.natCast_add]; exact IntWalk.i64_in _ (by omega)
          have hn3 : decide ((n : Int) < 1) = false := decide_eq_false (by omega)
          have hus : (u ++ F).size = p + n := by rw [ByteArray.size_append, hu, hFs]
          have hul : (u ++ F).data.toList = s.data.toList.take (p + n) := by rw [app_list, HU.out, hE, ← List.take_add]
          replace hus := Aside0.mk hus
          replace hul := Aside0.mk hul
          replace hx1 := Aside0.mk hx1
          replace hD := Aside0.mk hD
          replace hFV := Aside0.mk hFV
          have hsz : u.size + F.size ≤ 16384 := by omega
          have hC2' := Aside0.mk hC2
          clear hE hF hch HC HU hC2 hFs hu
          go_wp2_with fail
          refine (dec_is _ _ _ HT.out (by omega) _ _ _ hD.out).mono ?_
          rintro e w4 ⟨rfl, B4⟩
          have HT4 := Aside0.mk (Utf8Tabs_below HT.out B4)
          replace HB := below_then HB HB.size B4
          clear B4
          go_wp2_with fail
          refine (enc_is _ _ (by omega) F 0 hFV.out).mono ?_
          rintro e w5 ⟨rfl, rfl⟩
          replace hx1 := hx1.out
          go_wp2
          go_roundw
          case rel => exact ⟨p + n, u ++ F, HB, rfl, by go_num, by omega, hus.out, hul, hC2', HT4⟩
          case measure => simp [RowKit.intOf]; omega
        · have hd : decide ((p : Int) < (s.size : Int)) = false := decide_eq_false (by omega)
          have hus : u = s := ba_ext (by rw [HU.out]; exact List.take_of_length_le (by omega))
          clear hu HU
          subst hus
          go_wp2_with fail
          refine (aw _ HT.out).mono ?_
          rintro e w4 ⟨rfl, B4⟩
          replace HB := below_then HB HB.size B4
          go_wp2
          go_ret
          exact ⟨rfl, HB⟩
  · have hE : encV r = (⟨#[]⟩, 1) := by unfold encV; rw [if_neg hch]
    replace hE := Aside0.mk hE
    clear hch
    cases b
    all_goals
      go_enter Tryd.func7, Tryd.ntmps7
      go_wp2_with fail
      refine (enc_is _ _ hrb _ 1 hE.out).mono ?_
      rintro e w1 ⟨rfl, rfl⟩
      go_wp2_with fail
      refine (valid_is s _ hT.out (by omega) k x _ hc.out hb.out).mono ?_
      rintro e w3 ⟨rfl, B3⟩
      have hT3 := Aside0.mk (Utf8Tabs_below hT.out B3)
      go_wp2_with fail
    · refine (aw _ hT3.out).mono ?_
      rintro e w4 ⟨rfl, B4⟩
      replace B4 := below_then B3 B3.size B4
      go_wp2
      go_ret
      exact ⟨rfl, B4⟩
    · have hx0 : x = 0 := by simpa using hb.out
      go_loopw [10, 11] (fun g a w' => ∃ (p : Nat) (u : ByteArray), Below w.heap.size w w' ∧ g = .string u ∧ a = .int .i64 p ∧ p ≤ s.size ∧ u.size = p ∧ Aside0 (u.data.toList = s.data.toList.take p) ∧ Aside0 ((Pl.cnt (s.data.toList.drop p)).2 = 0) ∧ Aside0 (Lib.Utf8Tabs 0 1 w')) (fun _ a _ => s.size - (RowKit.intOf a).toNat)
      case atStart => exact ⟨0, ⟨#[]⟩, B3, rfl, rfl, by omega, rfl, ⟨by simp⟩, ⟨by rw [List.drop_zero, hc.out]; exact hx0⟩, hT3⟩
      case round =>
        obtain ⟨p, u, HB, rfl, rfl, hps, hu, HU, HC, HT⟩ := hrel
        by_cases hp : p < s.size
        · have hd : decide ((p : Int) < (s.size : Int)) = true := decide_eq_true (by omega)
          obtain ⟨c, n, hD, hch, hE, hn1, hn2, hC2⟩ := step_fact s p hp HC.out
          obtain ⟨F, hF⟩ : ∃ F, Utf8.encode (c : Int) = F := ⟨_, rfl⟩
          rw [hF] at hE
          have hFV := encV_ch c hch
          rw [hF] at hFV
          have hFs : F.size = n := by rw [← ba_size, hE, List.length_take, List.length_drop, ba_size]; omega
          have hcb : (c : Int) ≤ 1114111 := by rw [isCh_iff] at hch; omega
          have hx1 : IntKind.i64.wrap ((p : Int) + (n : Int)) = ((p + n : Nat) : Int) := by rw [← Int.natCast_add]; exact IntWalk.i64_in _ (by omega)
          have hn3 : decide ((n : Int) < 1) = false := decide_eq_false (by omega)
          have hus : (u ++ F).size = p + n := by rw [ByteArray.size_append, hu, hFs]
          have hul : (u ++ F).data.toList = s.data.toList.take (p + n) := by rw [app_list, HU.out, hE, ← List.take_add]
          replace hus := Aside0.mk hus
          replace hul := Aside0.mk hul
          replace hx1 := Aside0.mk hx1
          replace hD := Aside0.mk hD
          replace hFV := Aside0.mk hFV
          have hsz : u.size + F.size ≤ 16384 := by omega
          have hC2' := Aside0.mk hC2
          clear hE hF hch HC HU hC2 hFs hu
          go_wp2_with fail
          refine (dec_is _ _ _ HT.out (by omega) _ _ _ hD.out).mono ?_
          rintro e w4 ⟨rfl, B4⟩
          have HT4 := Aside0.mk (Utf8Tabs_below HT.out B4)
          replace HB := below_then HB HB.size B4
          clear B4
          go_wp2_with fail
          refine (enc_is _ _ (by omega) F 0 hFV.out).mono ?_
          rintro e w5 ⟨rfl, rfl⟩
          replace hx1 := hx1.out
          go_wp2
          go_roundw
          case rel => exact ⟨p + n, u ++ F, HB, rfl, by go_num, by omega, hus.out, hul, hC2', HT4⟩
          case measure => simp [RowKit.intOf]; omega
        · have hd : decide ((p : Int) < (s.size : Int)) = false := decide_eq_false (by omega)
          have hus : u = s := ba_ext (by rw [HU.out]; exact List.take_of_length_le (by omega))
          clear hu HU
          subst hus
          go_wp2_with fail
          refine (aw _ HT.out).mono ?_
          rintro e w4 ⟨rfl, B4⟩
          replace HB := below_then HB HB.size B4
          go_wp2
          go_ret
          exact ⟨rfl, HB⟩
end Go.Proofs.YtimfabbielphbaaDoor
