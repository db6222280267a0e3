/- ChunkAll, walked. -/
import Derived.Test.YticcfpbeejakhaaMi
namespace Go.Proofs.Yticcfpbeejakhaa
open Go.RowKit Go.Proofs.YticcfpbeejakhaaW.PrintWords Go.Proofs.YticcfpbeejakhaaW.PrintMore
attribute [local go_sem] max2_int min2_int max_two min_two
set_option linter.unusedVariables false
set_option linter.unusedSimpArgs false

set_option maxHeartbeats 400000 in
set_option maxRecDepth 100000 in
theorem cut_any (w : World) (A : Option Addr) (n c : Nat) (cu : List Int) (HR : ReadsInt w .i64 A n cu) (i a N : Nat) (h1 : a ≤ N) (h2 : N ≤ 100000) :
    Calls Try.prog 11 #[.slice A n c, .int .i64 i, .int .i64 a, .int .i64 N] w fun e w' => ∃ en : Nat, e = .returned (.int .i64 en) ∧ a ≤ en ∧ en ≤ N ∧ (n ≤ i → en = N) ∧ w = w' := by
  by_cases hi : n ≤ i
  · have hd : decide ((n : Int) ≤ (i : Int)) = true := decide_eq_true (by omega)
    clear HR
    go_enter Try.func11, Try.ntmps11
    go_wp2
    go_ret
    first
      | exact ⟨N, rfl, h1, Nat.le_refl _, fun _ => rfl, rfl⟩
      | exact ⟨N, rfl, h1, Nat.le_refl _, rfl⟩
  · have hd : decide ((n : Int) ≤ (i : Int)) = false := decide_eq_false (by omega)
    obtain ⟨ad, rfl, hc⟩ := HR.at_ (i : Int) (by omega) (by omega)
    rw [Int.toNat_natCast] at hc
    clear HR
    have b1 : (i : Int) < (n : Int) := by omega
    generalize rd cu i = x at hc
    by_cases hx : x < 0
    · have hd1 : decide (x < 0) = true := decide_eq_true hx
      go_enter Try.func11, Try.ntmps11
      go_wp2
      go_ret
      first
      | exact ⟨N, rfl, h1, Nat.le_refl _, fun _ => rfl, rfl⟩
      | exact ⟨N, rfl, h1, Nat.le_refl _, rfl⟩
    · have hd1 : decide (x < 0) = false := decide_eq_false hx
      by_cases hx2 : (N : Int) - a < x
      · have hd2 : decide ((N : Int) - a < x) = true := decide_eq_true hx2
        go_enter Try.func11, Try.ntmps11
        go_wp2
        go_ret
        first
      | exact ⟨N, rfl, h1, Nat.le_refl _, fun _ => rfl, rfl⟩
      | exact ⟨N, rfl, h1, Nat.le_refl _, rfl⟩
      · have hd2 : decide ((N : Int) - a < x) = false := decide_eq_false hx2
        obtain ⟨q, rfl⟩ := Int.eq_ofNat_of_zero_le (show 0 ≤ x by omega)
        go_enter Try.func11, Try.ntmps11
        go_wp2
        go_ret
        first
        | exact ⟨a + q, by go_num, by omega, by omega, fun h => absurd h hi, rfl⟩
        | exact ⟨a + q, by go_num, by omega, by omega, rfl⟩

theorem part_more (l : List Int) (a en G d : Nat) (h1 : G + d ≤ a) (h2 : a ≤ en) (h3 : en ≤ l.length) :
    ((l.take a).drop G).drop d ++ (l.take en).drop a = (l.take en).drop (G + d) := by
  rw [List.drop_drop]
  have e : l.take en = l.take a ++ (l.take en).drop a := by
    have := List.take_append_drop a (l.take en)
    rw [List.take_take, Nat.min_eq_left h2] at this
    exact this.symm
  conv => rhs; rw [e]
  rw [List.drop_append_of_le_length (by rw [List.length_take]; omega)]

theorem got_more (l : List Int) (a G p t : Nat) (h : G + p + t ≤ a) (h2 : a ≤ l.length) :
    l.take (G + p) ++ (((l.take a).drop G).drop p).take t = l.take (G + p + t) := by
  rw [List.drop_drop, List.drop_take, List.take_take, Nat.min_eq_left (by omega)]
  exact List.take_add.symm

theorem tail_same (xs : List Int) (p t b : Nat) (hb : b ≤ t) : ((xs.drop p).take t).drop (t - b) = (xs.drop (p + t - b)).take b := by
  rw [List.drop_take, List.drop_drop]
  congr 1
  · omega
  · congr 1; omega

/-- What holds at a round's head: k parts are fed, a bytes in all; what was taken is owned by vg. -/
def AllRel (w wr : World) (l : List Int) (nc k a : Nat) (vg : Value) : Prop :=
  ∃ (v : Value) (p G : Nat), SrcIs wr w.heap.size w.heap.size v ((l.take a).drop G) p p G l.length ∧ k ≤ nc + 1 ∧ a ≤ l.length ∧ G + p ≤ a ∧
    wr.ownsRow w.heap.size 5 1 vg (l.take (G + p)).length (nums .u8 (l.take (G + p))) ∧
    (∀ q, vg.ownBlock = some q → q ≠ w.heap.size ∧ v.ownBlock ≠ some q) ∧ Below w.heap.size w wr ∧ (k = nc + 1 → a = l.length)

theorem AllRel.lt {w wr : World} {l : List Int} {nc k a : Nat} {vg : Value} (h : AllRel w wr l nc k a vg) : w.heap.size < wr.heap.size := by
  obtain ⟨v, p, G, HS, _⟩ := h
  exact HS.lt
theorem AllRel.hb {w wr : World} {l : List Int} {nc k a : Nat} {vg : Value} (h : AllRel w wr l nc k a vg) : Below w.heap.size w wr := by
  obtain ⟨v, p, G, HS, h1, h2, h3, h4, h5, h6, h7⟩ := h
  exact h6
theorem AllRel.kept {w wr w2 : World} {l : List Int} {nc k a : Nat} {vg : Value} (h : AllRel w wr l nc k a vg) (hb : Below wr.heap.size wr w2) : AllRel w w2 l nc k a vg := by
  obtain ⟨v, p, G, HS, h1, h2, h3, h4, h5, h6, h7⟩ := h
  exact ⟨v, p, G, HS.below hb, h1, h2, h3, pw_own_below h4 hb, h5, below_then h6 h6.size hb, h7⟩

theorem AllRel.fed {w wr w3 : World} {l : List Int} {nc k a en p G d : Nat} {v v3 vg : Value} (hk : k ≤ nc) (he1 : a ≤ en) (he2 : en ≤ l.length) (he3 : nc ≤ k → en = l.length) (hGp : G + p ≤ a)
    (HS : SrcIs wr w.heap.size w.heap.size v ((l.take a).drop G) p p G l.length)
    (HG : wr.ownsRow w.heap.size 5 1 vg (l.take (G + p)).length (nums .u8 (l.take (G + p)))) (hsep : ∀ q, vg.ownBlock = some q → q ≠ w.heap.size ∧ v.ownBlock ≠ some q) (HB : Below w.heap.size w wr)
    (hd : (d : Int) ≤ p) (H3 : SrcIs w3 w.heap.size w.heap.size v3 (((l.take a).drop G).drop d ++ (l.take en).drop a) ((p : Int) - d) ((p : Int) - d) ((G : Int) + d) l.length)
    (K3 : Kp wr w3 (fun k => k = w.heap.size ∨ v.ownBlock = some k)) (O3 : v3.ownBlock = v.ownBlock ∨ ∃ b, v3.ownBlock = some b ∧ wr.heap.size ≤ b) : AllRel w w3 l nc (k + 1) en vg := by
  have hsum : G + d + (p - d) = G + p := by omega
  refine ⟨v3, p - d, G + d, ?_, by omega, he2, by omega, ?_, ?_, ?_, fun h => he3 (by omega)⟩
  · rw [part_more l a en G d (by omega) he1 he2] at H3
    have e1 : ((p - d : Nat) : Int) = (p : Int) - d := by omega
    rw [e1, Int.natCast_add]
    exact H3
  · rw [hsum]
    exact K3.own HG (fun k hk hs => by
      obtain ⟨q1, q2⟩ := hsep k hk
      exact hs.elim q1 q2)
  · intro q hq
    refine ⟨(hsep q hq).1, fun e => ?_⟩
    rcases O3 with h | ⟨b, hb, hle⟩
    · exact (hsep q hq).2 (h ▸ e)
    · have := own_lt HG q hq
      rw [hb] at e
      injection e with e
      omega
  · exact K3.toBelow HB HB.size (fun k hk => by
      rcases hk with hk | hk
      · omega
      · exact (HS.vlt k hk).1)

theorem AllRel.took {w w2 w3 : World} {l : List Int} {nc k a p G t : Nat} {v vg vg3 : Value} (hk : k ≤ nc + 1) (ha : a ≤ l.length) (hGp : G + p + t ≤ a)
    (HS : SrcIs w2 w.heap.size w.heap.size v ((l.take a).drop G) ((p + t : Nat) : Int) ((p + t : Nat) : Int) G l.length)
    (HG : w2.ownsRow w.heap.size 5 1 vg (l.take (G + p)).length (nums .u8 (l.take (G + p)))) (hsep : ∀ q, vg.ownBlock = some q → q ≠ w.heap.size ∧ v.ownBlock ≠ some q) (HB : Below w.heap.size w w2)
    (hend : k = nc + 1 → a = l.length)
    (H3 : w3.ownsRow w.heap.size 5 1 vg3 (l.take (G + p) ++ (((l.take a).drop G).drop p).take t).length (nums .u8 (l.take (G + p) ++ (((l.take a).drop G).drop p).take t)))
    (g3 : w2.grownBy w3 vg.ownBlock) (O3 : vg3.ownBlock = vg.ownBlock ∨ ∃ b, vg3.ownBlock = some b ∧ w2.heap.size ≤ b) : AllRel w w3 l nc k a vg3 := by
  rw [got_more l a G p t hGp ha, Nat.add_assoc] at H3
  have hK : Kp w2 w3 (fun k => vg.ownBlock = some k) := (Kp.refl _ _).grown g3 (fun k hk => .inl hk)
  refine ⟨v, p + t, G, HS.kept hK (fun h => (hsep _ h).1 rfl) (fun k hk h => (hsep _ h).2 hk), hk, ha, by omega, H3, ?_, ?_, hend⟩
  · intro q hq
    rcases O3 with h | ⟨b, hb, hle⟩
    · exact hsep q (h ▸ hq)
    · rw [hb] at hq
      injection hq with hq
      subst hq
      exact ⟨by have := HS.lt; omega, fun e => by have := (HS.vlt _ e).2; omega⟩
  · exact hK.toBelow HB HB.size (fun k hk => own_base HG k hk)

set_option maxHeartbeats 2000000 in
set_option maxRecDepth 100000 in
theorem all_walk (w : World) (A : Option Addr) (c : Nat) (l : List Int) (HR : ReadsInt w .u8 A l.length l) (hc : l.length ≤ c)
    (Ac : Option Addr) (nc cc : Nat) (cu : List Int) (HC : ReadsInt w .i64 Ac nc cu) (At : Option Addr) (nt ct : Nat) (tk : List Int) (HT : ReadsInt w .i64 At nt tk) :
    Calls Try.prog 4 #[.slice A l.length c, .slice Ac nc cc, .slice At nt ct] w fun e w' => e = .returned (.bool true) ∧ Below w.heap.size w w' := by
  have hm1 := HR.2.1
  have hm2 := HC.2.1
  have hm3 := HT.2.1
  by_cases hb1 : 65536 < l.length
  · have hd : decide ((65536 : Int) < (l.length : Int)) = true := decide_eq_true (by omega)
    clear HR HC HT
    go_enter Try.func4, Try.ntmps4
    go_wp2
    go_ret
    exact ⟨rfl, Below.refl _ _⟩
  have hd1 : decide ((65536 : Int) < (l.length : Int)) = false := decide_eq_false (by omega)
  by_cases hb2 : 500 < nc
  · have hd : decide ((500 : Int) < (nc : Int)) = true := decide_eq_true (by omega)
    clear HR HC HT
    go_enter Try.func4, Try.ntmps4
    go_wp2
    go_ret
    exact ⟨rfl, Below.refl _ _⟩
  have hd2 : decide ((500 : Int) < (nc : Int)) = false := decide_eq_false (by omega)
  by_cases hb3 : 500 < nt
  · have hd : decide ((500 : Int) < (nt : Int)) = true := decide_eq_true (by omega)
    clear HR HC HT
    go_enter Try.func4, Try.ntmps4
    go_wp2
    go_ret
    exact ⟨rfl, Below.refl _ _⟩
  have hd3 : decide ((500 : Int) < (nt : Int)) = false := decide_eq_false (by omega)
  obtain ⟨i0, hi0, hsz⟩ := Option.map_eq_some_iff.1 Try.size5
  go_enter Try.func4, Try.ntmps4
  go_wp2_with fail
  refine (new_yes _ l.length (by omega) (by omega)).mono ?_
  rintro e w1 ⟨rfl, H1, B1⟩
  have R0 : AllRel w w1 l nc 0 0 (.slice none 0 0) := ⟨_, 0, 0, by simpa using H1, by omega, by omega, by omega, by simpa [nums] using own_nil _ _ _ _, by simp [Value.ownBlock], B1, by omega⟩
  clear H1 B1
  go_wp2
  go_loopw [9, 10, 11] (fun a vg i wr => ∃ (k a' : Nat), i = .int .i64 k ∧ a = .int .i64 a' ∧ AllRel w wr l nc k a' vg) (fun _ _ i _ => nc + 1 - (intOf i).toNat)
  case atStart => exact ⟨0, 0, rfl, rfl, R0⟩
  case round =>
    obtain ⟨k, a, rfl, rfl, R⟩ := hrel
    clear R0
    by_cases hlt : k ≤ nc
    · have hd5 : decide ((k : Int) ≤ (nc : Int)) = true := decide_eq_true (by omega)
      obtain ⟨v, p, G, HS, hk, ha, hGp, HG, hsep, HB, hend⟩ := R
      clear hend
      go_wp2_with fail
      refine (cut_any _ Ac nc cc cu (HC.below HB) k a l.length ha (by omega)).mono ?_
      rintro e w2 ⟨en, rfl, he1, he2, he3, rfl⟩
      obtain ⟨A2, hcut, hcr, hcc⟩ := print_mid_int (P := Try.prog) (k := .u8) 33 5 Try.underlying33 hi0 hsz A c l (a : Int) (en : Int) (by omega) (by omega) (by omega) hc
      rw [Int.toNat_natCast, Int.toNat_natCast] at hcut hcr
      have hln : ((l.take en).drop a).length = en - a := by rw [List.length_drop, List.length_take]; omega
      have hlx : ((l.take a).drop G).length = a - G := by rw [List.length_drop, List.length_take]; omega
      obtain ⟨ys, hys⟩ : ∃ ys, (l.take en).drop a = ys := ⟨_, rfl⟩
      rw [hys] at hcut hcr hln
      clear hcc
      have HY := Lib.hid hys
      have HLN := Lib.hid hln
      have HLX := Lib.hid hlx
      clear hln hlx hys
      go_wp2_with fail
      refine (feed_is_yes HS A2 _ _ _ ((hcr _ HR).below HB) (fun ad had hn => ⟨fun e => ?_, far_int (hcr _ HR) (Nat.le_refl _) ad had hn⟩) (by rw [HLN.out, HLX.out]; omega)).mono ?_
      · exact far_int (hcr _ HR) (HS.vlt _ e.symm).1 ad had hn rfl
      rintro e w3 ⟨d, v3, rfl, hd, _, H3, K3, O3⟩
      rw [← HY.out] at H3
      have R3 := AllRel.fed hlt he1 he2 he3 hGp HS HG hsep HB hd H3 K3 O3
      clear H3 K3 O3 hsep HG HS hcut hcr HLN HLX HY hd
      clear hk ha hGp he1 he2 he3
      by_cases hnt : nt ≤ k
      · have hd6 : decide ((nt : Int) ≤ (k : Int)) = true := decide_eq_true (by omega)
        go_wp2_with fail
        go_roundw
        case rel => exact ⟨k + 1, en, by go_num, rfl, R3⟩
        case measure => simp [intOf]; omega
      have hd6 : decide ((nt : Int) ≤ (k : Int)) = false := decide_eq_false (by omega)
      obtain ⟨adt, rfl, hct⟩ := (HT.below R3.hb).at_ (k : Int) (by omega) (by omega)
      rw [Int.toNat_natCast] at hct
      have hkt : (k : Int) < (nt : Int) := by omega
      generalize rd tk k = tq at hct
      by_cases ht0 : tq < 0
      · have hd7 : decide (tq < 0) = true := decide_eq_true ht0
        go_wp2_with fail
        go_roundw
        case rel => exact ⟨k + 1, en, by go_num, rfl, R3⟩
        case measure => simp [intOf]; omega
      have hd7 : decide (tq < 0) = false := decide_eq_false ht0
      by_cases ht1 : 1000 < tq
      · have hd8 : decide (1000 < tq) = true := decide_eq_true ht1
        go_wp2_with fail
        go_roundw
        case rel => exact ⟨k + 1, en, by go_num, rfl, R3⟩
        case measure => simp [intOf]; omega
      have hd8 : decide (1000 < tq) = false := decide_eq_false ht1
      obtain ⟨t, rfl⟩ := Int.eq_ofNat_of_zero_le (show 0 ≤ tq by omega)
      obtain ⟨v, p, G, HS, hk, ha, hGp, HG, hsep, HB, hend⟩ := R3
      have hlx : ((l.take en).drop G).length = en - G := by rw [List.length_drop, List.length_take]; omega
      by_cases hno : en - G - p < t
      · have R3 : AllRel w w3 l nc (k + 1) en u10 := ⟨v, p, G, HS, hk, ha, hGp, HG, hsep, HB, hend⟩
        go_wp2_with fail
        refine (take_is_no HS t (by rw [hlx]; omega)).mono ?_
        rintro e w4 ⟨rfl, B4⟩
        have R4 := R3.kept B4
        clear R3 HS HG hsep HB hend hlx
        go_wp2_with fail
        go_roundw
        case rel => exact ⟨k + 1, en, by go_num, rfl, R4⟩
        case measure => simp [intOf]; omega
      · have HLX := Lib.hid hlx
        clear hlx
        go_wp2_with fail
        refine (take_is_yes HS t (by omega) (by rw [HLX.out]; omega)).mono ?_
        rintro e w4 ⟨gx, rfl, Ox, H4, K4⟩
        rw [Int.toNat_natCast, Int.toNat_natCast] at Ox
        rw [Int.toNat_natCast]
        replace H4 : SrcIs w4 w.heap.size w.heap.size v ((l.take en).drop G) ((p + t : Nat) : Int) ((p + t : Nat) : Int) G l.length := by
          rw [show max (p : Int) ((p : Int) + (t : Int)) = ((p + t : Nat) : Int) from by omega, ← Int.natCast_add] at H4
          exact H4
        have nx : gx ≠ w.heap.size := fun e => by have := own_base Ox gx rfl; have := HS.lt; omega
        have HG4 := K4.own HG (fun k hk hs => (hsep k hk).1 hs)
        have HB4 : Below w.heap.size w w4 := K4.toBelow HB HB.size (fun k hk => by omega)
        have hif : (if (16 : Int) < (t : Int) then (16 : Int) else (t : Int)) = ((min t 16 : Nat) : Int) := by split <;> omega
        obtain ⟨b, hb⟩ : ∃ b, min t 16 = b := ⟨_, rfl⟩
        have hb1 : b ≤ t := by omega
        have hb2 : b ≤ 16 := by omega
        rw [hb] at hif
        clear hb HS HG HB K4 hct HT
        go_wp2_with fail
        refine (back_is_yes H4 b (by omega) (by omega) (by omega)).mono ?_
        rintro e w5 ⟨rfl, H5, K5⟩
        have HG5 := K5.own HG4 (fun k hk hs => (hsep k hk).1 hs)
        have Ox5 := K5.own Ox (fun k hk hs => by injection hk with hk; exact nx (hk.trans hs))
        have HB5 : Below w.heap.size w w5 := K5.toBelow HB4 HB4.size (fun k hk => by omega)
        clear H4 K5 HG4 Ox HB4 hif
        go_wp2_with fail
        refine (take_is_yes H5 b (by omega) (by rw [HLX.out]; omega)).mono ?_
        rintro e w6 ⟨gy, rfl, Oy, H6, K6⟩
        rw [Int.toNat_natCast, show (((p + t : Nat) : Int) - (b : Int)).toNat = p + t - b from by omega, ← tail_same _ p t b hb1] at Oy
        rw [Int.toNat_natCast]
        replace H6 : SrcIs w6 w.heap.size w.heap.size v ((l.take en).drop G) ((p + t : Nat) : Int) ((p + t : Nat) : Int) G l.length := by
          rw [show ((p + t : Nat) : Int) - (b : Int) + (b : Int) = ((p + t : Nat) : Int) from by omega, show max ((p + t : Nat) : Int) ((p + t : Nat) : Int) = ((p + t : Nat) : Int) from by omega] at H6
          exact H6
        have HG6 := K6.own HG5 (fun k hk hs => (hsep k hk).1 hs)
        have Ox6 := K6.own Ox5 (fun k hk hs => by injection hk with hk; exact nx (hk.trans hs))
        have HB6 : Below w.heap.size w w6 := K6.toBelow HB5 HB5.size (fun k hk => by omega)
        clear H5 K6 HG5 Ox5 HB5
        obtain ⟨A5, hcut5, hcr5⟩ := print_cut (P := Try.prog) 33 5 .i64 Try.underlying33 hi0 hsz (some ⟨gx, 0, none⟩) t t (t - b) (by omega)
        rw [show ((t - b : Nat) : Int) = (t : Int) - b from by omega] at hcut5
        have hRx := own_reads' Ox6
        have hRx5 := hcr5 _ _ _ (Nat.le_refl _) hRx
        obtain ⟨xt, hxt⟩ : ∃ xt, (((l.take en).drop G).drop p).take t = xt := ⟨_, rfl⟩
        rw [hxt] at Oy hRx hRx5
        obtain ⟨xb, hxb⟩ : ∃ xb, xt.drop (t - b) = xb := ⟨_, rfl⟩
        rw [hxb] at Oy hRx5
        have cy : ∀ q, (convert 33 9 (.slice (some ⟨gy, 0, none⟩) b b)).run Try.prog (w6.drewN q) = .ok (.string (strOfNums xb)) (w6.drewN q) := fun q => own_string (P := Try.prog) (src := 33) (dst := 9) (e := 5) Try.underlying33 Try.underlying5 Try.underlying9 (pw_own_drewN Oy q)
        have cx : ∀ q, (convert 33 9 (.slice A5 (t - (t - b)) (t - (t - b)))).run Try.prog (w6.drewN q) = .ok (.string (strOfNums xb)) (w6.drewN q) := fun q => string_of_reads (P := Try.prog) (src := 33) (dst := 9) (e := 5) Try.underlying33 Try.underlying5 Try.underlying9 (hRx5.drewN q)
        have ew : IntKind.i64.wrap ((t : Int) - b) = (t : Int) - b := IntWalk.i64_in _ (by omega)
        have HX := Lib.hid hxt
        clear hxt hxb Oy hRx5 hcr5 Ox6
        go_wp2_with fail
        go_quiet (fail)
        have B7 := drewN_below w6 nq
        have HB7 := below_then HB6 HB6.size B7
        have H7 := Lib.hid (H6.below B7)
        have HG7 := Lib.hid (pw_own_below HG6 B7)
        have hRx7 := Lib.hid (hRx.below B7)
        have hB7 := HB7.size
        have hl7 : ((l.take (G + p)).length + t) * 1 ≤ 140737488355328 := by rw [List.length_take]; omega
        have HBh := Lib.hid HB7
        clear cy cx hcut5 hRx H6 HG6 HB6 B7 HB7 ew HR HC
        generalize w6.drewN nq = W7 at *
        go_wp2_with (at_builtin; refine print_append_row w.heap.size rfl (.tmp 120) (.tmp 121) 33 5 .u8 1 rfl Try.underlying33 Try.info5 (by omega) u10 (l.take (G + p)) xt (some ⟨gx, 0, none⟩) t t rfl rfl HG7.out hRx7.out (Below.refl _ _) hB7 hl7 ?_; intro v8 w8 hO8 hB8 hg8 hat8; have R8 : AllRel w w8 l nc (k + 1) en v8 := AllRel.took hk ha (by omega) H7.out HG7.out hsep HBh.out hend (by rw [HX.out]; exact hO8) hg8 hat8; clear hO8 hB8 hg8 hat8)
        go_roundw
        case rel => exact ⟨k + 1, en, by go_num, rfl, R8⟩
        case measure => simp [intOf]; omega
    · have hd5 : decide ((k : Int) ≤ (nc : Int)) = false := decide_eq_false (by omega)
      obtain ⟨v, p, G, HS, hk, ha, hGp, HG, hsep, HB, hend⟩ := R
      obtain rfl : k = nc + 1 := by omega
      obtain rfl : a = l.length := hend rfl
      rw [List.take_length] at HS
      have hlx : (l.drop G).length = l.length - G := List.length_drop
      have HLX := Lib.hid hlx
      clear hlx hend HC HT hk ha
      go_wp2_with fail
      refine (left_is HS).mono ?_
      rintro e w2 ⟨rfl, B2⟩
      rw [HLX.out]
      have H2 := HS.below B2
      have HG2 := pw_own_below HG B2
      have HB2 := below_then HB HB.size B2
      clear HS HG HB B2
      go_wp2_with fail
      refine (take_is_yes H2 (((l.length - G : Nat) : Int) - p) (by omega) (by rw [HLX.out]; omega)).mono ?_
      rintro e w3 ⟨gx, rfl, Ox, H3, K3⟩
      have er : (((l.length - G : Nat) : Int) - (p : Int)).toNat = l.length - G - p := by omega
      rw [er] at Ox
      rw [er]
      clear er
      replace H3 : SrcIs w3 w.heap.size w.heap.size v (l.drop G) ((l.length - G : Nat) : Int) ((l.length - G : Nat) : Int) G l.length := by
        rw [show (p : Int) + (((l.length - G : Nat) : Int) - (p : Int)) = ((l.length - G : Nat) : Int) from by omega, show max (p : Int) ((l.length - G : Nat) : Int) = ((l.length - G : Nat) : Int) from by omega] at H3
        exact H3
      have HG3 := K3.own HG2 (fun k hk hs => (hsep k hk).1 hs)
      have HB3 : Below w.heap.size w w3 := K3.toBelow HB2 HB2.size (fun k hk => by omega)
      have hRx := own_reads' Ox
      obtain ⟨xt, hxt⟩ : ∃ xt, ((l.drop G).drop ((p : Int)).toNat).take (l.length - G - p) = xt := ⟨_, rfl⟩
      rw [hxt] at hRx
      have hall : l.take (G + p) ++ xt = l := by
        have e : (l.drop (G + p)).take (l.length - G - p) = l.drop (G + p) := List.take_of_length_le (by rw [List.length_drop]; omega)
        rw [← hxt, Int.toNat_natCast, List.drop_drop, e]
        exact List.take_append_drop _ _
      have HA := Lib.hid hall
      obtain ⟨r, hr⟩ : ∃ r, l.length - G - p = r := ⟨_, rfl⟩
      have hl7 : ((l.take (G + p)).length + r) * 1 ≤ 140737488355328 := by rw [List.length_take]; omega
      rw [hr] at hRx
      rw [hr]
      clear hxt hall hr H2 HG2 HB2 K3 Ox
      have hB3 := HB3.size
      have F1 := Lib.hid H3
      have F2 := Lib.hid HG3
      have F3 := Lib.hid HB3
      have F4 := Lib.hid hRx
      clear H3 HG3 HB3 hRx
      go_wp2_with (at_builtin; refine print_append_row w.heap.size rfl (.tmp 130) (.tmp 131) 33 5 .u8 1 rfl Try.underlying33 Try.info5 (by omega) u10 (l.take (G + p)) xt (some ⟨gx, 0, none⟩) r r rfl rfl F2.out F4.out (Below.refl _ _) hB3 hl7 ?_; intro v4 w4 hO4 hB4 hg4 hat4; rw [HA.out] at hO4; have K4 : Kp w3 w4 (fun k => u10.ownBlock = some k) := (Kp.refl _ _).grown hg4 (fun k hk => .inl hk); have H4 := F1.out.kept K4 (fun h => (hsep _ h).1 rfl) (fun k hk h => (hsep _ h).2 hk); have HB4 := Lib.hid (K4.toBelow F3.out F3.out.size (fun k hk => own_base F2.out k hk)); clear hB4 hg4 hat4 K4 F1 F2 F3 F4)
      refine (awake_true _).mono ?_
      rintro e w5 ⟨rfl, B5⟩
      have H5 := H4.below B5
      have hO5 := pw_own_below hO4 B5
      have HB5 := below_then HB4.out HB4.out.size B5
      clear H4 hO4 HB4 B5
      have cx := own_string (P := Try.prog) (src := 33) (dst := 9) (e := 5) Try.underlying33 Try.underlying5 Try.underlying9 hO5
      have cb := string_of_reads (P := Try.prog) (src := 33) (dst := 9) (e := 5) (c := c) Try.underlying33 Try.underlying5 Try.underlying9 (HR.below HB5)
      clear hO5 HR
      generalize strOfNums l = sx at cx cb
      go_wp2_with fail
      refine (left_is H5).mono ?_
      rintro e w6 ⟨rfl, B6⟩
      rw [HLX.out]
      have H6 := H5.below B6
      have HB6 := below_then HB5 HB5.size B6
      clear H5 HB5 B6 cx cb
      go_wp2_with fail
      refine (total_is H6).mono ?_
      rintro e w7 ⟨rfl, B7⟩
      rw [HLX.out]
      have HB7 := below_then HB6 HB6.size B7
      have he : ((G : Int) + ((l.length - G : Nat) : Int) == (l.length : Int)) = true := by rw [beq_iff_eq]; omega
      clear H6 HB6 B7
      go_wp2_with fail
      go_ret
      exact ⟨by simp [he], HB7⟩

theorem ChunkAll_walk (w : World) (A : Option Addr) (n c : Nat) (l : List Int) (hr : ReadsInt w .u8 A n l) (_y : n * 1 ≤ 140737488351232) (hc : n ≤ c) (_hw : ∀ x ∈ l, (Lit.int .u8 x).wf = true)
    (Ac : Option Addr) (nc cc : Nat) (cu : List Int) (hrc : ReadsInt w .i64 Ac nc cu) (_yc : nc * 8 ≤ 140737488351232) (_hcc : nc ≤ cc) (_hwc : ∀ x ∈ cu, (Lit.int .i64 x).wf = true)
    (At : Option Addr) (nt ct : Nat) (tk : List Int) (hrt : ReadsInt w .i64 At nt tk) (_yt : nt * 8 ≤ 140737488351232) (_hct : nt ≤ ct) (_hwt : ∀ x ∈ tk, (Lit.int .i64 x).wf = true) :
    Calls Try.prog 4 #[.slice A n c, .slice Ac nc cc, .slice At nt ct] w fun e w' => e = .returned (.bool true) ∧ Below w.heap.size w w' := by
  have e : l.length = n := hr.1
  subst e
  exact all_walk w A c l hr hc Ac nc cc cu hrc At nt ct tk hrt
end Go.Proofs.Yticcfpbeejakhaa
