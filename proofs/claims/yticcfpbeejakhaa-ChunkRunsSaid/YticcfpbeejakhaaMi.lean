/- ChunkPeeks, walked. -/
import Derived.Test.YticcfpbeejakhaaMh
namespace Go.Proofs.Yticcfpbeejakhaa
open Go.RowKit Go.Proofs.YticcfpbeejakhaaW.PrintWords Go.Proofs.YticcfpbeejakhaaW.PrintMore
set_option linter.unusedVariables false
set_option linter.unusedSimpArgs false

/-- Take, whether so many are left or not. -/
theorem take_some {w : World} {B g : Nat} {v : Value} {xs : List Int} {pos once gone limit : Int} (h : SrcIs w B g v xs pos once gone limit) (m : Int) :
    Calls Try.prog 13 #[.pointer (some ⟨g, 0, none⟩), .int .i64 m] w fun e w' => ∃ (r : Value) (b : Bool) (pos' once' : Int), e = .returned (.tuple #[r, .bool b]) ∧ SrcIs w' B g v xs pos' once' gone limit ∧ Kp w w' (fun k => k = g) := by
  by_cases hm : 0 ≤ m ∧ m ≤ (xs.length : Int) - pos
  · exact (take_is_yes h m hm.1 hm.2).mono fun e w' ⟨gb, he, _, h1, h2⟩ => ⟨_, _, _, _, he, h1, h2⟩
  · exact (take_is_no h m (by omega)).mono fun e w' ⟨he, hb⟩ => ⟨_, _, _, _, he, h.below hb, Kp.of_below hb _⟩

set_option maxHeartbeats 1000000 in
set_option maxRecDepth 100000 in
theorem peeks_walk (w : World) (A : Option Addr) (n c : Nat) (l : List Int) (HR : ReadsInt w .u8 A n l) (k m : Int) :
    Calls Try.prog 6 #[.slice A n c, .int .i64 k, .int .i64 m] w fun e w' => e = .returned (.bool true) ∧ Below w.heap.size w w' := by
  have hnl := HR.1
  have hmx := HR.2.1
  by_cases hbig : 65536 < n
  · have hd : decide ((65536 : Int) < (n : Int)) = true := decide_eq_true (by omega)
    clear hnl HR
    go_enter Try.func6, Try.ntmps6
    go_wp2
    go_ret
    exact ⟨rfl, Below.refl _ _⟩
  · have hd : decide ((65536 : Int) < (n : Int)) = false := decide_eq_false (by omega)
    have HL := Lib.hid hnl
    clear hnl
    go_enter Try.func6, Try.ntmps6
    go_wp2_with fail
    refine (new_yes _ 65536 (by omega) (by omega)).mono ?_
    rintro e w1 ⟨rfl, H1, B1⟩
    have hg1 := H1.lt
    have HR1 := HR.below B1
    go_wp2_with fail
    refine (feed_is_yes H1 A n c l HR1 (fun ad had hn => ⟨by simp [Value.ownBlock], far_int HR (Nat.le_refl _) ad had hn⟩) (by simp; omega)).mono ?_
    rintro e w2 ⟨d, v2, rfl, hd1, hd2, H2, K2, O2⟩
    obtain rfl : d = 0 := by omega
    replace H2 : SrcIs w2 w.heap.size w.heap.size v2 l 0 0 0 65536 := by simpa using H2
    have B2 : Below w.heap.size w w2 := K2.toBelow B1 B1.size (fun k hk => by
      rcases hk with hk | hk
      · omega
      · simp [Value.ownBlock] at hk)
    clear hd1 hd2 K2 O2 H1 B1 HR HR1 hg1
    go_wp2_with fail
    -- Take(n)
    refine (take_some H2 k).mono ?_
    rintro e w3 ⟨r3, b3, pos, once, rfl, H3, K3⟩
    have B3 : Below w.heap.size w w3 := K3.toBelow B2 B2.size (fun k hk => by omega)
    clear K3 B2 H2
    go_wp2_with fail
    -- Left()
    refine (left_is H3).mono ?_
    rintro e w4 ⟨rfl, B4⟩
    rw [HL.out]
    have H4 := H3.below B4
    have B4' := below_then B3 B3.size B4
    clear B3 B4 H3
    have hp0 := H4.p0
    have hp1 := H4.o0
    have hp2 := H4.o1
    rw [HL.out] at hp2
    by_cases hm : 0 ≤ m ∧ m ≤ (n : Int) - pos
    · obtain ⟨hm0, hm1⟩ := hm
      obtain ⟨q, rfl⟩ := Int.eq_ofNat_of_zero_le hm0
      go_wp2_with fail
      refine (peek_is_yes H4 q hm0 (by rw [HL.out]; exact hm1)).mono ?_
      rintro e w5 ⟨gx, rfl, Ox, B5⟩
      rw [Int.toNat_natCast] at Ox ⊢
      have nx : gx ≠ w.heap.size := fun e => by have := own_base Ox gx rfl; have := H4.lt; omega
      have H5 := H4.below B5
      have B5' := below_then B4' B4'.size B5
      clear B4' B5 H4
      go_wp2_with fail
      refine (left_is H5).mono ?_
      rintro e w6 ⟨rfl, B6⟩
      rw [HL.out]
      have H6 := H5.below B6
      have B6' := below_then B5' B5'.size B6
      have Ox6 := pw_own_below Ox B6
      clear B5' B6 H5 Ox
      go_wp2_with fail
      refine (take_is_yes H6 q hm0 (by rw [HL.out]; exact hm1)).mono ?_
      rintro e w7 ⟨gy, rfl, Oy, H7, K7⟩
      rw [Int.toNat_natCast] at Oy ⊢
      have Ox7 := K7.own Ox6 (fun k hk hs => by injection hk with hk; exact nx (hk.trans hs))
      have B7 : Below w.heap.size w w7 := K7.toBelow B6' B6'.size (fun k hk => by omega)
      clear B6' K7 H6 Ox6 nx
      go_wp2_with fail
      refine (awake_true _).mono ?_
      rintro e w8 ⟨rfl, B8⟩
      have H8 := H7.below B8
      have B8' := below_then B7 B7.size B8
      have cx := own_string (P := Try.prog) (src := 33) (dst := 9) (e := 5) Try.underlying33 Try.underlying5 Try.underlying9 (pw_own_below Ox7 B8)
      have cy := own_string (P := Try.prog) (src := 33) (dst := 9) (e := 5) Try.underlying33 Try.underlying5 Try.underlying9 (pw_own_below Oy B8)
      clear B7 B8 H7 Ox7 Oy
      generalize strOfNums (List.take q (List.drop pos.toNat l)) = sx at cx cy
      have hd0 : decide ((0 : Int) ≤ (q : Int)) = true := decide_eq_true (by omega)
      have hd1 : decide ((q : Int) ≤ (n : Int) - pos) = true := decide_eq_true hm1
      go_wp2_with fail
      refine (left_is H8).mono ?_
      rintro e w9 ⟨rfl, B9⟩
      rw [HL.out]
      have B9' := below_then B8' B8'.size B9
      have he : ((n : Int) - (pos + (q : Int)) == (n : Int) - pos - (q : Int)) = true := by rw [beq_iff_eq]; omega
      clear B8' B9 H8 cx cy
      go_wp2_with fail
      go_ret
      exact ⟨by simp [he], B9'⟩
    · go_wp2_with fail
      refine (peek_is_no H4 m (by rw [HL.out]; omega)).mono ?_
      rintro e w5 ⟨rfl, B5⟩
      have H5 := H4.below B5
      have B5' := below_then B4' B4'.size B5
      clear B4' B5 H4
      go_wp2_with fail
      refine (left_is H5).mono ?_
      rintro e w6 ⟨rfl, B6⟩
      rw [HL.out]
      have H6 := H5.below B6
      have B6' := below_then B5' B5'.size B6
      clear B5' B6 H5
      go_wp2_with fail
      refine (take_is_no H6 m (by rw [HL.out]; omega)).mono ?_
      rintro e w7 ⟨rfl, B7⟩
      have H7 := H6.below B7
      have B7' := below_then B6' B6'.size B7
      clear B6' B7 H6
      go_wp2_with fail
      refine (awake_true _).mono ?_
      rintro e w8 ⟨rfl, B8⟩
      have H8 := H7.below B8
      have B8' := below_then B7' B7'.size B8
      clear B7' B8 H7
      have cn := run_convert_bytes_nil (P := Try.prog) w8 33 5 Try.underlying33 Try.underlying5 0 0 9 Try.underlying9
      by_cases hm0 : 0 ≤ m
      · have hd0 : decide ((0 : Int) ≤ m) = true := decide_eq_true hm0
        have hd1 : decide (m ≤ (n : Int) - pos) = false := decide_eq_false (by omega)
        clear hm
        go_wp2_with fail
        refine (left_is H8).mono ?_
        rintro e w9 ⟨rfl, B9⟩
        rw [HL.out]
        have B9' := below_then B8' B8'.size B9
        clear B8' B9 H8
        go_wp2_with fail
        go_ret
        exact ⟨by simp, B9'⟩
      · have hd0 : decide ((0 : Int) ≤ m) = false := decide_eq_false hm0
        clear hm
        go_wp2_with fail
        refine (left_is H8).mono ?_
        rintro e w9 ⟨rfl, B9⟩
        rw [HL.out]
        have B9' := below_then B8' B8'.size B9
        clear B8' B9 H8
        go_wp2_with fail
        go_ret
        exact ⟨by simp, B9'⟩

theorem ChunkPeeks_walk (w : World) (A : Option Addr) (n c : Nat) (l : List Int) (hr : ReadsInt w .u8 A n l) (_y : n * 1 ≤ 140737488351232) (_hc : n ≤ c) (_hw : ∀ x ∈ l, (Lit.int .u8 x).wf = true)
    (k : Int) (_wk : (Lit.int .i64 k).wf = true) (m : Int) (_wm : (Lit.int .i64 m).wf = true) :
    Calls Try.prog 6 #[.slice A n c, .int .i64 k, .int .i64 m] w fun e w' => e = .returned (.bool true) ∧ Below w.heap.size w w' := peeks_walk w A n c l hr k m
end Go.Proofs.Yticcfpbeejakhaa
