/- More steps of ChunkRuns, held against the document's: Take, Peek, Back, Left and Total. -/
import Derived.Test.YticcfpbeejakhaaMk
namespace Go.Proofs.Yticcfpbeejakhaa
open Go.RowKit Go.Proofs.YticcfpbeejakhaaW.PrintWords Go.Proofs.YticcfpbeejakhaaW.PrintMore
set_option linter.unusedVariables false
set_option linter.unusedSimpArgs false

theorem took_same (all : List Int) (pos gone : Int) (g0 : 0 ≤ gone) (h : gone ≤ pos) (n : Nat) : ((all.drop gone.toNat).drop (pos - gone).toNat).take n = (all.drop pos.toNat).take n := by
  rw [List.drop_drop, show gone.toNat + (pos - gone).toNat = pos.toNat from by omega]

set_option maxHeartbeats 1000000 in
set_option maxRecDepth 100000 in
theorem step_take (w : World) (B gs gm : Nat) (v : Value) (all : List Int) (pos once gone limit : Int) (H : RunRel w B gs gm v all pos once gone limit) (n : Int) (u : Value) (A : Option Addr) (m c : Nat) (hu : u = .slice A m c) :
    Calls Try.prog 10 #[.pointer (some ⟨gs, 0, none⟩), .pointer (some ⟨gm, 0, none⟩), .agg #[.int .i64 2, .int .i64 n, u]] w fun e w' => e = .returned (.bool true) ∧ Stepped w w' B gs gm limit := by
  subst hu
  have hx := H.xlen
  have HX := Lib.hid hx
  clear hx
  have hsz := H.src.hB
  have l1 := H.src.l1
  have l2 := H.src.l2
  have g0 := H.src.g0
  have p0 := H.src.p0
  have p1 := H.src.o0
  have p2 := H.src.o1
  have hlen := H.len
  have hgle := H.gle
  have hbs := H.src.base
  have hbm := H.bm
  have hls := H.src.lt
  have hlm := H.mlt
  have hne := H.ne
  rw [HX.out] at l1 p2
  have B0 := box_below w (.cells #[.int .i64 2, .int .i64 n, .slice A m c] 35)
  have H0 := H.below B0
  have HBX : BoxB (w.alloc (.cells #[.int .i64 2, .int .i64 n, .slice A m c] 35)) w.heap.size 2 n (.slice A m c) := heap_alloc_new w _
  have K0 : Kp w (w.alloc (.cells #[.int .i64 2, .int .i64 n, .slice A m c] 35)) (fun k => B ≤ k) := Kp.of_below B0 _
  have hs0 : w.heap.size < (w.alloc (.cells #[.int .i64 2, .int .i64 n, .slice A m c] 35)).heap.size := by simp
  clear H B0
  go_enter Try.func10, Try.ntmps10
  go_wp2_with fail
  generalize (w.alloc (.cells #[.int .i64 2, .int .i64 n, .slice A m c] 35)) = W0 at *
  obtain ⟨bx, hbx⟩ : ∃ bx, w.heap.size = bx := ⟨_, rfl⟩
  rw [hbx] at HBX hs0 hls hlm hsz
  rw [hbx]
  by_cases hno : 0 ≤ n ∧ n ≤ (all.length : Int) - pos
  · obtain ⟨hn0, hn1⟩ := hno
    refine (take_is_yes H0.src n hn0 (by rw [HX.out]; omega)).mono ?_
    rintro e w1 ⟨gb, rfl, Ob, H1, K1⟩
    rw [took_same all pos gone g0 (by omega)] at Ob
    have R1 := H0.ref.kept K1 (fun h => hne h)
    have HBX1 : BoxB w1 bx 2 n (.slice A m c) := K1.heap HBX (by omega)
    have KK1 := K0.trans K1 (fun k hk => .inl (by omega))
    have hgb : W0.heap.size ≤ gb := own_base Ob gb rfl
    have hml : gm < W0.heap.size := H0.mlt
    have vx : ∀ k, v.ownBlock = some k → k < W0.heap.size := fun k hk => (H0.src.vlt k hk).2
    have hvm := H0.vne
    have hsl := H0.src.lt
    clear H0 HBX K0 K1
    obtain ⟨k0, k1, k2⟩ := HBX1.cells
    go_wp2_with fail
    refine (rtake_yes w1 gm limit pos once all R1 (by omega) (by omega) (by omega) n hn0 hn1).mono ?_
    rintro e w2 ⟨rfl, R2, K2⟩
    have H2 := H1.kept K2 (fun hs => hne hs.symm) (fun k hk hs => hvm (hs ▸ hk))
    have Ob2 := K2.own Ob (fun k hk hs => by injection hk with hk; have hk2 : gb = k := hk; omega)
    have HBX2 : BoxB w2 bx 2 n (.slice A m c) := K2.heap HBX1 (by omega)
    have KK2 := KK1.trans K2 (fun k hk => .inl (by omega))
    clear H1 R1 HBX1 KK1 K2 Ob k0 k1 k2
    obtain ⟨k0, k1, k2⟩ := HBX2.cells
    obtain ⟨q, rfl⟩ := Int.eq_ofNat_of_zero_le hn0
    rw [Int.toNat_natCast] at Ob2
    rw [Int.toNat_natCast]
    obtain ⟨xt, hxt⟩ : ∃ xt, (all.drop pos.toNat).take q = xt := ⟨_, rfl⟩
    rw [hxt] at Ob2
    rw [hxt]
    clear hxt
    go_wp2_with fail
    refine (told_some w2 _ gb q q xt Ob2 true).mono ?_
    rintro e w3 ⟨rfl, K3⟩
    have HS : Stepped w w3 B gs gm limit := by
      refine ⟨v, all, pos + q, max once (pos + q), gone, ⟨?_, R2.kept K3 (fun hs => by omega), hbm, hlen, by omega⟩, KK2.trans K3 (fun k hk => .inl (by omega))⟩
      have H3 := H2.kept K3 (fun hs => by omega) (fun k hk hs => by have := vx k hk; omega)
      rw [show pos + (q : Int) - gone = pos - gone + q from by omega, show max once (pos + (q : Int)) - gone = max (once - gone) (pos - gone + q) from by omega]
      exact H3
    clear H2 R2 HBX2 KK2 K3 Ob2 k0 k1 k2
    go_wp2_with fail
    go_ret
    exact ⟨rfl, HS⟩
  · refine (take_is_no H0.src n (by rw [HX.out]; omega)).mono ?_
    rintro e w1 ⟨rfl, B1⟩
    have H1 := H0.below B1
    have HBX1 : BoxB w1 bx 2 n (.slice A m c) := (B1.block bx hs0).trans HBX
    have KK1 := K0.below B1
    have hs1 : bx < w1.heap.size := Nat.lt_of_lt_of_le hs0 B1.size
    clear H0 HBX K0 B1
    obtain ⟨k0, k1, k2⟩ := HBX1.cells
    go_wp2_with fail
    refine (rtake_no w1 gm limit pos once all H1.ref (by omega) (by omega) (by omega) (by omega) (by omega) n (by omega)).mono ?_
    rintro e w2 ⟨rfl, R2, K2⟩
    have H2 : RunRel w2 B gs gm v all pos once gone limit := ⟨H1.src.kept K2 (fun hs => hne hs.symm) (fun k hk hs => H1.vne (hs ▸ hk)), R2, hbm, hlen, hgle⟩
    have HBX2 : BoxB w2 bx 2 n (.slice A m c) := K2.heap HBX1 (by omega)
    have KK2 := KK1.trans K2 (fun k hk => .inl (by omega))
    clear H1 R2 HBX1 KK1 K2 k0 k1 k2
    obtain ⟨k0, k1, k2⟩ := HBX2.cells
    go_wp2_with fail
    refine (told_zero w2 0 none 0 (own_nil _ _ _ _) false).mono ?_
    rintro e w3 ⟨rfl, B3⟩
    have HS : Stepped w w3 B gs gm limit := ⟨v, all, pos, once, gone, H2.below B3, KK2.below B3⟩
    clear H2 HBX2 KK2 B3 k0 k1 k2
    go_wp2_with fail
    go_ret
    exact ⟨rfl, HS⟩
set_option maxHeartbeats 1000000 in
set_option maxRecDepth 100000 in
theorem step_peek (w : World) (B gs gm : Nat) (v : Value) (all : List Int) (pos once gone limit : Int) (H : RunRel w B gs gm v all pos once gone limit) (n : Int) (u : Value) (A : Option Addr) (m c : Nat) (hu : u = .slice A m c) :
    Calls Try.prog 10 #[.pointer (some ⟨gs, 0, none⟩), .pointer (some ⟨gm, 0, none⟩), .agg #[.int .i64 3, .int .i64 n, u]] w fun e w' => e = .returned (.bool true) ∧ Stepped w w' B gs gm limit := by
  subst hu
  have hx := H.xlen
  have HX := Lib.hid hx
  clear hx
  have hsz := H.src.hB
  have l1 := H.src.l1
  have l2 := H.src.l2
  have g0 := H.src.g0
  have p0 := H.src.p0
  have p1 := H.src.o0
  have p2 := H.src.o1
  have hlen := H.len
  have hgle := H.gle
  have hbs := H.src.base
  have hbm := H.bm
  have hls := H.src.lt
  have hlm := H.mlt
  have hne := H.ne
  rw [HX.out] at l1 p2
  have B0 := box_below w (.cells #[.int .i64 3, .int .i64 n, .slice A m c] 35)
  have H0 := H.below B0
  have HBX : BoxB (w.alloc (.cells #[.int .i64 3, .int .i64 n, .slice A m c] 35)) w.heap.size 3 n (.slice A m c) := heap_alloc_new w _
  have K0 : Kp w (w.alloc (.cells #[.int .i64 3, .int .i64 n, .slice A m c] 35)) (fun k => B ≤ k) := Kp.of_below B0 _
  have hs0 : w.heap.size < (w.alloc (.cells #[.int .i64 3, .int .i64 n, .slice A m c] 35)).heap.size := by simp
  clear H B0
  go_enter Try.func10, Try.ntmps10
  go_wp2_with fail
  generalize (w.alloc (.cells #[.int .i64 3, .int .i64 n, .slice A m c] 35)) = W0 at *
  obtain ⟨bx, hbx⟩ : ∃ bx, w.heap.size = bx := ⟨_, rfl⟩
  rw [hbx] at HBX hs0 hls hlm hsz
  rw [hbx]
  by_cases hno : 0 ≤ n ∧ n ≤ (all.length : Int) - pos
  · obtain ⟨hn0, hn1⟩ := hno
    refine (peek_is_yes H0.src n hn0 (by rw [HX.out]; omega)).mono ?_
    rintro e w1 ⟨gb, rfl, Ob, B1⟩
    rw [took_same all pos gone g0 (by omega)] at Ob
    have H1 := H0.below B1
    have HBX1 : BoxB w1 bx 3 n (.slice A m c) := (B1.block bx hs0).trans HBX
    have KK1 := K0.below B1
    have hs1 : bx < w1.heap.size := Nat.lt_of_lt_of_le hs0 B1.size
    have hgb : W0.heap.size ≤ gb := own_base Ob gb rfl
    have hml : gm < W0.heap.size := H0.mlt
    have hsl := H0.src.lt
    have vx : ∀ k, v.ownBlock = some k → k < W0.heap.size := fun k hk => (H0.src.vlt k hk).2
    clear H0 HBX K0 B1
    obtain ⟨k0, k1, k2⟩ := HBX1.cells
    go_wp2_with fail
    refine (rpeek_yes w1 gm limit pos once all H1.ref (by omega) (by omega) (by omega) n hn0 hn1).mono ?_
    rintro e w2 ⟨rfl, B2⟩
    have H2 := H1.below B2
    have Ob2 := pw_own_below Ob B2
    have HBX2 : BoxB w2 bx 3 n (.slice A m c) := (B2.block bx hs1).trans HBX1
    have KK2 := KK1.below B2
    clear H1 HBX1 KK1 B2 Ob k0 k1 k2
    obtain ⟨k0, k1, k2⟩ := HBX2.cells
    obtain ⟨q, rfl⟩ := Int.eq_ofNat_of_zero_le hn0
    rw [Int.toNat_natCast] at Ob2
    rw [Int.toNat_natCast]
    obtain ⟨xt, hxt⟩ : ∃ xt, (all.drop pos.toNat).take q = xt := ⟨_, rfl⟩
    rw [hxt] at Ob2
    rw [hxt]
    clear hxt
    go_wp2_with fail
    refine (told_some w2 _ gb q q xt Ob2 true).mono ?_
    rintro e w3 ⟨rfl, K3⟩
    have HS : Stepped w w3 B gs gm limit := by
      refine ⟨v, all, pos, once, gone, H2.kept K3 (fun k hk => .inr ⟨by omega, by omega, fun hv => by have := vx k hv; omega⟩), KK2.trans K3 (fun k hk => .inl (by omega))⟩
    clear H2 HBX2 KK2 K3 Ob2 k0 k1 k2
    go_wp2_with fail
    go_ret
    exact ⟨rfl, HS⟩
  · refine (peek_is_no H0.src n (by rw [HX.out]; omega)).mono ?_
    rintro e w1 ⟨rfl, B1⟩
    have H1 := H0.below B1
    have HBX1 : BoxB w1 bx 3 n (.slice A m c) := (B1.block bx hs0).trans HBX
    have KK1 := K0.below B1
    have hs1 : bx < w1.heap.size := Nat.lt_of_lt_of_le hs0 B1.size
    clear H0 HBX K0 B1
    obtain ⟨k0, k1, k2⟩ := HBX1.cells
    go_wp2_with fail
    refine (rpeek_no w1 gm limit pos once all H1.ref (by omega) (by omega) (by omega) n (by omega)).mono ?_
    rintro e w2 ⟨rfl, B2⟩
    have H2 := H1.below B2
    have HBX2 : BoxB w2 bx 3 n (.slice A m c) := (B2.block bx hs1).trans HBX1
    have KK2 := KK1.below B2
    clear H1 HBX1 KK1 B2 k0 k1 k2
    obtain ⟨k0, k1, k2⟩ := HBX2.cells
    go_wp2_with fail
    refine (told_zero w2 0 none 0 (own_nil _ _ _ _) false).mono ?_
    rintro e w3 ⟨rfl, B3⟩
    have HS : Stepped w w3 B gs gm limit := ⟨v, all, pos, once, gone, H2.below B3, KK2.below B3⟩
    clear H2 HBX2 KK2 B3 k0 k1 k2
    go_wp2_with fail
    go_ret
    exact ⟨rfl, HS⟩

set_option maxHeartbeats 1000000 in
set_option maxRecDepth 100000 in
theorem step_back (w : World) (B gs gm : Nat) (v : Value) (all : List Int) (pos once gone limit : Int) (H : RunRel w B gs gm v all pos once gone limit) (n : Int) (u : Value) (A : Option Addr) (m c : Nat) (hu : u = .slice A m c) :
    Calls Try.prog 10 #[.pointer (some ⟨gs, 0, none⟩), .pointer (some ⟨gm, 0, none⟩), .agg #[.int .i64 4, .int .i64 n, u]] w fun e w' => e = .returned (.bool true) ∧ Stepped w w' B gs gm limit := by
  subst hu
  have hx := H.xlen
  have HX := Lib.hid hx
  clear hx
  have hsz := H.src.hB
  have l1 := H.src.l1
  have l2 := H.src.l2
  have g0 := H.src.g0
  have p0 := H.src.p0
  have p1 := H.src.o0
  have p2 := H.src.o1
  have hlen := H.len
  have hgle := H.gle
  have hbs := H.src.base
  have hbm := H.bm
  have hls := H.src.lt
  have hlm := H.mlt
  have hne := H.ne
  rw [HX.out] at l1 p2
  have B0 := box_below w (.cells #[.int .i64 4, .int .i64 n, .slice A m c] 35)
  have H0 := H.below B0
  have HBX : BoxB (w.alloc (.cells #[.int .i64 4, .int .i64 n, .slice A m c] 35)) w.heap.size 4 n (.slice A m c) := heap_alloc_new w _
  have K0 : Kp w (w.alloc (.cells #[.int .i64 4, .int .i64 n, .slice A m c] 35)) (fun k => B ≤ k) := Kp.of_below B0 _
  have hs0 : w.heap.size < (w.alloc (.cells #[.int .i64 4, .int .i64 n, .slice A m c] 35)).heap.size := by simp
  clear H B0
  go_enter Try.func10, Try.ntmps10
  go_wp2_with fail
  generalize (w.alloc (.cells #[.int .i64 4, .int .i64 n, .slice A m c] 35)) = W0 at *
  obtain ⟨bx, hbx⟩ : ∃ bx, w.heap.size = bx := ⟨_, rfl⟩
  rw [hbx] at HBX hs0 hls hlm hsz
  rw [hbx]
  have HW := H0.below ((Below.refl _ W0).drew)
  have HBW : BoxB W0.drew bx 4 n (.slice A m c) := HBX
  have KW : Kp w W0.drew (fun k => B ≤ k) := K0.drew
  have hsw : bx < W0.drew.heap.size := hs0
  obtain ⟨k0, k1, k2⟩ := HBX.cells
  clear H0 HBX K0 hs0
  by_cases hn : n < 0
  · go_region_with (first | (go_at_call 14; refine (back_arg _ _ _ hn).mono ?_; rintro e w1 ⟨rfl, rfl⟩) | (go_at_call 24; refine (rback_arg _ _ _ hn).mono ?_; rintro e w1 ⟨rfl, rfl⟩))
    all_goals go_wp2
    all_goals go_ret
    all_goals exact ⟨rfl, v, all, pos, once, gone, HW, KW⟩
  · by_cases hno : n ≤ pos ∧ once - 16 ≤ pos - n
    · obtain ⟨hn0, hn1⟩ := hno
      have hvm := HW.vne
      have HS := HW.src
      have HF := HW.ref
      clear HW
      go_region_with (first | (go_at_call 14; refine (back_is_yes HS n (by omega) (by omega) (by omega)).mono ?_; rintro e w1 ⟨rfl, H2, K1⟩; have F2 := HF.kept K1 (fun h => hne h); have K2 := KW.trans K1 (fun k hk => .inl (by omega)); have HB2 : BoxB w1 bx 4 n (.slice A m c) := K1.heap HBW (by omega); have hs2 := Nat.lt_of_lt_of_le hsw K1.size; clear HS HF KW HBW hsw K1 k0 k1 k2; have HS := H2; have HF := F2; have KW := K2; have HBW := HB2; have hsw := hs2; clear H2 F2 K2 HB2 hs2; obtain ⟨k0, k1, k2⟩ := HBW.cells) | (go_at_call 24; refine (rback_yes _ gm limit pos once all HF (by omega) (by omega) (by omega) (by omega) n (by omega) (by omega) (by omega)).mono ?_; rintro e w1 ⟨rfl, F2, K1⟩; have H2 := HS.kept K1 (fun h => hne h.symm) (fun k hk h => hvm (h ▸ hk)); have K2 := KW.trans K1 (fun k hk => .inl (by omega)); have HB2 : BoxB w1 bx 4 n (.slice A m c) := K1.heap HBW (by omega); have hs2 := Nat.lt_of_lt_of_le hsw K1.size; clear HS HF KW HBW hsw K1 k0 k1 k2; have HS := H2; have HF := F2; have KW := K2; have HBW := HB2; have hsw := hs2; clear H2 F2 K2 HB2 hs2; obtain ⟨k0, k1, k2⟩ := HBW.cells))
      all_goals go_wp2
      all_goals go_ret
      all_goals exact ⟨rfl, v, all, pos - n, once, gone, ⟨by rw [show pos - n - gone = pos - gone - n from by omega]; exact HS, HF, hbm, hlen, hgle⟩, KW⟩
    · go_region_with (first | (go_at_call 14; refine (back_is_no HW.src n (by omega) (by omega)).mono ?_; rintro e w1 ⟨rfl, B1⟩; have H2 := HW.below B1; have K2 := KW.below B1; have HB2 : BoxB w1 bx 4 n (.slice A m c) := (B1.block bx hsw).trans HBW; have hs2 := Nat.lt_of_lt_of_le hsw B1.size; clear HW KW HBW hsw B1 k0 k1 k2; have HW := H2; have KW := K2; have HBW := HB2; have hsw := hs2; clear H2 K2 HB2 hs2; obtain ⟨k0, k1, k2⟩ := HBW.cells) | (go_at_call 24; refine (rback_no _ gm limit pos once all HW.ref (by omega) (by omega) (by omega) (by omega) n (by omega) (by omega)).mono ?_; rintro e w1 ⟨rfl, B1⟩; have H2 := HW.below B1; have K2 := KW.below B1; have HB2 : BoxB w1 bx 4 n (.slice A m c) := (B1.block bx hsw).trans HBW; have hs2 := Nat.lt_of_lt_of_le hsw B1.size; clear HW KW HBW hsw B1 k0 k1 k2; have HW := H2; have KW := K2; have HBW := HB2; have hsw := hs2; clear H2 K2 HB2 hs2; obtain ⟨k0, k1, k2⟩ := HBW.cells))
      all_goals go_wp2
      all_goals go_ret
      all_goals exact ⟨rfl, v, all, pos, once, gone, HW, KW⟩
set_option maxHeartbeats 1000000 in
set_option maxRecDepth 100000 in
theorem step_other (w : World) (B gs gm : Nat) (v : Value) (all : List Int) (pos once gone limit : Int) (H : RunRel w B gs gm v all pos once gone limit) (kd : Int) (h1 : kd ≠ 1) (h2 : kd ≠ 2) (h3 : kd ≠ 3) (h4 : kd ≠ 4) (n : Int) (u : Value) (A : Option Addr) (m c : Nat) (hu : u = .slice A m c) :
    Calls Try.prog 10 #[.pointer (some ⟨gs, 0, none⟩), .pointer (some ⟨gm, 0, none⟩), .agg #[.int .i64 kd, .int .i64 n, u]] w fun e w' => e = .returned (.bool true) ∧ Stepped w w' B gs gm limit := by
  subst hu
  have d1 : (kd == 1) = false := beq_eq_false_iff_ne.2 h1
  have d2 : (kd == 2) = false := beq_eq_false_iff_ne.2 h2
  have d3 : (kd == 3) = false := beq_eq_false_iff_ne.2 h3
  have d4 : (kd == 4) = false := beq_eq_false_iff_ne.2 h4
  clear h1 h2 h3 h4
  have hx := H.xlen
  have HX := Lib.hid hx
  clear hx
  have hsz := H.src.hB
  have l1 := H.src.l1
  have l2 := H.src.l2
  have g0 := H.src.g0
  have p0 := H.src.p0
  have p1 := H.src.o0
  have p2 := H.src.o1
  have hlen := H.len
  have hgle := H.gle
  have hbs := H.src.base
  have hbm := H.bm
  have hls := H.src.lt
  have hlm := H.mlt
  have hne := H.ne
  rw [HX.out] at l1 p2
  have B0 := box_below w (.cells #[.int .i64 kd, .int .i64 n, .slice A m c] 35)
  have H0 := H.below B0
  have HBX : BoxB (w.alloc (.cells #[.int .i64 kd, .int .i64 n, .slice A m c] 35)) w.heap.size kd n (.slice A m c) := heap_alloc_new w _
  have K0 : Kp w (w.alloc (.cells #[.int .i64 kd, .int .i64 n, .slice A m c] 35)) (fun k => B ≤ k) := Kp.of_below B0 _
  have hs0 : w.heap.size < (w.alloc (.cells #[.int .i64 kd, .int .i64 n, .slice A m c] 35)).heap.size := by simp
  clear H B0
  go_enter Try.func10, Try.ntmps10
  go_wp2_with fail
  generalize (w.alloc (.cells #[.int .i64 kd, .int .i64 n, .slice A m c] 35)) = W0 at *
  obtain ⟨bx, hbx⟩ : ∃ bx, w.heap.size = bx := ⟨_, rfl⟩
  rw [hbx] at HBX hs0 hls hlm hsz
  rw [hbx]
  have hsz2 := strOfNums_size all
  obtain ⟨Av, cv, hv, hcv, hrv⟩ := H0.src.form
  have HSB := H0.src.blk
  rw [hv] at HSB
  obtain ⟨r0, r1, r2, r3, rf⟩ := H0.ref.cells
  obtain ⟨k0, k1, k2⟩ := HBX.cells
  have hxn : (all.drop gone.toNat).length ≤ 1000000 := by have := HX.out; omega
  have C1 : ∀ q, Calls Try.prog 15 #[.pointer (some ⟨gs, 0, none⟩)] (W0.drewN q) fun e w' => e = .returned (.int .i64 ((all.length : Int) - pos)) ∧ ∃ k, w' = (W0.drewN q).drewN k := fun q => by
    have := left_any (W0.drewN q) gs Av _ cv (pos - gone) (once - gone) gone limit HSB (by omega) (by omega) hxn
    rw [HX.out, show (all.length : Int) - gone - (pos - gone) = all.length - pos from by omega] at this
    exact this
  have C2 : ∀ q, Calls Try.prog 16 #[.pointer (some ⟨gs, 0, none⟩)] (W0.drewN q) fun e w' => e = .returned (.int .i64 (all.length : Int)) ∧ ∃ k, w' = (W0.drewN q).drewN k := fun q => by
    have := total_any (W0.drewN q) gs Av _ cv (pos - gone) (once - gone) gone limit HSB (by omega) (by omega) hxn
    rw [HX.out, show gone + ((all.length : Int) - gone) = all.length from by omega] at this
    exact this
  have ew : IntKind.i64.wrap ((all.length : Int) - pos) = all.length - pos := IntWalk.i64_in _ (by omega)
  clear HSB hrv hv
  go_quiet (first | (go_at_call 15; exact Calls.quiet_of (C1 _)) | (go_at_call 16; exact Calls.quiet_of (C2 _)))
  go_wp2
  go_ret
  exact ⟨by simp, v, all, pos, once, gone, H0.below (drewN_below _ _), K0.drewN _⟩

end Go.Proofs.Yticcfpbeejakhaa
