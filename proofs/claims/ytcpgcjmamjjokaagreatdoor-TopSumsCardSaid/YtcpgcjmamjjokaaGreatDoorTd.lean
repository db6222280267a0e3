/- TopSums, walked. -/
import Derived.Test.YtcpgcjmamjjokaaGreatDoorTc
import Derived.Deep.RegionHeld3
namespace Go.Proofs.YtcpgcjmamjjokaaGreatDoor
open Go.RowKit Go.Proofs.YtcpgcjmamjjokaaGreatDoorW.PrintWords Go.Proofs.YtcpgcjmamjjokaaGreatDoorW.PrintMore
set_option linter.unusedVariables false
set_option linter.unusedSimpArgs false
/-- The sum of the first i. -/
def ps (l : List Int) : Nat → Int
  | 0 => 0
  | i + 1 => ps l i + l.getD i 0
theorem wf_i32 {n : Int} (h : (Lit.int .i32 n).wf = true) : n.natAbs ≤ 2147483648 := by
  simp [Lit.wf, IntKind.min, IntKind.max, IntKind.bits, IntKind.signed] at h
  omega
theorem ps_abs (l : List Int) (hw : ∀ n ∈ l, (Lit.int .i32 n).wf = true) : ∀ i, (ps l i).natAbs ≤ i * 2147483648
  | 0 => by simp [ps]
  | i + 1 => by
    have h1 := ps_abs l hw i
    have h2 : (l.getD i 0).natAbs ≤ 2147483648 := by
      rw [List.getD_eq_getElem?_getD]
      cases h : l[i]? with
      | none => simp
      | some x => exact wf_i32 (hw x (List.mem_of_getElem? h))
    rw [ps]
    omega
theorem row_ev {w : World} {g : Nat} {k : Int} {neg : Bool} {d : ByteArray} {x : Int} {t : TypeId} (h : w.heap[g]? = some (.cells #[.int .i64 k, .bool false, .bool neg, .string d, .int .i64 x, .int .u64 0, .string ⟨#[]⟩] t (0, 0))) : ∀ j, j < 7 → w.cell? ⟨g, j, none⟩ = (evL k neg d x)[j]? := fun j hj => by
  refine (blk_cell h j).trans ?_
  rcases (by omega : j = 0 ∨ j = 1 ∨ j = 2 ∨ j = 3 ∨ j = 4 ∨ j = 5 ∨ j = 6) with rfl | rfl | rfl | rfl | rfl | rfl | rfl <;> rfl
theorem whole_int (v : Int) (hv : v.natAbs < 1000000000000000) (w : World) : Calls Tryz.prog 9 #[.int .i64 v] w fun e w' => e = .returned (numV v) ∧ Below w.heap.size w w' :=
  whole_any v.natAbs hv v (by omega) w
def SumsPost (W : World) (e : Ending) (W' : World) : Prop := e = .returned (.bool true) ∧ Below W.heap.size W W'
set_option maxHeartbeats 8000000 in
set_option maxRecDepth 100000 in
theorem sums_walk (W : World) (A : Option Addr) (n cap : Nat) (l : List Int) (hr : ReadsInt W .i32 A n l) (hy : n * 4 ≤ 140737488351232) (hc : n ≤ cap) (hw : ∀ n ∈ l, (Lit.int .i32 n).wf = true) :
    Calls Tryz.prog 3 #[.slice A n cap] W (SumsPost W) := by
  by_cases h250 : 250 < n
  · have hd : decide ((250 : Int) < (n : Int)) = true := decide_eq_true (by omega)
    go_enter Tryz.func3, Tryz.ntmps3
    go_wp2_with fail
    go_ret
    exact ⟨rfl, Below.refl _ _⟩
  · have hd : decide ((250 : Int) < (n : Int)) = false := decide_eq_false (by omega)
    have hC := fun w => compile_ex 10 (.inl rfl) w
    have hNw := fun g cap B w h => New_ex 10 (.inl rfl) g cap B w h
    have hL := fun M C F g B w0 h1 h2 h3 h4 => feed_list_m M C F g B w0 h1 h2 h3 h4
    have hps := ps_abs l hw
    have hln := hr.1
    unfold exV at *
    replace hC := Lib.hid hC
    replace hNw := Lib.hid hNw
    replace hL := Lib.hid hL
    replace hr := Lib.hid hr
    replace hw := Lib.hid hw
    replace hps := Lib.hid hps
    replace hln := Lib.hid hln
    have hn250 : n ≤ 250 := by omega
    go_enter Tryz.func3, Tryz.ntmps3
    go_wp2_with fail
    refine (hC.out _).mono ?_
    rintro e w2 ⟨g2, cap2, rfl, hg2, hN2, B2⟩
    replace B2 := Lib.hid B2
    go_wp2_with fail
    refine (hNw.out g2 cap2 _ w2 hN2).mono ?_
    rintro e w3 ⟨M, C, F, rfl, hM, B3⟩
    have hwM : W.heap.size ≤ C := Nat.le_trans B2.out.size hM.bc
    replace B3 := Lib.hid (below_then B2.out B2.out.size B3)
    clear hN2 B2 hg2 hC hNw
    replace hM := Lib.hid hM
    replace hwM := Lib.hid hwM
    go_wp2_with fail
    generalize hw4 : World.alloc w3 _ = w4
    obtain ⟨g4, hg4⟩ : ∃ g4, w3.heap.size = g4 := ⟨_, rfl⟩
    rw [hg4]
    obtain ⟨hM4, hrow4, hl4, hF4, B4⟩ : Mach 10 M C F w2.heap.size w4 ∧ (∀ j, j < 7 → w4.cell? ⟨g4, j, none⟩ = (evL 7 false ⟨#[]⟩ 0)[j]?) ∧ g4 < w4.heap.size ∧ F < g4 ∧ Below W.heap.size W w4 := by
      subst hw4 hg4
      have h := hM.out
      exact ⟨⟨blk_alloc h.m _, blk_alloc h.c _, blk_alloc h.f _, h.bc, h.cm, h.mf⟩, row_ev (heap_alloc_new _ _), blk_lt (heap_alloc_new _ _), blk_lt h.f, below_alloc B3.out _⟩
    have hcm := hM.out.cm
    have hmf := hM.out.mf
    clear hw4 hg4 hM B3
    refine (hL.out M C F g4 _ w4 hM4 hrow4 hl4 hF4).mono ?_
    rintro e w5 ⟨rfl, ⟨R, Fr, hS5, hR5, hF5⟩, K5⟩
    have B5 := Lib.hid (K5.toBelow B4 B4.size (fun k hk => by have h1 := hwM.out; rcases hk with h | h | h <;> omega))
    have hB5 : W.heap.size ≤ R ∧ W.heap.size ≤ Fr := ⟨Nat.le_trans B4.size hR5, Nat.le_trans B4.size hF5⟩
    clear hM4 hrow4 hl4 hF4 B4 hR5 hF5 K5 hL
    replace hS5 := Lib.hid hS5
    replace hB5 := Lib.hid hB5
    replace hcm := Lib.hid hcm
    replace hmf := Lib.hid hmf
    go_wp2_with fail
    go_loopw [7, 8] (fun v7 v8 w' => ∃ (i : Nat) (X : World), v7 = .int .i64 (ps l i) ∧ v8 = .int .i64 (i : Int) ∧ X = w' ∧ i ≤ n ∧ Hid (SumAt w2.heap.size i (ps l i) M C F R Fr X) ∧ Hid (Below W.heap.size W X)) (fun _ v8 _ => n - (intOf v8).toNat)
    case atStart => exact ⟨0, _, rfl, rfl, rfl, Nat.zero_le _, hS5, B5⟩
    case round =>
      obtain ⟨i, X, rfl, rfl, rfl, hi, hS, hB⟩ := hrel
      clear hS5 B5
      by_cases c : i < n
      · have hdi : decide ((i : Int) < (n : Int)) = true := decide_eq_true (by omega)
        obtain ⟨ad, rfl, hcell⟩ := (hr.out.below hB.out).at_ (i : Int) (by omega) (by omega)
        rw [Int.toNat_natCast] at hcell
        have b1 : (i : Int) < (n : Int) := by omega
        have hv1 : l.getD i 0 = rd l (i : Int) := by
          show _ = l.getD ((i : Int).toNat) 0
          rw [Int.toNat_natCast]
        have hvb : (rd l (i : Int)).natAbs ≤ 2147483648 := by
          rw [← hv1, List.getD_eq_getElem?_getD]
          cases h : l[i]? with
          | none => simp
          | some x => exact wf_i32 (hw.out x (List.mem_of_getElem? h))
        have hTb := hps.out i
        have hT2b := hps.out (i + 1)
        have hT2 : ps l (i + 1) = ps l i + rd l (i : Int) := by rw [ps, hv1]
        clear hv1
        rw [hT2] at hT2b
        generalize rd l (i : Int) = v at *
        obtain ⟨T, hT⟩ : ∃ T, ps l i = T := ⟨_, rfl⟩
        rw [hT] at hTb hT2b hT2 hS ⊢
        clear hT
        have hv64 : wrap64 v = v := by
          unfold wrap64; omega
        have hT64 : wrap64 (T + v) = T + v := by
          unfold wrap64; omega
        have hWh := Lib.hid (fun w => whole_int v (by omega) w)
        have hFN := Lib.hid (fun g w0 h1 h2 h3 h4 => feed_num_m M C F R Fr g w2.heap.size i T v (by omega) (by omega) (by omega) (by omega) w0 h1 h2 h3 h4)
        unfold numV at hWh
        replace hT2 := Lib.hid hT2
        replace hTb := Lib.hid hTb
        replace hT2b := Lib.hid hT2b
        replace hvb := Lib.hid hvb
        go_wp2_with fail
        refine (hWh.out _).mono ?_
        rintro e X1 ⟨rfl, BX1⟩
        have hS1 := hS.out.kp (Kp.of_below BX1 (fun _ => False)) id id id id id
        have hB1 := Lib.hid (below_then hB.out hB.out.size BX1)
        clear BX1 hcell
        replace hS1 := Lib.hid hS1
        go_wp2_with fail
        generalize hX2 : World.alloc X1 _ = X2
        obtain ⟨g6, hg6⟩ : ∃ g6, X1.heap.size = g6 := ⟨_, rfl⟩
        rw [hg6]
        obtain ⟨hS2, hrow2, hl2, hB2⟩ : SumAt w2.heap.size i T M C F R Fr X2 ∧ (∀ j, j < 7 → X2.cell? ⟨g6, j, none⟩ = (evL 3 (NB v) ⟨(ND v).toArray⟩ (NE v : Nat))[j]?) ∧ g6 < X2.heap.size ∧ Below W.heap.size W X2 := by
          subst hX2 hg6
          exact ⟨hS1.out.kp (Kp.of_below (below_alloc (Below.refl _ _) _) (fun _ => False)) id id id id id, row_ev (heap_alloc_new _ _), blk_lt (heap_alloc_new _ _), below_alloc hB1.out _⟩
        have hg6n : ¬ (g6 = C ∨ g6 = M ∨ g6 = F ∨ g6 = Fr) := by
          have h1 := chk_lt hS1.out.c
          have h2 := blk_lt hS1.out.m
          have h3 := blk_lt hS1.out.f
          omega
        clear hX2 hg6 hS1 hB1 hS hB
        refine (hFN.out g6 X2 hS2 hrow2 hl2 hg6n).mono ?_
        rintro e X3 ⟨rfl, hS3, K3⟩
        have hB3 := Lib.hid (K3.toBelow hB2 hB2.size (fun k hk => by have h1 := hwM.out; have h2 := hcm.out; have h3 := hmf.out; have h4 := hB5.out; rcases hk with h | h | h | h <;> omega))
        have hm3 := hS3.m
        have hc3 : X3.cell? ⟨C, 1, none⟩ = some (.bool false) := by
          obtain ⟨cp, h⟩ := hS3.c.c
          exact (blk3 h).2.1
        have hH := Lib.hid (held_m M C F false _ _ X3 hm3 hc3)
        have hD := Lib.hid (done_m M C false _ _ _ X3 hm3 hc3)
        clear hS2 hrow2 hl2 hB2 hg6n K3 hm3 hc3 hFN hWh
        replace hS3 := Lib.hid hS3
        go_wp2_with fail
        refine hH.out.mono ?_
        rintro e X4 ⟨rfl, rfl⟩
        go_wp2_with fail
        refine hD.out.mono ?_
        rintro e X4 ⟨rfl, rfl⟩
        go_wp2_with fail
        go_roundw
        case rel =>
          refine ⟨i + 1, _, ?_, by first | rfl | (push_cast; rfl), rfl, by omega, ?_, hB3⟩
          · rw [hT2.out]
          · rw [hT2.out]; exact hS3
        case measure => simp [intOf]; omega
      · obtain rfl : i = n := by omega
        have hdi : decide ((i : Int) < (i : Int)) = false := decide_eq_false (by omega)
        have hTb := hps.out i
        obtain ⟨T, hT⟩ : ∃ T, ps l i = T := ⟨_, rfl⟩
        rw [hT] at hTb hS ⊢
        clear hT
        have hFE := Lib.hid (fun g w0 h1 h2 h3 h4 => feed_end_m M C F R Fr g w2.heap.size i T w0 h1 h2 h3 h4)
        have hWh := Lib.hid (fun w => whole_int T (by omega) w)
        have hTL := Lib.hid (fun w => tells_ok w)
        unfold numV at hWh
        replace hTb := Lib.hid hTb
        go_wp2_with fail
        generalize hX2 : World.alloc X _ = X2
        obtain ⟨g6, hg6⟩ : ∃ g6, X.heap.size = g6 := ⟨_, rfl⟩
        rw [hg6]
        obtain ⟨hS2, hrow2, hl2, hB2⟩ : SumAt w2.heap.size i T M C F R Fr X2 ∧ (∀ j, j < 7 → X2.cell? ⟨g6, j, none⟩ = (evL 11 false ⟨#[]⟩ 0)[j]?) ∧ g6 < X2.heap.size ∧ Below W.heap.size W X2 := by
          subst hX2 hg6
          exact ⟨hS.out.kp (Kp.of_below (below_alloc (Below.refl _ _) _) (fun _ => False)) id id id id id, row_ev (heap_alloc_new _ _), blk_lt (heap_alloc_new _ _), below_alloc hB.out _⟩
        have hg6n : ¬ (g6 = C ∨ g6 = M ∨ g6 = F ∨ g6 = Fr) := by
          have h1 := chk_lt hS.out.c
          have h2 := blk_lt hS.out.m
          have h3 := blk_lt hS.out.f
          omega
        clear hX2 hg6 hS hB
        refine (hFE.out g6 X2 hS2 hrow2 hl2 hg6n).mono ?_
        rintro e X3 ⟨h, cp, rfl, hh, hhl, hcells, ⟨k, hm3⟩, hc3, K3⟩
        have hB3 := K3.toBelow hB2 hB2.size (fun k hk => by have h1 := hwM.out; have h2 := hcm.out; have h3 := hmf.out; have h4 := hB5.out; rcases hk with h | h | h | h <;> omega)
        have hHd := Lib.hid (fun w (hb : Below X3.heap.size X3 w) => held_m M C F true _ _ w (blk_below hm3 hb) (pw_cell_below hb hc3))
        have hDn := Lib.hid (fun w (hb : Below X3.heap.size X3 w) => done_m M C true _ _ _ w (blk_below hm3 hb) (pw_cell_below hb hc3))
        have hcl := Lib.hid (fun w (hb : Below X3.heap.size X3 w) j (hj : j < 7) => (hb.cell (p := ⟨h, j, none⟩) hhl).trans (hcells j hj))
        clear hS2 hrow2 hl2 hB2 hg6n K3 hm3 hc3 hFE hcells
        replace hB3 := Lib.hid hB3
        replace hh := Lib.hid hh
        have hS7 := Lib.hid (fun x (hb : Below X3.heap.size X3 x) => (⟨hcl.out x hb 0 (by decide), hcl.out x hb 1 (by decide), hcl.out x hb 2 (by decide), hcl.out x hb 3 (by decide), hcl.out x hb 4 (by decide), hcl.out x hb 5 (by decide), hcl.out x hb 6 (by decide)⟩ : x.cell? ⟨h, 0, none⟩ = some (.int .i64 3) ∧ x.cell? ⟨h, 1, none⟩ = some (.bool false) ∧ x.cell? ⟨h, 2, none⟩ = some (.bool (NB T)) ∧ x.cell? ⟨h, 3, none⟩ = some (.string ⟨(ND T).toArray⟩) ∧ x.cell? ⟨h, 4, none⟩ = some (.int .i64 (NE T : Nat)) ∧ x.cell? ⟨h, 5, none⟩ = some (.int .u64 0) ∧ x.cell? ⟨h, 6, none⟩ = some (.string ⟨#[]⟩)))
        clear hcl
        go_wp2_with fail
        go_region_held3 (fun x => x.cell? ⟨h, 0, none⟩ = some (.int .i64 3) ∧ x.cell? ⟨h, 1, none⟩ = some (.bool false) ∧ x.cell? ⟨h, 2, none⟩ = some (.bool (NB T)) ∧ x.cell? ⟨h, 3, none⟩ = some (.string ⟨(ND T).toArray⟩) ∧ x.cell? ⟨h, 4, none⟩ = some (.int .i64 (NE T : Nat)) ∧ x.cell? ⟨h, 5, none⟩ = some (.int .u64 0) ∧ x.cell? ⟨h, 6, none⟩ = some (.string ⟨#[]⟩))
          (first | exact hS7.out _ (Below.refl X3.heap.size X3).drew | exact hS7.out _ BA'.out | exact hS7.out _ BB'.out | go_keep)
          (first
            | (go_at_call 12; (with_reducible refine (hTL.out _).mono ?_); rintro e wA ⟨rfl, BA⟩; have BA' := Lib.hid (num_drew1' BA); clear BA)
            | (go_at_call 9; (with_reducible refine (hWh.out _).mono ?_); rintro e wB ⟨rfl, BB⟩; have BB' := Lib.hid (below_then BA'.out BA'.out.size BB); clear BB)
            | (go_at_call 11; (with_reducible refine (hDn.out _ BB'.out).mono ?_); rintro e w' ⟨rfl, rfl⟩)
            | (go_at_call 10; (with_reducible refine (hHd.out _ BB'.out).mono ?_); rintro e w' ⟨rfl, rfl⟩))
        have hfin := Lib.hid (below_then hB3.out hB3.out.size BB'.out)
        go_wp2_with fail
        go_ret
        exact ⟨rfl, hfin.out⟩
end Go.Proofs.YtcpgcjmamjjokaaGreatDoor
