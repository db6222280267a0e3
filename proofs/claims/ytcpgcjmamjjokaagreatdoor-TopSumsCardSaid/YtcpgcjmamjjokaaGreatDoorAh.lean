/- num.Add. Written by gen_ah.py. -/
import Derived.Test.YtcpgcjmamjjokaaGreatDoorAg
import Derived.WalkMore
namespace Go.Proofs.YtcpgcjmamjjokaaGreatDoor
open Go.RowKit Go.Proofs.YtcpgcjmamjjokaaGreatDoorW.PrintWords Go.Proofs.YtcpgcjmamjjokaaGreatDoorW.PrintMore
set_option linter.unusedVariables false
set_option linter.unusedSimpArgs false
theorem size_alloc (w : World) (o : Obj) : (w.alloc o).heap.size = w.heap.size + 1 := Array.size_push _
theorem sum_c {P Q r : List UInt8} {s : Int} {L : Nat} {i c : Int} (h : SumSt P Q s L i c r) : (s = 1 → 0 ≤ c) ∧ (s = -1 → c ≤ 0) := by
  obtain ⟨hr, ⟨k, hk, hkL, hrl, hI, hc⟩ | ⟨h1, h2, h3, h4⟩⟩ := h
  · rcases hc with rfl | rfl <;> omega
  · omega
/-- A block of 842 bytes, filled from k on. -/
def ArrB (w : World) (g k : Nat) (ds : List UInt8) : Prop :=
  ∃ arr : Array Value, w.heap[g]? = some (.cells arr 185 (0, 0)) ∧ arr.size = 842 ∧ arr.toList.drop k = (ds.map fun (x : UInt8) => Value.int .u8 x.toNat) ∧ k + ds.length = 842 ∧ ∀ i, i < 842 → ∃ x : Int, arr[i]? = some (.int .u8 x)
theorem ArrB.cell {w : World} {g k : Nat} {ds : List UInt8} (h : ArrB w g k ds) (i : Nat) (hi : i < 842) : (∃ x : Int, w.cell? ⟨g, i, none⟩ = some (.int .u8 x)) ∧ w.frozen? ⟨g, i, none⟩ = false := by
  obtain ⟨arr, h1, h2, h3, h4, h5⟩ := h
  obtain ⟨x, hx⟩ := h5 i hi
  exact ⟨⟨x, (blk_cell h1 i).trans hx⟩, blk_frozen h1 i⟩
theorem ArrB.put {w : World} {g k : Nat} {ds : List UInt8} (h : ArrB w g (k + 1) ds) (x : UInt8) (z : Int) (hz : z = (x.toNat : Int)) (hk : k < 842) : ArrB (w.setCell ⟨g, k, none⟩ (.int .u8 z)) g k (x :: ds) := by
  subst hz
  obtain ⟨arr, h1, h2, h3, h4, h5⟩ := h
  refine ⟨arr.setIfInBounds k (.int .u8 x.toNat), blk_set h1 k _, by simp [h2], ?_, by simp; omega, fun i hi => ?_⟩
  · rw [Array.toList_setIfInBounds, List.drop_eq_getElem_cons (by simp; omega), List.map_cons, ← h3]
    congr 1
    · simp
    · rw [List.drop_set_of_lt (by omega)]
  · by_cases hik : i = k
    · subst hik
      exact ⟨x.toNat, by rw [Array.getElem?_setIfInBounds_self_of_lt (by omega)]⟩
    · obtain ⟨y, hy⟩ := h5 i hi
      exact ⟨y, by rw [Array.getElem?_setIfInBounds_ne (by omega)]; exact hy⟩
theorem ArrB.far {w : World} {g k : Nat} {ds : List UInt8} (h : ArrB w g k ds) (n : Nat) : ArrB (w.drewN n) g k ds := h
theorem ArrB.drew1 {w : World} {g k : Nat} {ds : List UInt8} (h : ArrB w g k ds) : ArrB w.drew g k ds := h
theorem ArrB.reads {w : World} {g k : Nat} {ds : List UInt8} (h : ArrB w g k ds) : ReadsInt w .u8 (some ⟨g, k, none⟩) ds.length (ds.map fun x => (x.toNat : Int)) := by
  obtain ⟨arr, h1, h2, h3, h4, h5⟩ := h
  refine ⟨by simp, by omega, fun _ => ⟨_, rfl, fun j hj => ?_⟩⟩
  have e : (Addr.add ⟨g, k, none⟩ j) = ⟨g, k + j, none⟩ := by rcases j with _ | j <;> simp [Addr.add]
  rw [e]
  refine (blk_cell h1 (k + j)).trans ?_
  have : arr.toList[k + j]? = (arr.toList.drop k)[j]? := by rw [List.getElem?_drop]
  rw [← Array.getElem?_toList, this, h3]
  simp [List.getD_eq_getElem?_getD, hj]
theorem strOf_bytes (xs : List UInt8) : strOfNums (xs.map fun x => (x.toNat : Int)) = ⟨xs.toArray⟩ := by
  simp only [strOfNums, List.map_map]
  congr 1
  congr 1
  conv => rhs; rw [← List.map_id xs]
  apply List.map_congr_left
  intro x _
  simp
theorem slice842 (G j : Nat) (hj : j < 842) (w : World) : (Instr.sliceAt 185 (.pointer (some ⟨G, 0, none⟩)) (some (.int .i64 (j : Int))) none none).run Tryz.prog w = .ok (.slice (some ⟨G, j, none⟩) (842 - j) (842 - j)) w := by
  have hal : Tryz.prog.arrayLen 185 = 842 := by kernel_rfl
  have hel : Tryz.prog.elem 185 = 5 := by kernel_rfl
  have hs : (sizeOf 5).run Tryz.prog w = .ok 1 w := by kernel_rfl
  rw [run_sliceAt_array_l (P := Tryz.prog) w 185 ⟨G, 0, none⟩ (by kernel_rfl) .i64 (j : Int) (by omega) (by rw [hal]; omega), hel, hs]
  simp only [Result.andThen, slicedAt, hal, Int.toNat_natCast, Nat.mul_one]
  rw [if_neg (by omega)]
  rcases j with _ | j <;> simp [Addr.add]
theorem arr_new (w : World) : ArrB (w.alloc (.cells Tryz.zeroCells185 185)) w.heap.size 842 [] := by
  refine ⟨Tryz.zeroCells185, heap_alloc_new w _, by kernel_rfl, ?_, rfl, fun i hi => ⟨0, ?_⟩⟩
  · have : Tryz.zeroCells185.size = 842 := by kernel_rfl
    rw [List.drop_of_length_le (by rw [Array.length_toList, this]; exact Nat.le_refl _)]; rfl
  · have : Tryz.zeroCells185 = Array.replicate 842 (Value.int .u8 0) := by kernel_rfl
    rw [this, Array.getElem?_replicate, if_pos hi]
set_option maxHeartbeats 3200000 in
set_option maxRecDepth 100000 in
theorem add_same (na nb nt : Bool) (A B D : List UInt8) (x y z e L : Nat) (P0 Q0 : List UInt8)
    (kc1 : ∀ w, Calls Tryz.prog 90 #[.agg #[.bool na, .string ⟨A.toArray⟩, .int .i64 (x : Int)]] w fun e w' => e = .returned (.int .i64 0) ∧ Below w.heap.size w w')
    (kc2 : ∀ w, Calls Tryz.prog 90 #[.agg #[.bool nb, .string ⟨B.toArray⟩, .int .i64 (y : Int)]] w fun e w' => e = .returned (.int .i64 0) ∧ Below w.heap.size w w')
    (kl : ∀ w, Calls Tryz.prog 114 #[.agg #[.bool na, .string ⟨A.toArray⟩, .int .i64 (x : Int)], .agg #[.bool nb, .string ⟨B.toArray⟩, .int .i64 (y : Int)]] w fun r w' => r = .returned (.tuple #[.string ⟨P0.toArray⟩, .string ⟨Q0.toArray⟩, .int .i64 (e : Int)]) ∧ Below w.heap.size w w')
    (hp : isD P0) (hq : isD Q0) (lp : P0.length = L) (lq : Q0.length = L) (hL : L ≤ 30) (hL1 : 1 ≤ L)
    (hn : (na == nb) = true)
    (km : ∀ r : List UInt8, isD r → r.length ≤ 31 → (val P0 : Int) + 1 * (val Q0 : Int) = (val r : Int) → ∀ w, Calls Tryz.prog 115 #[.bool na, .string ⟨r.toArray⟩, .int .i64 (e : Int)] w fun r w' => r = .returned (.tuple #[.agg #[.bool nt, .string ⟨D.toArray⟩, .int .i64 (z : Int)], .int .i64 0]) ∧ Below w.heap.size w w') (w : World) :
    Calls Tryz.prog 80 #[.agg #[.bool na, .string ⟨A.toArray⟩, .int .i64 (x : Int)], .agg #[.bool nb, .string ⟨B.toArray⟩, .int .i64 (y : Int)]] w fun r w' => r = .returned (.tuple #[.agg #[.bool nt, .string ⟨D.toArray⟩, .int .i64 (z : Int)], .int .i64 0]) ∧ Below w.heap.size w w' := by
  have sP := ba_size P0
  have sQ := ba_size Q0
  rw [lp] at sP
  rw [lq] at sQ
  replace kc1 := Lib.hid kc1
  replace kc2 := Lib.hid kc2
  replace kl := Lib.hid kl
  replace km := Lib.hid km
  replace hp := Lib.hid hp
  replace hq := Lib.hid hq
  replace lp := Lib.hid lp
  replace lq := Lib.hid lq
  have hst := Lib.hid (sum_start P0 Q0 1 L lp.out lq.out)
  go_enter Tryz.func80, Tryz.ntmps80
  obtain ⟨G, hG⟩ : ∃ G, w.heap.size = G := ⟨_, rfl⟩
  go_wp2_with fail
  go_step3
  generalize hw1 : World.alloc _ _ = w1
  obtain ⟨b1, b2, b3, B1, s1⟩ : w1.heap[G]? = some (.cells #[.bool na, .string ⟨A.toArray⟩, .int .i64 (x : Int)] 32 (0, 0)) ∧ w1.heap[G + 1]? = some (.cells #[.bool nb, .string ⟨B.toArray⟩, .int .i64 (y : Int)] 32 (0, 0)) ∧ w1.heap[G + 1 + 1]? = some (.cells #[.bool false, .string ⟨#[]⟩, .int .i64 0] 32 (0, 0)) ∧ Below w.heap.size w w1 ∧ w1.heap.size = G + 1 + 1 + 1 := by
    subst hw1 hG
    refine ⟨blk_alloc (blk_alloc (heap_alloc_new _ _) _) _, blk_alloc (alloc2 _ _ _) _, ?_, below_alloc (below_alloc (below_alloc (Below.refl _ _) _) _) _, ?_⟩
    · have h := heap_alloc_new ((w.alloc (.cells #[.bool na, .string ⟨A.toArray⟩, .int .i64 (x : Int)] 32)).alloc (.cells #[.bool nb, .string ⟨B.toArray⟩, .int .i64 (y : Int)] 32)) (.cells #[.bool false, .string ⟨#[]⟩, .int .i64 0] 32)
      rw [size_alloc, size_alloc] at h
      exact h
    · rw [size_alloc, size_alloc, size_alloc]
  clear hw1
  replace hG := Lib.hid hG
  replace s1 := Lib.hid s1
  replace B1 := Lib.hid B1
  obtain ⟨c0, c1, c2, f0, f1, f2⟩ := blk3 b1
  obtain ⟨d0, d1, d2, g0, g1, g2⟩ := blk3 b2
  go_wp2_with fail
  refine (kc1.out _).mono ?_
  rintro e1 w2 ⟨rfl, B2⟩
  replace b1 := blk_below b1 B2
  replace b2 := blk_below b2 B2
  replace b3 := blk_below b3 B2
  have s2 := Lib.hid (Nat.le_trans (Nat.le_of_eq s1.out.symm) B2.size)
  replace B2 := Lib.hid (below_then B1.out B1.out.size B2)
  clear c0 c1 c2 f0 f1 f2 d0 d1 d2 g0 g1 g2 B1
  obtain ⟨c0, c1, c2, f0, f1, f2⟩ := blk3 b1
  obtain ⟨d0, d1, d2, g0, g1, g2⟩ := blk3 b2
  go_wp2_with fail
  refine (kc2.out _).mono ?_
  rintro e1 w3 ⟨rfl, B3⟩
  replace b1 := blk_below b1 B3
  replace b2 := blk_below b2 B3
  replace b3 := blk_below b3 B3
  have s3 := Lib.hid (Nat.le_trans s2.out B3.size)
  replace B3 := Lib.hid (below_then B2.out B2.out.size B3)
  clear c0 c1 c2 f0 f1 f2 d0 d1 d2 g0 g1 g2 B2
  obtain ⟨c0, c1, c2, f0, f1, f2⟩ := blk3 b1
  obtain ⟨d0, d1, d2, g0, g1, g2⟩ := blk3 b2
  go_wp2_with fail
  refine (kl.out _).mono ?_
  rintro e1 w4 ⟨rfl, B4⟩
  replace b1 := blk_below b1 B4
  replace b2 := blk_below b2 B4
  replace b3 := blk_below b3 B4
  have s4 := Lib.hid (Nat.le_trans s3.out B4.size)
  replace B4 := Lib.hid (below_then B3.out B3.out.size B4)
  clear c0 c1 c2 f0 f1 f2 d0 d1 d2 g0 g1 g2 B3
  obtain ⟨c0, c1, c2, f0, f1, f2⟩ := blk3 b1
  obtain ⟨d0, d1, d2, g0, g1, g2⟩ := blk3 b2
  go_wp2_with fail
  generalize hw5 : World.alloc _ _ = w5
  obtain ⟨G5, hG5⟩ : ∃ G5, w4.heap.size = G5 := ⟨_, rfl⟩
  rw [hG5]
  obtain ⟨HA0, b3', B5⟩ : ArrB w5 G5 842 [] ∧ w5.heap[G + 1 + 1]? = some (.cells #[.bool false, .string ⟨#[]⟩, .int .i64 0] 32 (0, 0)) ∧ Below w.heap.size w w5 := by
    subst hw5 hG5
    exact ⟨arr_new w4, blk_alloc b3 _, below_alloc B4.out _⟩
  clear hw5 c0 c1 c2 f0 f1 f2 d0 d1 d2 g0 g1 g2 b1 b2 b3 B4
  rw [hG5] at s4
  clear hG5 s1 s2 s3
  replace HA0 := Lib.hid HA0
  replace b3' := Lib.hid b3'
  replace B5 := Lib.hid B5
  go_step3
  go_wp2_with fail
  go_loopw [12, 13, 14] (fun v12 v13 v14 w' => ∃ (k : Nat) (c i : Int) (r : List UInt8) (W : World), v12 = .int .i64 (k : Int) ∧ v13 = .int .i64 c ∧ v14 = .int .i64 i ∧ W = w' ∧ Hid (ArrB W G5 k r) ∧ Hid (SumSt P0 Q0 1 L i c r) ∧ Hid (W.heap[G + 1 + 1]? = some (.cells #[.bool false, .string ⟨#[]⟩, .int .i64 0] 32 (0, 0))) ∧ Hid (Below w.heap.size w W)) (fun _ _ v14 _ => (intOf v14 + 2).toNat)
  case atStart => exact ⟨842, 0, (L : Int) - 1, [], _, rfl, rfl, rfl, rfl, HA0, hst, b3', B5⟩
  case round =>
    obtain ⟨k, c, i, r, W, rfl, rfl, rfl, rfl, HA, HS, Hb, HB⟩ := hrel
    clear HA0 hst b3' B5
    obtain ⟨i1, i2, i3, i4, i5, i6, i7⟩ := sum_i HS.out
    have hkr : k + r.length = 842 := by obtain ⟨_, _, _, _, h, _⟩ := HA.out; exact h
    have hcb := i5 (by omega)
    by_cases hi : 0 ≤ i
    · obtain ⟨j, rfl⟩ : ∃ j : Nat, i = (j : Int) := ⟨i.toNat, by omega⟩
      have hjL : j < L := by omega
      obtain ⟨x1, hx1, gx⟩ := sum_idx P0 j (by rw [lp.out]; exact hjL)
      obtain ⟨y1, hy1, gy⟩ := sum_idx Q0 j (by rw [lq.out]; exact hjL)
      obtain ⟨d, c', hd, HS', hc⟩ := sum_step P0 Q0 r 1 L j c x1 y1 (by omega) lp.out lq.out HS.out hx1 hy1 hp.out hq.out
      have hxb := hp.out x1 (List.mem_of_getElem? hx1)
      have hyb := hq.out y1 (List.mem_of_getElem? hy1)
      have hdx : (dv x1 : Int) = (x1.toNat : Int) - 48 := by unfold dv; omega
      have hdy : (dv y1 : Int) = (y1.toNat : Int) - 48 := by unfold dv; omega
      rw [hdx, hdy] at hc
      have hrl := i4 (by omega)
      obtain ⟨k0, rfl⟩ : ∃ k0, k = k0 + 1 := ⟨k - 1, by omega⟩
      have hk0 : k0 < 842 := by omega
      obtain ⟨⟨x0, hc0⟩, hfz⟩ := HA.out.cell k0 hk0
      have hcc := sum_c HS.out
      clear hdx hdy hx1 hy1 i3 i4 i5 i6 i7 hi HS
      replace hkr := Lib.hid hkr
      replace HS' := Lib.hid HS'
      obtain ⟨hxb0, hxb1⟩ := hxb
      obtain ⟨hyb0, hyb1⟩ := hyb
      obtain ⟨hcb0, hcb1⟩ := hcb
      have hcc1 : 0 ≤ c := by omega
      clear hcc
      have hdn := ofNat_dig d hd
      obtain ⟨dc, hdc⟩ : ∃ dc, UInt8.ofNat (48 + d) = dc := ⟨_, rfl⟩
      rw [hdc] at hdn HS'
      clear hdc
      replace hdn := Lib.hid hdn
      rcases hc with ⟨h1, h2, rfl⟩ | ⟨h1, h2, rfl⟩ | ⟨h0, h1, h2, rfl⟩
      · exfalso; omega
      · go_wp2_with fail
        go_quiet (fail)
        go_wp2_with fail
        go_roundw
        case rel =>
          refine ⟨k0, _, (j : Int) - 1, dc :: r, _, rfl, rfl, rfl, rfl, Lib.hid (ArrB.put (HA.out.far _) dc _ ?_ hk0), HS', Lib.hid (blk_far (blk_drewN Hb.out _) ?_ _), Lib.hid (below_set (pw_below_drewN HB.out _) ?_)⟩
          · have := hdn.out; omega
          · have := s4.out
            show ¬ G + 1 + 1 = G5
            omega
          · have := s4.out
            have := hG.out
            show w.heap.size ≤ G5
            omega
        case measure =>
          show ((j : Int) - 1 + 2).toNat < ((j : Int) + 2).toNat
          omega
      · go_wp2_with fail
        go_quiet (fail)
        go_wp2_with fail
        go_roundw
        case rel =>
          refine ⟨k0, _, (j : Int) - 1, dc :: r, _, rfl, rfl, rfl, rfl, Lib.hid (ArrB.put (HA.out.far _) dc _ ?_ hk0), HS', Lib.hid (blk_far (blk_drewN Hb.out _) ?_ _), Lib.hid (below_set (pw_below_drewN HB.out _) ?_)⟩
          · have := hdn.out; omega
          · have := s4.out
            show ¬ G + 1 + 1 = G5
            omega
          · have := s4.out
            have := hG.out
            show w.heap.size ≤ G5
            omega
        case measure =>
          show ((j : Int) - 1 + 2).toNat < ((j : Int) + 2).toNat
          omega
    · by_cases hc0 : c = 0
      · subst hc0
        obtain ⟨hr, hrl, hV⟩ := sum_done P0 Q0 r 1 L i (by omega) HS.out
        have hr1 : 1 ≤ r.length := by
          obtain ⟨_, ⟨q, q1, q2, q3, _⟩ | ⟨_, _, q3, _⟩⟩ := HS.out <;> omega
        have hk1 : k < 842 := by omega
        have hlen : r.length = 842 - k := by omega
        have hR := HA.out.reads
        rw [hlen] at hR
        have hcv : ∀ c, (convert 65 9 (.slice (some ⟨G5, k, none⟩) (842 - k) c)).run Tryz.prog W = .ok (.string ⟨r.toArray⟩) W := fun c => by
          rw [string_of_reads (e := 5) Tryz.underlying65 Tryz.underlying5 Tryz.underlying9 hR, strOf_bytes]
        have hcv1 := hcv (842 - k)
        have hsl := fun w' => slice842 G5 k hk1 w'
        have km1 := Lib.hid (km.out r hr (by omega) hV)
        clear hcv i1 i2 i3 i4 i5 i6 i7
        replace hlen := Lib.hid hlen
        replace hkr := Lib.hid hkr
        replace hR := Lib.hid hR
        replace hrl := Lib.hid hrl
        replace hr1 := Lib.hid hr1
        replace hr := Lib.hid hr
        replace hV := Lib.hid hV
        go_wp2_with fail
        refine (km1.out _).mono ?_
        rintro e1 w6 ⟨rfl, B6⟩
        have b6 := blk_below Hb.out B6
        have B7 := below_then HB.out HB.out.size B6
        clear B6
        obtain ⟨c0, c1, c2, f0, f1, f2⟩ := blk3 b6
        replace b6 := Lib.hid b6
        replace B7 := Lib.hid B7
        go_wp2_with fail
        generalize hw3 : World.setCell _ _ _ = w7
        have b7 : w7.heap[G + 1 + 1]? = some (.cells #[.bool nt, .string ⟨D.toArray⟩, .int .i64 (z : Int)] 32 (0, 0)) := by
          subst hw3
          exact blk_put (blk_put (cs' := #[.bool nt, .string ⟨D.toArray⟩, .int .i64 0]) (blk_put (cs' := #[.bool nt, .string ⟨#[]⟩, .int .i64 0]) b6.out 0 _ rfl) 1 _ rfl) 2 _ rfl
        have B8 : Below w.heap.size w w7 := by
          subst hw3
          have hg := hG.out
          exact below_set (below_set (below_set B7.out (by omega)) (by omega)) (by omega)
        obtain ⟨z0, z1, z2, _, _, _⟩ := blk3 b7
        clear hw3
        rw [Exit.noGoto_ret]
        exact bodyPost_ret (v := .tuple #[.agg #[.bool nt, .string ⟨D.toArray⟩, .int .i64 (z : Int)], .int .i64 0]) (by simp [results, Tryz.results80, go_sem, z0, z1, z2]) rfl ⟨rfl, B8⟩
      · obtain ⟨rfl, rfl, HS'⟩ := sum_over P0 Q0 r 1 L i c (by omega) hc0 (.inl rfl) HS.out
        obtain ⟨k0, rfl⟩ : ∃ k0, k = k0 + 1 := ⟨k - 1, by omega⟩
        have hk0 : k0 < 842 := by omega
        obtain ⟨⟨x0, hc0⟩, hfz⟩ := HA.out.cell k0 hk0
        clear i1 i2 i3 i4 i5 i6 i7 hi HS hcb
        replace hkr := Lib.hid hkr
        replace HS' := Lib.hid HS'
        go_wp2_with fail
        go_roundw
        case rel =>
          refine ⟨k0, _, -2, UInt8.ofNat (48 + 1) :: r, _, rfl, rfl, rfl, rfl, Lib.hid (ArrB.put HA.out (UInt8.ofNat (48 + 1)) _ ?_ hk0), HS', Lib.hid (blk_far Hb.out ?_ _), Lib.hid (below_set HB.out ?_)⟩
          · rfl
          · have := s4.out
            show ¬ G + 1 + 1 = G5
            omega
          · have := s4.out
            have := hG.out
            show w.heap.size ≤ G5
            omega
        case measure => decide
set_option maxHeartbeats 3200000 in
set_option maxRecDepth 100000 in
theorem add_less (na nb nt : Bool) (A B D : List UInt8) (x y z e L : Nat) (P0 Q0 : List UInt8)
    (kc1 : ∀ w, Calls Tryz.prog 90 #[.agg #[.bool na, .string ⟨A.toArray⟩, .int .i64 (x : Int)]] w fun e w' => e = .returned (.int .i64 0) ∧ Below w.heap.size w w')
    (kc2 : ∀ w, Calls Tryz.prog 90 #[.agg #[.bool nb, .string ⟨B.toArray⟩, .int .i64 (y : Int)]] w fun e w' => e = .returned (.int .i64 0) ∧ Below w.heap.size w w')
    (kl : ∀ w, Calls Tryz.prog 114 #[.agg #[.bool na, .string ⟨A.toArray⟩, .int .i64 (x : Int)], .agg #[.bool nb, .string ⟨B.toArray⟩, .int .i64 (y : Int)]] w fun r w' => r = .returned (.tuple #[.string ⟨P0.toArray⟩, .string ⟨Q0.toArray⟩, .int .i64 (e : Int)]) ∧ Below w.heap.size w w')
    (hp : isD P0) (hq : isD Q0) (lp : P0.length = L) (lq : Q0.length = L) (hL : L ≤ 30) (hL1 : 1 ≤ L)
    (hn : (na == nb) = false) (hlt : Op.bytesLess P0 Q0 = true) (hle : Hid (val P0 ≤ val Q0))
    (km : ∀ r : List UInt8, isD r → r.length ≤ 31 → (val Q0 : Int) + (-1) * (val P0 : Int) = (val r : Int) → ∀ w, Calls Tryz.prog 115 #[.bool nb, .string ⟨r.toArray⟩, .int .i64 (e : Int)] w fun r w' => r = .returned (.tuple #[.agg #[.bool nt, .string ⟨D.toArray⟩, .int .i64 (z : Int)], .int .i64 0]) ∧ Below w.heap.size w w') (w : World) :
    Calls Tryz.prog 80 #[.agg #[.bool na, .string ⟨A.toArray⟩, .int .i64 (x : Int)], .agg #[.bool nb, .string ⟨B.toArray⟩, .int .i64 (y : Int)]] w fun r w' => r = .returned (.tuple #[.agg #[.bool nt, .string ⟨D.toArray⟩, .int .i64 (z : Int)], .int .i64 0]) ∧ Below w.heap.size w w' := by
  have sP := ba_size P0
  have sQ := ba_size Q0
  rw [lp] at sP
  rw [lq] at sQ
  replace kc1 := Lib.hid kc1
  replace kc2 := Lib.hid kc2
  replace kl := Lib.hid kl
  replace km := Lib.hid km
  replace hp := Lib.hid hp
  replace hq := Lib.hid hq
  replace lp := Lib.hid lp
  replace lq := Lib.hid lq
  have hst := Lib.hid (sum_start Q0 P0 (-1) L lq.out lp.out)
  go_enter Tryz.func80, Tryz.ntmps80
  obtain ⟨G, hG⟩ : ∃ G, w.heap.size = G := ⟨_, rfl⟩
  go_wp2_with fail
  go_step3
  generalize hw1 : World.alloc _ _ = w1
  obtain ⟨b1, b2, b3, B1, s1⟩ : w1.heap[G]? = some (.cells #[.bool na, .string ⟨A.toArray⟩, .int .i64 (x : Int)] 32 (0, 0)) ∧ w1.heap[G + 1]? = some (.cells #[.bool nb, .string ⟨B.toArray⟩, .int .i64 (y : Int)] 32 (0, 0)) ∧ w1.heap[G + 1 + 1]? = some (.cells #[.bool false, .string ⟨#[]⟩, .int .i64 0] 32 (0, 0)) ∧ Below w.heap.size w w1 ∧ w1.heap.size = G + 1 + 1 + 1 := by
    subst hw1 hG
    refine ⟨blk_alloc (blk_alloc (heap_alloc_new _ _) _) _, blk_alloc (alloc2 _ _ _) _, ?_, below_alloc (below_alloc (below_alloc (Below.refl _ _) _) _) _, ?_⟩
    · have h := heap_alloc_new ((w.alloc (.cells #[.bool na, .string ⟨A.toArray⟩, .int .i64 (x : Int)] 32)).alloc (.cells #[.bool nb, .string ⟨B.toArray⟩, .int .i64 (y : Int)] 32)) (.cells #[.bool false, .string ⟨#[]⟩, .int .i64 0] 32)
      rw [size_alloc, size_alloc] at h
      exact h
    · rw [size_alloc, size_alloc, size_alloc]
  clear hw1
  replace hG := Lib.hid hG
  replace s1 := Lib.hid s1
  replace B1 := Lib.hid B1
  obtain ⟨c0, c1, c2, f0, f1, f2⟩ := blk3 b1
  obtain ⟨d0, d1, d2, g0, g1, g2⟩ := blk3 b2
  go_wp2_with fail
  refine (kc1.out _).mono ?_
  rintro e1 w2 ⟨rfl, B2⟩
  replace b1 := blk_below b1 B2
  replace b2 := blk_below b2 B2
  replace b3 := blk_below b3 B2
  have s2 := Lib.hid (Nat.le_trans (Nat.le_of_eq s1.out.symm) B2.size)
  replace B2 := Lib.hid (below_then B1.out B1.out.size B2)
  clear c0 c1 c2 f0 f1 f2 d0 d1 d2 g0 g1 g2 B1
  obtain ⟨c0, c1, c2, f0, f1, f2⟩ := blk3 b1
  obtain ⟨d0, d1, d2, g0, g1, g2⟩ := blk3 b2
  go_wp2_with fail
  refine (kc2.out _).mono ?_
  rintro e1 w3 ⟨rfl, B3⟩
  replace b1 := blk_below b1 B3
  replace b2 := blk_below b2 B3
  replace b3 := blk_below b3 B3
  have s3 := Lib.hid (Nat.le_trans s2.out B3.size)
  replace B3 := Lib.hid (below_then B2.out B2.out.size B3)
  clear c0 c1 c2 f0 f1 f2 d0 d1 d2 g0 g1 g2 B2
  obtain ⟨c0, c1, c2, f0, f1, f2⟩ := blk3 b1
  obtain ⟨d0, d1, d2, g0, g1, g2⟩ := blk3 b2
  go_wp2_with fail
  refine (kl.out _).mono ?_
  rintro e1 w4 ⟨rfl, B4⟩
  replace b1 := blk_below b1 B4
  replace b2 := blk_below b2 B4
  replace b3 := blk_below b3 B4
  have s4 := Lib.hid (Nat.le_trans s3.out B4.size)
  replace B4 := Lib.hid (below_then B3.out B3.out.size B4)
  clear c0 c1 c2 f0 f1 f2 d0 d1 d2 g0 g1 g2 B3
  obtain ⟨c0, c1, c2, f0, f1, f2⟩ := blk3 b1
  obtain ⟨d0, d1, d2, g0, g1, g2⟩ := blk3 b2
  go_wp2_with fail
  go_quiet (fail)
  go_wp2_with fail
  generalize hw5 : World.alloc _ _ = w5
  obtain ⟨G5, hG5⟩ : ∃ G5, w4.heap.size = G5 := ⟨_, rfl⟩
  rw [hG5]
  obtain ⟨HA0, b3', B5⟩ : ArrB w5 G5 842 [] ∧ w5.heap[G + 1 + 1]? = some (.cells #[.bool false, .string ⟨#[]⟩, .int .i64 0] 32 (0, 0)) ∧ Below w.heap.size w w5 := by
    subst hw5 hG5
    exact ⟨arr_new (w4.drewN _), blk_alloc (blk_drewN b3 _) _, below_alloc (pw_below_drewN B4.out _) _⟩
  clear hw5 c0 c1 c2 f0 f1 f2 d0 d1 d2 g0 g1 g2 b1 b2 b3 B4
  rw [hG5] at s4
  clear hG5 s1 s2 s3
  replace HA0 := Lib.hid HA0
  replace b3' := Lib.hid b3'
  replace B5 := Lib.hid B5
  go_step3
  go_wp2_with fail
  go_loopw [12, 13, 14] (fun v12 v13 v14 w' => ∃ (k : Nat) (c i : Int) (r : List UInt8) (W : World), v12 = .int .i64 (k : Int) ∧ v13 = .int .i64 c ∧ v14 = .int .i64 i ∧ W = w' ∧ Hid (ArrB W G5 k r) ∧ Hid (SumSt Q0 P0 (-1) L i c r) ∧ Hid (W.heap[G + 1 + 1]? = some (.cells #[.bool false, .string ⟨#[]⟩, .int .i64 0] 32 (0, 0))) ∧ Hid (Below w.heap.size w W)) (fun _ _ v14 _ => (intOf v14 + 2).toNat)
  case atStart => exact ⟨842, 0, (L : Int) - 1, [], _, rfl, rfl, rfl, rfl, HA0, hst, b3', B5⟩
  case round =>
    obtain ⟨k, c, i, r, W, rfl, rfl, rfl, rfl, HA, HS, Hb, HB⟩ := hrel
    clear HA0 hst b3' B5
    obtain ⟨i1, i2, i3, i4, i5, i6, i7⟩ := sum_i HS.out
    have hkr : k + r.length = 842 := by obtain ⟨_, _, _, _, h, _⟩ := HA.out; exact h
    have hcb := i5 (by omega)
    by_cases hi : 0 ≤ i
    · obtain ⟨j, rfl⟩ : ∃ j : Nat, i = (j : Int) := ⟨i.toNat, by omega⟩
      have hjL : j < L := by omega
      obtain ⟨x1, hx1, gx⟩ := sum_idx Q0 j (by rw [lq.out]; exact hjL)
      obtain ⟨y1, hy1, gy⟩ := sum_idx P0 j (by rw [lp.out]; exact hjL)
      obtain ⟨d, c', hd, HS', hc⟩ := sum_step Q0 P0 r (-1) L j c x1 y1 (by omega) lq.out lp.out HS.out hx1 hy1 hq.out hp.out
      have hxb := hq.out x1 (List.mem_of_getElem? hx1)
      have hyb := hp.out y1 (List.mem_of_getElem? hy1)
      have hdx : (dv x1 : Int) = (x1.toNat : Int) - 48 := by unfold dv; omega
      have hdy : (dv y1 : Int) = (y1.toNat : Int) - 48 := by unfold dv; omega
      rw [hdx, hdy] at hc
      have hrl := i4 (by omega)
      obtain ⟨k0, rfl⟩ : ∃ k0, k = k0 + 1 := ⟨k - 1, by omega⟩
      have hk0 : k0 < 842 := by omega
      obtain ⟨⟨x0, hc0⟩, hfz⟩ := HA.out.cell k0 hk0
      have hcc := sum_c HS.out
      clear hdx hdy hx1 hy1 i3 i4 i5 i6 i7 hi HS
      replace hkr := Lib.hid hkr
      replace HS' := Lib.hid HS'
      obtain ⟨hxb0, hxb1⟩ := hxb
      obtain ⟨hyb0, hyb1⟩ := hyb
      obtain ⟨hcb0, hcb1⟩ := hcb
      have hcc1 : c ≤ 0 := by omega
      clear hcc
      have hdn := ofNat_dig d hd
      obtain ⟨dc, hdc⟩ : ∃ dc, UInt8.ofNat (48 + d) = dc := ⟨_, rfl⟩
      rw [hdc] at hdn HS'
      clear hdc
      replace hdn := Lib.hid hdn
      rcases hc with ⟨h1, h2, rfl⟩ | ⟨h1, h2, rfl⟩ | ⟨h0, h1, h2, rfl⟩
      · go_wp2_with fail
        go_quiet (fail)
        go_wp2_with fail
        go_roundw
        case rel =>
          refine ⟨k0, _, (j : Int) - 1, dc :: r, _, rfl, rfl, rfl, rfl, Lib.hid (ArrB.put (HA.out.far _) dc _ ?_ hk0), HS', Lib.hid (blk_far (blk_drewN Hb.out _) ?_ _), Lib.hid (below_set (pw_below_drewN HB.out _) ?_)⟩
          · have := hdn.out; omega
          · have := s4.out
            show ¬ G + 1 + 1 = G5
            omega
          · have := s4.out
            have := hG.out
            show w.heap.size ≤ G5
            omega
        case measure =>
          show ((j : Int) - 1 + 2).toNat < ((j : Int) + 2).toNat
          omega
      · exfalso; omega
      · go_wp2_with fail
        go_quiet (fail)
        go_wp2_with fail
        go_roundw
        case rel =>
          refine ⟨k0, _, (j : Int) - 1, dc :: r, _, rfl, rfl, rfl, rfl, Lib.hid (ArrB.put (HA.out.far _) dc _ ?_ hk0), HS', Lib.hid (blk_far (blk_drewN Hb.out _) ?_ _), Lib.hid (below_set (pw_below_drewN HB.out _) ?_)⟩
          · have := hdn.out; omega
          · have := s4.out
            show ¬ G + 1 + 1 = G5
            omega
          · have := s4.out
            have := hG.out
            show w.heap.size ≤ G5
            omega
        case measure =>
          show ((j : Int) - 1 + 2).toNat < ((j : Int) + 2).toNat
          omega
    · by_cases hc0 : c = 0
      · subst hc0
        obtain ⟨hr, hrl, hV⟩ := sum_done Q0 P0 r (-1) L i (by omega) HS.out
        have hr1 : 1 ≤ r.length := by
          obtain ⟨_, ⟨q, q1, q2, q3, _⟩ | ⟨_, _, q3, _⟩⟩ := HS.out <;> omega
        have hk1 : k < 842 := by omega
        have hlen : r.length = 842 - k := by omega
        have hR := HA.out.reads
        rw [hlen] at hR
        have hcv : ∀ c, (convert 65 9 (.slice (some ⟨G5, k, none⟩) (842 - k) c)).run Tryz.prog W = .ok (.string ⟨r.toArray⟩) W := fun c => by
          rw [string_of_reads (e := 5) Tryz.underlying65 Tryz.underlying5 Tryz.underlying9 hR, strOf_bytes]
        have hcv1 := hcv (842 - k)
        have hsl := fun w' => slice842 G5 k hk1 w'
        have km1 := Lib.hid (km.out r hr (by omega) hV)
        clear hcv i1 i2 i3 i4 i5 i6 i7
        replace hlen := Lib.hid hlen
        replace hkr := Lib.hid hkr
        replace hR := Lib.hid hR
        replace hrl := Lib.hid hrl
        replace hr1 := Lib.hid hr1
        replace hr := Lib.hid hr
        replace hV := Lib.hid hV
        go_wp2_with fail
        refine (km1.out _).mono ?_
        rintro e1 w6 ⟨rfl, B6⟩
        have b6 := blk_below Hb.out B6
        have B7 := below_then HB.out HB.out.size B6
        clear B6
        obtain ⟨c0, c1, c2, f0, f1, f2⟩ := blk3 b6
        replace b6 := Lib.hid b6
        replace B7 := Lib.hid B7
        go_wp2_with fail
        generalize hw3 : World.setCell _ _ _ = w7
        have b7 : w7.heap[G + 1 + 1]? = some (.cells #[.bool nt, .string ⟨D.toArray⟩, .int .i64 (z : Int)] 32 (0, 0)) := by
          subst hw3
          exact blk_put (blk_put (cs' := #[.bool nt, .string ⟨D.toArray⟩, .int .i64 0]) (blk_put (cs' := #[.bool nt, .string ⟨#[]⟩, .int .i64 0]) b6.out 0 _ rfl) 1 _ rfl) 2 _ rfl
        have B8 : Below w.heap.size w w7 := by
          subst hw3
          have hg := hG.out
          exact below_set (below_set (below_set B7.out (by omega)) (by omega)) (by omega)
        obtain ⟨z0, z1, z2, _, _, _⟩ := blk3 b7
        clear hw3
        rw [Exit.noGoto_ret]
        exact bodyPost_ret (v := .tuple #[.agg #[.bool nt, .string ⟨D.toArray⟩, .int .i64 (z : Int)], .int .i64 0]) (by simp [results, Tryz.results80, go_sem, z0, z1, z2]) rfl ⟨rfl, B8⟩
      · obtain ⟨rfl, rfl, HS'⟩ := sum_over Q0 P0 r (-1) L i c (by omega) hc0 (.inr ⟨rfl, hle.out⟩) HS.out
        obtain ⟨k0, rfl⟩ : ∃ k0, k = k0 + 1 := ⟨k - 1, by omega⟩
        have hk0 : k0 < 842 := by omega
        obtain ⟨⟨x0, hc0⟩, hfz⟩ := HA.out.cell k0 hk0
        clear i1 i2 i3 i4 i5 i6 i7 hi HS hcb
        replace hkr := Lib.hid hkr
        replace HS' := Lib.hid HS'
        go_wp2_with fail
        go_roundw
        case rel =>
          refine ⟨k0, _, -2, UInt8.ofNat (48 + 1) :: r, _, rfl, rfl, rfl, rfl, Lib.hid (ArrB.put HA.out (UInt8.ofNat (48 + 1)) _ ?_ hk0), HS', Lib.hid (blk_far Hb.out ?_ _), Lib.hid (below_set HB.out ?_)⟩
          · rfl
          · have := s4.out
            show ¬ G + 1 + 1 = G5
            omega
          · have := s4.out
            have := hG.out
            show w.heap.size ≤ G5
            omega
        case measure => decide
set_option maxHeartbeats 3200000 in
set_option maxRecDepth 100000 in
theorem add_geq (na nb nt : Bool) (A B D : List UInt8) (x y z e L : Nat) (P0 Q0 : List UInt8)
    (kc1 : ∀ w, Calls Tryz.prog 90 #[.agg #[.bool na, .string ⟨A.toArray⟩, .int .i64 (x : Int)]] w fun e w' => e = .returned (.int .i64 0) ∧ Below w.heap.size w w')
    (kc2 : ∀ w, Calls Tryz.prog 90 #[.agg #[.bool nb, .string ⟨B.toArray⟩, .int .i64 (y : Int)]] w fun e w' => e = .returned (.int .i64 0) ∧ Below w.heap.size w w')
    (kl : ∀ w, Calls Tryz.prog 114 #[.agg #[.bool na, .string ⟨A.toArray⟩, .int .i64 (x : Int)], .agg #[.bool nb, .string ⟨B.toArray⟩, .int .i64 (y : Int)]] w fun r w' => r = .returned (.tuple #[.string ⟨P0.toArray⟩, .string ⟨Q0.toArray⟩, .int .i64 (e : Int)]) ∧ Below w.heap.size w w')
    (hp : isD P0) (hq : isD Q0) (lp : P0.length = L) (lq : Q0.length = L) (hL : L ≤ 30) (hL1 : 1 ≤ L)
    (hn : (na == nb) = false) (hlt : Op.bytesLess P0 Q0 = false) (hle : Hid (val Q0 ≤ val P0))
    (km : ∀ r : List UInt8, isD r → r.length ≤ 31 → (val P0 : Int) + (-1) * (val Q0 : Int) = (val r : Int) → ∀ w, Calls Tryz.prog 115 #[.bool na, .string ⟨r.toArray⟩, .int .i64 (e : Int)] w fun r w' => r = .returned (.tuple #[.agg #[.bool nt, .string ⟨D.toArray⟩, .int .i64 (z : Int)], .int .i64 0]) ∧ Below w.heap.size w w') (w : World) :
    Calls Tryz.prog 80 #[.agg #[.bool na, .string ⟨A.toArray⟩, .int .i64 (x : Int)], .agg #[.bool nb, .string ⟨B.toArray⟩, .int .i64 (y : Int)]] w fun r w' => r = .returned (.tuple #[.agg #[.bool nt, .string ⟨D.toArray⟩, .int .i64 (z : Int)], .int .i64 0]) ∧ Below w.heap.size w w' := by
  have sP := ba_size P0
  have sQ := ba_size Q0
  rw [lp] at sP
  rw [lq] at sQ
  replace kc1 := Lib.hid kc1
  replace kc2 := Lib.hid kc2
  replace kl := Lib.hid kl
  replace km := Lib.hid km
  replace hp := Lib.hid hp
  replace hq := Lib.hid hq
  replace lp := Lib.hid lp
  replace lq := Lib.hid lq
  have hst := Lib.hid (sum_start P0 Q0 (-1) L lp.out lq.out)
  go_enter Tryz.func80, Tryz.ntmps80
  obtain ⟨G, hG⟩ : ∃ G, w.heap.size = G := ⟨_, rfl⟩
  go_wp2_with fail
  go_step3
  generalize hw1 : World.alloc _ _ = w1
  obtain ⟨b1, b2, b3, B1, s1⟩ : w1.heap[G]? = some (.cells #[.bool na, .string ⟨A.toArray⟩, .int .i64 (x : Int)] 32 (0, 0)) ∧ w1.heap[G + 1]? = some (.cells #[.bool nb, .string ⟨B.toArray⟩, .int .i64 (y : Int)] 32 (0, 0)) ∧ w1.heap[G + 1 + 1]? = some (.cells #[.bool false, .string ⟨#[]⟩, .int .i64 0] 32 (0, 0)) ∧ Below w.heap.size w w1 ∧ w1.heap.size = G + 1 + 1 + 1 := by
    subst hw1 hG
    refine ⟨blk_alloc (blk_alloc (heap_alloc_new _ _) _) _, blk_alloc (alloc2 _ _ _) _, ?_, below_alloc (below_alloc (below_alloc (Below.refl _ _) _) _) _, ?_⟩
    · have h := heap_alloc_new ((w.alloc (.cells #[.bool na, .string ⟨A.toArray⟩, .int .i64 (x : Int)] 32)).alloc (.cells #[.bool nb, .string ⟨B.toArray⟩, .int .i64 (y : Int)] 32)) (.cells #[.bool false, .string ⟨#[]⟩, .int .i64 0] 32)
      rw [size_alloc, size_alloc] at h
      exact h
    · rw [size_alloc, size_alloc, size_alloc]
  clear hw1
  replace hG := Lib.hid hG
  replace s1 := Lib.hid s1
  replace B1 := Lib.hid B1
  obtain ⟨c0, c1, c2, f0, f1, f2⟩ := blk3 b1
  obtain ⟨d0, d1, d2, g0, g1, g2⟩ := blk3 b2
  go_wp2_with fail
  refine (kc1.out _).mono ?_
  rintro e1 w2 ⟨rfl, B2⟩
  replace b1 := blk_below b1 B2
  replace b2 := blk_below b2 B2
  replace b3 := blk_below b3 B2
  have s2 := Lib.hid (Nat.le_trans (Nat.le_of_eq s1.out.symm) B2.size)
  replace B2 := Lib.hid (below_then B1.out B1.out.size B2)
  clear c0 c1 c2 f0 f1 f2 d0 d1 d2 g0 g1 g2 B1
  obtain ⟨c0, c1, c2, f0, f1, f2⟩ := blk3 b1
  obtain ⟨d0, d1, d2, g0, g1, g2⟩ := blk3 b2
  go_wp2_with fail
  refine (kc2.out _).mono ?_
  rintro e1 w3 ⟨rfl, B3⟩
  replace b1 := blk_below b1 B3
  replace b2 := blk_below b2 B3
  replace b3 := blk_below b3 B3
  have s3 := Lib.hid (Nat.le_trans s2.out B3.size)
  replace B3 := Lib.hid (below_then B2.out B2.out.size B3)
  clear c0 c1 c2 f0 f1 f2 d0 d1 d2 g0 g1 g2 B2
  obtain ⟨c0, c1, c2, f0, f1, f2⟩ := blk3 b1
  obtain ⟨d0, d1, d2, g0, g1, g2⟩ := blk3 b2
  go_wp2_with fail
  refine (kl.out _).mono ?_
  rintro e1 w4 ⟨rfl, B4⟩
  replace b1 := blk_below b1 B4
  replace b2 := blk_below b2 B4
  replace b3 := blk_below b3 B4
  have s4 := Lib.hid (Nat.le_trans s3.out B4.size)
  replace B4 := Lib.hid (below_then B3.out B3.out.size B4)
  clear c0 c1 c2 f0 f1 f2 d0 d1 d2 g0 g1 g2 B3
  obtain ⟨c0, c1, c2, f0, f1, f2⟩ := blk3 b1
  obtain ⟨d0, d1, d2, g0, g1, g2⟩ := blk3 b2
  go_wp2_with fail
  generalize hw5 : World.alloc _ _ = w5
  obtain ⟨G5, hG5⟩ : ∃ G5, w4.heap.size = G5 := ⟨_, rfl⟩
  rw [hG5]
  obtain ⟨HA0, b3', B5⟩ : ArrB w5 G5 842 [] ∧ w5.heap[G + 1 + 1]? = some (.cells #[.bool false, .string ⟨#[]⟩, .int .i64 0] 32 (0, 0)) ∧ Below w.heap.size w w5 := by
    subst hw5 hG5
    exact ⟨arr_new w4, blk_alloc b3 _, below_alloc B4.out _⟩
  clear hw5 c0 c1 c2 f0 f1 f2 d0 d1 d2 g0 g1 g2 b1 b2 b3 B4
  rw [hG5] at s4
  clear hG5 s1 s2 s3
  replace HA0 := Lib.hid HA0
  replace b3' := Lib.hid b3'
  replace B5 := Lib.hid B5
  go_step3
  go_wp2_with fail
  go_loopw [12, 13, 14] (fun v12 v13 v14 w' => ∃ (k : Nat) (c i : Int) (r : List UInt8) (W : World), v12 = .int .i64 (k : Int) ∧ v13 = .int .i64 c ∧ v14 = .int .i64 i ∧ W = w' ∧ Hid (ArrB W G5 k r) ∧ Hid (SumSt P0 Q0 (-1) L i c r) ∧ Hid (W.heap[G + 1 + 1]? = some (.cells #[.bool false, .string ⟨#[]⟩, .int .i64 0] 32 (0, 0))) ∧ Hid (Below w.heap.size w W)) (fun _ _ v14 _ => (intOf v14 + 2).toNat)
  case atStart => exact ⟨842, 0, (L : Int) - 1, [], _, rfl, rfl, rfl, rfl, HA0, hst, b3', B5⟩
  case round =>
    obtain ⟨k, c, i, r, W, rfl, rfl, rfl, rfl, HA, HS, Hb, HB⟩ := hrel
    clear HA0 hst b3' B5
    obtain ⟨i1, i2, i3, i4, i5, i6, i7⟩ := sum_i HS.out
    have hkr : k + r.length = 842 := by obtain ⟨_, _, _, _, h, _⟩ := HA.out; exact h
    have hcb := i5 (by omega)
    by_cases hi : 0 ≤ i
    · obtain ⟨j, rfl⟩ : ∃ j : Nat, i = (j : Int) := ⟨i.toNat, by omega⟩
      have hjL : j < L := by omega
      obtain ⟨x1, hx1, gx⟩ := sum_idx P0 j (by rw [lp.out]; exact hjL)
      obtain ⟨y1, hy1, gy⟩ := sum_idx Q0 j (by rw [lq.out]; exact hjL)
      obtain ⟨d, c', hd, HS', hc⟩ := sum_step P0 Q0 r (-1) L j c x1 y1 (by omega) lp.out lq.out HS.out hx1 hy1 hp.out hq.out
      have hxb := hp.out x1 (List.mem_of_getElem? hx1)
      have hyb := hq.out y1 (List.mem_of_getElem? hy1)
      have hdx : (dv x1 : Int) = (x1.toNat : Int) - 48 := by unfold dv; omega
      have hdy : (dv y1 : Int) = (y1.toNat : Int) - 48 := by unfold dv; omega
      rw [hdx, hdy] at hc
      have hrl := i4 (by omega)
      obtain ⟨k0, rfl⟩ : ∃ k0, k = k0 + 1 := ⟨k - 1, by omega⟩
      have hk0 : k0 < 842 := by omega
      obtain ⟨⟨x0, hc0⟩, hfz⟩ := HA.out.cell k0 hk0
      have hcc := sum_c HS.out
      clear hdx hdy hx1 hy1 i3 i4 i5 i6 i7 hi HS
      replace hkr := Lib.hid hkr
      replace HS' := Lib.hid HS'
      obtain ⟨hxb0, hxb1⟩ := hxb
      obtain ⟨hyb0, hyb1⟩ := hyb
      obtain ⟨hcb0, hcb1⟩ := hcb
      have hcc1 : c ≤ 0 := by omega
      clear hcc
      have hdn := ofNat_dig d hd
      obtain ⟨dc, hdc⟩ : ∃ dc, UInt8.ofNat (48 + d) = dc := ⟨_, rfl⟩
      rw [hdc] at hdn HS'
      clear hdc
      replace hdn := Lib.hid hdn
      rcases hc with ⟨h1, h2, rfl⟩ | ⟨h1, h2, rfl⟩ | ⟨h0, h1, h2, rfl⟩
      · go_wp2_with fail
        go_quiet (fail)
        go_wp2_with fail
        go_roundw
        case rel =>
          refine ⟨k0, _, (j : Int) - 1, dc :: r, _, rfl, rfl, rfl, rfl, Lib.hid (ArrB.put (HA.out.far _) dc _ ?_ hk0), HS', Lib.hid (blk_far (blk_drewN Hb.out _) ?_ _), Lib.hid (below_set (pw_below_drewN HB.out _) ?_)⟩
          · have := hdn.out; omega
          · have := s4.out
            show ¬ G + 1 + 1 = G5
            omega
          · have := s4.out
            have := hG.out
            show w.heap.size ≤ G5
            omega
        case measure =>
          show ((j : Int) - 1 + 2).toNat < ((j : Int) + 2).toNat
          omega
      · exfalso; omega
      · go_wp2_with fail
        go_quiet (fail)
        go_wp2_with fail
        go_roundw
        case rel =>
          refine ⟨k0, _, (j : Int) - 1, dc :: r, _, rfl, rfl, rfl, rfl, Lib.hid (ArrB.put (HA.out.far _) dc _ ?_ hk0), HS', Lib.hid (blk_far (blk_drewN Hb.out _) ?_ _), Lib.hid (below_set (pw_below_drewN HB.out _) ?_)⟩
          · have := hdn.out; omega
          · have := s4.out
            show ¬ G + 1 + 1 = G5
            omega
          · have := s4.out
            have := hG.out
            show w.heap.size ≤ G5
            omega
        case measure =>
          show ((j : Int) - 1 + 2).toNat < ((j : Int) + 2).toNat
          omega
    · by_cases hc0 : c = 0
      · subst hc0
        obtain ⟨hr, hrl, hV⟩ := sum_done P0 Q0 r (-1) L i (by omega) HS.out
        have hr1 : 1 ≤ r.length := by
          obtain ⟨_, ⟨q, q1, q2, q3, _⟩ | ⟨_, _, q3, _⟩⟩ := HS.out <;> omega
        have hk1 : k < 842 := by omega
        have hlen : r.length = 842 - k := by omega
        have hR := HA.out.reads
        rw [hlen] at hR
        have hcv : ∀ c, (convert 65 9 (.slice (some ⟨G5, k, none⟩) (842 - k) c)).run Tryz.prog W = .ok (.string ⟨r.toArray⟩) W := fun c => by
          rw [string_of_reads (e := 5) Tryz.underlying65 Tryz.underlying5 Tryz.underlying9 hR, strOf_bytes]
        have hcv1 := hcv (842 - k)
        have hsl := fun w' => slice842 G5 k hk1 w'
        have km1 := Lib.hid (km.out r hr (by omega) hV)
        clear hcv i1 i2 i3 i4 i5 i6 i7
        replace hlen := Lib.hid hlen
        replace hkr := Lib.hid hkr
        replace hR := Lib.hid hR
        replace hrl := Lib.hid hrl
        replace hr1 := Lib.hid hr1
        replace hr := Lib.hid hr
        replace hV := Lib.hid hV
        go_wp2_with fail
        refine (km1.out _).mono ?_
        rintro e1 w6 ⟨rfl, B6⟩
        have b6 := blk_below Hb.out B6
        have B7 := below_then HB.out HB.out.size B6
        clear B6
        obtain ⟨c0, c1, c2, f0, f1, f2⟩ := blk3 b6
        replace b6 := Lib.hid b6
        replace B7 := Lib.hid B7
        go_wp2_with fail
        generalize hw3 : World.setCell _ _ _ = w7
        have b7 : w7.heap[G + 1 + 1]? = some (.cells #[.bool nt, .string ⟨D.toArray⟩, .int .i64 (z : Int)] 32 (0, 0)) := by
          subst hw3
          exact blk_put (blk_put (cs' := #[.bool nt, .string ⟨D.toArray⟩, .int .i64 0]) (blk_put (cs' := #[.bool nt, .string ⟨#[]⟩, .int .i64 0]) b6.out 0 _ rfl) 1 _ rfl) 2 _ rfl
        have B8 : Below w.heap.size w w7 := by
          subst hw3
          have hg := hG.out
          exact below_set (below_set (below_set B7.out (by omega)) (by omega)) (by omega)
        obtain ⟨z0, z1, z2, _, _, _⟩ := blk3 b7
        clear hw3
        rw [Exit.noGoto_ret]
        exact bodyPost_ret (v := .tuple #[.agg #[.bool nt, .string ⟨D.toArray⟩, .int .i64 (z : Int)], .int .i64 0]) (by simp [results, Tryz.results80, go_sem, z0, z1, z2]) rfl ⟨rfl, B8⟩
      · obtain ⟨rfl, rfl, HS'⟩ := sum_over P0 Q0 r (-1) L i c (by omega) hc0 (.inr ⟨rfl, hle.out⟩) HS.out
        obtain ⟨k0, rfl⟩ : ∃ k0, k = k0 + 1 := ⟨k - 1, by omega⟩
        have hk0 : k0 < 842 := by omega
        obtain ⟨⟨x0, hc0⟩, hfz⟩ := HA.out.cell k0 hk0
        clear i1 i2 i3 i4 i5 i6 i7 hi HS hcb
        replace hkr := Lib.hid hkr
        replace HS' := Lib.hid HS'
        go_wp2_with fail
        go_roundw
        case rel =>
          refine ⟨k0, _, -2, UInt8.ofNat (48 + 1) :: r, _, rfl, rfl, rfl, rfl, Lib.hid (ArrB.put HA.out (UInt8.ofNat (48 + 1)) _ ?_ hk0), HS', Lib.hid (blk_far Hb.out ?_ _), Lib.hid (below_set HB.out ?_)⟩
          · rfl
          · have := s4.out
            show ¬ G + 1 + 1 = G5
            omega
          · have := s4.out
            have := hG.out
            show w.heap.size ≤ G5
            omega
        case measure => decide
theorem lv_len1 (a b : Int) (e : Nat) : 1 ≤ (lvP a b e).length := by
  unfold lvP lv0
  have h : 1 ≤ (ND a).length := by
    by_cases h0 : a = 0
    · subst h0; rw [ND_zero]; decide
    · exact List.length_pos_iff.2 (ND_head h0).2.2
  simp only [List.length_append]
  omega
theorem val_le_sum {P Q R : Nat} (h : (P : Int) + 1 * (Q : Int) = (R : Int)) : R = P + Q := by omega
theorem val_le_dif {P Q R : Nat} (h : (P : Int) + (-1) * (Q : Int) = (R : Int)) : R = P - Q := by omega
set_option maxRecDepth 100000 in
/-- num.Add. -/
theorem add_num (a b : Int) (ha : a.natAbs < 1000000000000000) (hb : b.natAbs < 1000000000000000) (hab : (a + b).natAbs < 1000000000000000) (w : World) :
    Calls Tryz.prog 80 #[numV a, numV b] w fun r w' => r = .returned (.tuple #[numV (a + b), .int .i64 0]) ∧ Below w.heap.size w w' := by
  have kc1 := fun w => check_num trimD a ha w
  have kc2 := fun w => check_num trimD b hb w
  have kl := fun w => level_any a b ha hb w
  obtain ⟨e, he⟩ : ∃ e, min (NE a) (NE b) = e := ⟨_, rfl⟩
  rw [he] at kl
  have hea : e ≤ NE a := by omega
  have heb : e ≤ NE b := by omega
  have hna := NE_lt a 15 ha (by decide)
  have va := lv_val a b e hea
  have vb := lv_val b a e heb
  have hp := lv_isD a b e
  have hq := lv_isD b a e
  have lp := lv_len a b e
  have lq : (lvP b a e).length = max (lv0 a e).length (lv0 b e).length := by rw [lv_len]; omega
  have hL : max (lv0 a e).length (lv0 b e).length ≤ 30 := by
    have := lv0_len a e ha
    have := lv0_len b e hb
    omega
  have hL1 : 1 ≤ max (lv0 a e).length (lv0 b e).length := by rw [← lp]; exact lv_len1 a b e
  have hls := lss_val (lvP a b e) (lvP b a e) hp hq (by rw [lp, lq])
  generalize max (lv0 a e).length (lv0 b e).length = L at *
  generalize lvP a b e = P0 at *
  generalize lvP b a e = Q0 at *
  have hmade : ∀ (neg : Bool) (r : List UInt8) (R : Nat), isD r → r.length ≤ 31 → val r = R → (a + b).natAbs = R * 10 ^ e → (R ≠ 0 → NB (a + b) = neg) → ∀ w, Calls Tryz.prog 115 #[.bool neg, .string ⟨r.toArray⟩, .int .i64 (e : Int)] w fun r w' => r = .returned (.tuple #[numV (a + b), .int .i64 0]) ∧ Below w.heap.size w w' := by
    intro neg r R hr hrl hv hab2 hn w
    refine made_num neg r e (a + b) hr (by omega) hab (by omega) ?_ ?_ w
    · intro h0
      rw [hv] at h0
      subst h0
      omega
    · intro h0
      rw [hv] at h0 ⊢
      obtain ⟨g1, g2⟩ := ND_of hab2 h0
      exact ⟨g1, g2, hn h0⟩
  clear he
  by_cases hn : NB a = NB b
  · obtain ⟨s1, s2⟩ := sum_same a b (val P0) (val Q0) e hn va vb
    have km : ∀ r : List UInt8, isD r → r.length ≤ 31 → (val P0 : Int) + 1 * (val Q0 : Int) = (val r : Int) → ∀ w, Calls Tryz.prog 115 #[.bool (NB a), .string ⟨r.toArray⟩, .int .i64 (e : Int)] w fun r w' => r = .returned (.tuple #[numV (a + b), .int .i64 0]) ∧ Below w.heap.size w w' :=
      fun r h1 h2 h3 => hmade (NB a) r (val P0 + val Q0) h1 h2 (val_le_sum h3) s1 s2
    unfold numV at kc1 kc2 kl km ⊢
    exact add_same _ _ _ _ _ _ _ _ _ e L P0 Q0 kc1 kc2 kl hp hq lp lq hL hL1 (beq_iff_eq.2 hn) km w
  · by_cases hlt : val P0 < val Q0
    · have hab3 : (b + a).natAbs = (a + b).natAbs := by rw [Int.add_comm]
      obtain ⟨s1, s2⟩ := sum_other b a (val Q0) (val P0) e (fun h => hn h.symm) (by omega) vb va
      rw [Int.add_comm b a] at s1 s2
      have km : ∀ r : List UInt8, isD r → r.length ≤ 31 → (val Q0 : Int) + (-1) * (val P0 : Int) = (val r : Int) → ∀ w, Calls Tryz.prog 115 #[.bool (NB b), .string ⟨r.toArray⟩, .int .i64 (e : Int)] w fun r w' => r = .returned (.tuple #[numV (a + b), .int .i64 0]) ∧ Below w.heap.size w w' :=
        fun r h1 h2 h3 => hmade (NB b) r (val Q0 - val P0) h1 h2 (val_le_dif h3) s1 s2
      unfold numV at kc1 kc2 kl km ⊢
      exact add_less _ _ _ _ _ _ _ _ _ e L P0 Q0 kc1 kc2 kl hp hq lp lq hL hL1 (beq_eq_false_iff_ne.2 hn) (by rw [hls]; exact decide_eq_true hlt) (Lib.hid (by omega)) km w
    · obtain ⟨s1, s2⟩ := sum_other a b (val P0) (val Q0) e hn (by omega) va vb
      have km : ∀ r : List UInt8, isD r → r.length ≤ 31 → (val P0 : Int) + (-1) * (val Q0 : Int) = (val r : Int) → ∀ w, Calls Tryz.prog 115 #[.bool (NB a), .string ⟨r.toArray⟩, .int .i64 (e : Int)] w fun r w' => r = .returned (.tuple #[numV (a + b), .int .i64 0]) ∧ Below w.heap.size w w' :=
        fun r h1 h2 h3 => hmade (NB a) r (val P0 - val Q0) h1 h2 (val_le_dif h3) s1 s2
      unfold numV at kc1 kc2 kl km ⊢
      exact add_geq _ _ _ _ _ _ _ _ _ e L P0 Q0 kc1 kc2 kl hp hq lp lq hL hL1 (beq_eq_false_iff_ne.2 hn) (by rw [hls]; exact decide_eq_false hlt) (Lib.hid (by omega)) km w
end Go.Proofs.YtcpgcjmamjjokaaGreatDoor
