/- num.made. -/
import Derived.Test.YtcpgcjmamjjokaaGreatDoorAd
namespace Go.Proofs.YtcpgcjmamjjokaaGreatDoor
open Go.RowKit Go.Proofs.YtcpgcjmamjjokaaGreatDoorW.PrintWords Go.Proofs.YtcpgcjmamjjokaaGreatDoorW.PrintMore
set_option linter.unusedVariables false
set_option linter.unusedSimpArgs false
set_option maxHeartbeats 1600000 in
set_option maxRecDepth 100000 in
theorem made_num (neg : Bool) (r : List UInt8) (e : Nat) (T : Int) (hr : isD r) (hlen : r.length ≤ 1000) (hT : T.natAbs < 1000000000000000) (he : e ≤ 100)
    (h0 : val r = 0 → T = 0) (h1 : val r ≠ 0 → ND T = dgs (cz (val r)).1 ∧ NE T = (cz (val r)).2 + e ∧ NB T = neg) (w : World) :
    Calls Tryz.prog 115 #[.bool neg, .string ⟨r.toArray⟩, .int .i64 (e : Int)] w fun e w' => e = .returned (.tuple #[numV T, .int .i64 0]) ∧ Below w.heap.size w w' := by
  have k1 := fun w => Tryz.strings_TrimLeft_one ⟨r.toArray⟩ 48 (by decide) w
  rw [show Lib.trimLeftB (⟨r.toArray⟩ : ByteArray).data.toList 48 = tl r by simp [Lib.trimLeftB, tl], tl_val r hr] at k1
  have kc := fun w => check_num trimD T hT w
  have hdl : (dgs (val r)).length ≤ r.length := by rw [← tl_val r hr]; unfold tl; exact (List.dropWhile_suffix _).length_le
  unfold numV at kc ⊢
  generalize val r = V at *
  by_cases hV : V = 0
  · subst hV
    have hT0 := h0 rfl
    subst hT0
    rw [ND_zero, NE_zero]
    rw [dgs_zero] at k1
    replace k1 := Lib.hid k1
    clear h0 h1 kc
    go_enter Tryz.func115, Tryz.ntmps115
    go_wp2_with fail
    refine (k1.out _).mono ?_
    rintro e1 w1 ⟨rfl, rfl⟩
    go_wp2_with fail
    exact bodyPost_ret (v := .tuple #[.agg #[.bool false, .string ⟨#[48]⟩, .int .i64 0], .int .i64 0]) (by simp [results, Tryz.results115, go_sem]) rfl ⟨rfl, below_alloc (Below.refl _ _) _⟩
  · obtain ⟨hND, hNE, hNB⟩ := h1 hV
    obtain ⟨t1, t2⟩ := tr_dgs V hV
    have hne := dgs_ne hV
    have k2 := fun w => Tryz.strings_TrimRight_one ⟨(dgs V).toArray⟩ 48 (by decide) w (by show (dgs V).toArray.size ≤ _; simp; omega)
    rw [show Lib.trimRightB (⟨(dgs V).toArray⟩ : ByteArray).data.toList 48 = tr (dgs V) by simp [Lib.trimRightB, tr], t1, ← hND] at k2
    rw [← hND] at t2
    rw [hNB] at kc ⊢
    have hexp : (e : Int) + ((dgs V).length : Int) - ((ND T).length : Int) = (NE T : Int) := by omega
    have hNEl := NE_lt T 15 hT (by decide)
    have hNDl := ND_len T 15 hT (by decide)
    clear h0 h1 hND t1 hNE hNB
    generalize dgs V = D at *
    generalize ND T = S at *
    generalize NE T = X at *
    cases D with
    | nil => exact absurd rfl hne
    | cons c ys =>
      have hs1 : (⟨(c :: ys).toArray⟩ : ByteArray).size = ys.length + 1 := by
        show (c :: ys).toArray.size = _
        simp
      have hs2 : (⟨S.toArray⟩ : ByteArray).size = S.length := by
        show S.toArray.size = _
        simp
      have hyl : ys.length + 1 ≤ 1000 := by simpa using Nat.le_trans hdl hlen
      have hexp2 : (e : Int) + ((ys.length : Int) + 1) - (S.length : Int) = (X : Int) := by simpa using hexp
      clear hexp
      replace k1 := Lib.hid k1
      replace k2 := Lib.hid k2
      replace kc := Lib.hid kc
      replace t2 := Lib.hid t2
      go_enter Tryz.func115, Tryz.ntmps115
      go_wp2_with fail
      refine (k1.out _).mono ?_
      rintro e1 w1 ⟨rfl, rfl⟩
      go_wp2_with fail
      refine (k2.out _).mono ?_
      rintro e1 w1 ⟨rfl, rfl⟩
      obtain ⟨G, hG⟩ : ∃ G, w.heap.size = G := ⟨_, rfl⟩
      go_wp2_with fail
      generalize hw1 : World.alloc _ _ = w1
      obtain ⟨b1, b2, B1⟩ : w1.heap[G]? = some (.cells #[.bool false, .string ⟨#[]⟩, .int .i64 0] 32 (0, 0)) ∧ w1.heap[G + 1]? = some (.cells #[.bool neg, .string ⟨S.toArray⟩, .int .i64 (X : Int)] 32 (0, 0)) ∧ Below w.heap.size w w1 := by
        subst hw1 hG
        exact ⟨blk_alloc (heap_alloc_new _ _) _, alloc2 _ _ _, below_alloc (below_alloc (Below.refl _ _) _) _⟩
      clear hw1
      refine (kc.out _).mono ?_
      rintro e1 w2 ⟨rfl, B2⟩
      have b1' := blk_below b1 B2
      have b2' := blk_below b2 B2
      have B3 := below_then B1 B1.size B2
      clear b1 b2 B1 B2
      obtain ⟨c0, c1, c2, f0, f1, f2⟩ := blk3 b1'
      obtain ⟨d0, d1, d2, g0, g1, g2⟩ := blk3 b2'
      replace b1' := Lib.hid b1'
      replace b2' := Lib.hid b2'
      replace B3 := Lib.hid B3
      replace hG := Lib.hid hG
      go_wp2_with fail
      generalize hw3 : World.setCell _ _ _ = w3
      have b3 : w3.heap[G]? = some (.cells #[.bool neg, .string ⟨S.toArray⟩, .int .i64 (X : Int)] 32 (0, 0)) := by
        subst hw3
        exact blk_put (blk_put (cs' := #[.bool neg, .string ⟨S.toArray⟩, .int .i64 0]) (blk_put (cs' := #[.bool neg, .string ⟨#[]⟩, .int .i64 0]) b1'.out 0 _ rfl) 1 _ rfl) 2 _ rfl
      have B4 : Below w.heap.size w w3 := by
        subst hw3
        have hg := hG.out
        exact below_set (below_set (below_set B3.out (by omega)) (by omega)) (by omega)
      obtain ⟨z0, z1, z2, _, _, _⟩ := blk3 b3
      clear hw3
      exact bodyPost_ret (v := .tuple #[.agg #[.bool neg, .string ⟨S.toArray⟩, .int .i64 (X : Int)], .int .i64 0]) (by simp [results, Tryz.results115, go_sem, z0, z1, z2]) rfl ⟨rfl, B4⟩
end Go.Proofs.YtcpgcjmamjjokaaGreatDoor
