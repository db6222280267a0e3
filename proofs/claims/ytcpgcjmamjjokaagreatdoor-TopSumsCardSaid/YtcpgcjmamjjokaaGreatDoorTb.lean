/- The law's fed and tells. -/
import Derived.Test.YtcpgcjmamjjokaaGreatDoorTa
namespace Go.Proofs.YtcpgcjmamjjokaaGreatDoor
open Go.RowKit Go.Proofs.YtcpgcjmamjjokaaGreatDoorW.PrintWords Go.Proofs.YtcpgcjmamjjokaaGreatDoorW.PrintMore
set_option linter.unusedVariables false
set_option linter.unusedSimpArgs false
set_option maxRecDepth 100000 in
theorem cut_nil (n : Int) (w : World) : Calls Tryz.prog 44 #[.slice none 0 0, .int .i64 0, .int .i64 0, .int .i64 n] w fun e w' => e = .returned (.int .i64 n) ∧ w = w' := by
  go_enter Tryz.func44, Tryz.ntmps44
  go_wp2_with fail
  go_ret
  exact ⟨rfl, rfl⟩
/-- The one event. -/
def oneEv : List Value := [.int .i64 3, .bool false, .bool false, .string ⟨#[49]⟩, .int .i64 0, .int .u64 0, .string ⟨#[]⟩]
def FedPost (w : World) (e : Ending) (w' : World) : Prop := ∃ h cp, e = .returned (.tuple #[.slice (some ⟨h, 0, none⟩) 1 cp, .bool true]) ∧ h < w'.heap.size ∧ (∀ j, j < 7 → w'.cell? ⟨h, j, none⟩ = oneEv[j]?) ∧ Below w.heap.size w w'
theorem news_one {w : World} {h : Nat} (hc : ∀ j, j < 7 → w.cell? ⟨h, j, none⟩ = oneEv[j]?) : ∀ j u, oneEv[j]? = some u → w.cell? ((⟨h, 0, none⟩ : Addr).add j) = some u := fun j u hu => by
  have hj : j < 7 := (List.getElem?_eq_some_iff.1 hu).1
  have hadd : (⟨h, 0, none⟩ : Addr).add j = ⟨h, j, none⟩ := by unfold Addr.add; split <;> simp_all
  rw [hadd, hc j hj, hu]
set_option maxHeartbeats 4000000 in
set_option maxRecDepth 100000 in
theorem fed_count (g : Nat) (w : World) (hrow : Evs 3 cK (fun _ => false) (fun _ => ⟨#[]⟩) (fun _ => 0) g 0 w) (hgl : g < w.heap.size) :
    Calls Tryz.prog 17 #[exV 11, .slice (some ⟨g, 0, none⟩) 3 3, .slice none 0 0] w (FedPost w) := by
  have hC := fun w => compile_ex 11 (.inr rfl) w
  have hNw := fun g cap B w h => New_ex 11 (.inr rfl) g cap B w h
  have hF := fun M C F g B w0 h1 h2 h3 h4 => feed_count M C F g 0 3 B w0 h1 (Nat.le_refl _) h2 h3 h4
  unfold exV at *
  obtain ⟨i0, hi, hz0, hz1, hz2⟩ := info_parts info47
  replace hC := Lib.hid hC
  replace hNw := Lib.hid hNw
  replace hF := Lib.hid hF
  replace hrow := Lib.hid hrow
  replace hi := Lib.hid hi
  replace hz0 := Lib.hid hz0
  replace hz1 := Lib.hid hz1
  replace hz2 := Lib.hid hz2
  go_enter Tryz.func17, Tryz.ntmps17
  obtain ⟨G, hG⟩ : ∃ G, w.heap.size = G := ⟨_, rfl⟩
  go_wp2_with fail
  generalize hw1 : World.alloc w _ = w1
  obtain ⟨b1, B1⟩ : w1.heap[G]? = some (.cells (exC 11) 38 (0, 0)) ∧ Below w.heap.size w w1 := by
    subst hw1 hG
    exact ⟨heap_alloc_new _ _, below_alloc (Below.refl _ _) _⟩
  clear hw1 b1
  replace hG := Lib.hid hG
  refine (hC.out _).mono ?_
  rintro e w2 ⟨g2, cap2, rfl, hg2, hN2, B2⟩
  replace B2 := below_then B1 B1.size B2
  clear B1
  replace B2 := Lib.hid B2
  go_wp2_with fail
  refine (hNw.out g2 cap2 _ w2 hN2).mono ?_
  rintro e w3 ⟨M, C, F, rfl, hM, B3⟩
  have hwM : w.heap.size ≤ C := Nat.le_trans B2.out.size hM.bc
  replace B3 := below_then B2.out B2.out.size B3
  clear hN2 B2 hg2
  have hrow3 : Evs 3 cK (fun _ => false) (fun _ => ⟨#[]⟩) (fun _ => 0) g 0 w3 := ⟨fun i hi j hj => (B3.cell (p := ⟨g, _, none⟩) hgl).trans (hrow.out.at_ i hi j hj)⟩
  have hcm := hM.cm
  have hmf := hM.mf
  have hfd := Lib.hid (hF.out M C F g _ w3 hM hrow3 (Nat.lt_of_lt_of_le hgl B3.size) (by omega))
  have hlC : C < w3.heap.size := blk_lt hM.c
  have hlM : M < w3.heap.size := blk_lt hM.m
  have hlF : F < w3.heap.size := blk_lt hM.f
  replace hM := Lib.hid hM
  replace B3 := Lib.hid B3
  replace hwM := Lib.hid hwM
  replace hcm := Lib.hid hcm
  replace hmf := Lib.hid hmf
  replace hrow3 := Lib.hid hrow3
  go_wp2_with fail
  go_loopw [12, 13, 14] (fun v12 v13 v14 w' => ∃ W : World, W = w' ∧ ((v12 = .slice none 0 0 ∧ v13 = .int .i64 0 ∧ v14 = .int .i64 0 ∧ W = w3) ∨ (∃ h cp, v12 = .slice (some ⟨h, 0, none⟩) 1 cp ∧ v13 = .int .i64 3 ∧ v14 = .int .i64 1 ∧ Hid (h < W.heap.size ∧ (∀ j, j < 7 → W.cell? ⟨h, j, none⟩ = oneEv[j]?) ∧ W.cell? ⟨C, 1, none⟩ = some (.bool true) ∧ (∃ k, W.heap[M]? = some (mB (.iface 125 (.pointer (some ⟨F, 0, none⟩))) (.pointer (some ⟨C, 0, none⟩)) (.slice none 0 0) k)) ∧ Below w.heap.size w W)))) (fun _ _ v14 _ => 2 - (intOf v14).toNat)
  case atStart => exact ⟨_, rfl, .inl ⟨rfl, rfl, rfl, rfl⟩⟩
  case round =>
    obtain ⟨W, rfl, ⟨rfl, rfl, rfl, rfl⟩ | ⟨h, cp, rfl, rfl, rfl, hf⟩⟩ := hrel
    · go_wp2_with fail
      refine (cut_nil _ _).mono ?_
      rintro e w4 ⟨rfl, rfl⟩
      go_wp2_with fail
      refine hfd.out.mono ?_
      rintro e w5 ⟨h, cp, rfl, hh, hl, hc, ⟨k, hMk⟩, hC1, hK⟩
      have B5 := hK.toBelow B3.out B3.out.size (fun i hi => by have h1 := hwM.out; have h2 := hcm.out; have h3 := hmf.out; rcases hi with h | h | h <;> omega)
      have hc' := Lib.hid hc
      have hall := Lib.hid (show h < w5.heap.size ∧ w5.cell? ⟨C, 1, none⟩ = some (.bool true) ∧ (∃ k, w5.heap[M]? = some (mB (.iface 125 (.pointer (some ⟨F, 0, none⟩))) (.pointer (some ⟨C, 0, none⟩)) (.slice none 0 0) k)) ∧ Below w.heap.size w w5 from ⟨hl, hC1, ⟨k, hMk⟩, B5⟩)
      have hCl : C < w5.heap.size := Nat.lt_of_lt_of_le hlC hK.size
      clear hc hMk hC1 hK B5 hh hl
      go_wp2_with (at_builtin; refine wpList_append_lies _ rfl _ _ 42 rfl w5.heap.size 47 i0 _ 7 72 Tryz.underlying42 hi.out hz0.out hz1.out hz2.out rfl (by omega) (.slice none 0 0) 0 [] (by rfl) (World.ownsRow_nil _ _ _ _) ⟨h, 0, none⟩ 1 cp oneEv (by rfl) (by rfl) (news_one hc'.out) (by simp [oneEv, Value.oneCell']) (by omega) (by unfold maxLen; omega) (by omega) (by omega) _ rfl ?_; intro g6 cap6 w6 hown hgrow hat hlt6)
      have K6 : Kp w5 w6 (fun _ => False) := (Kp.refl w5 _).grown hgrow (fun k hk => by simp [Value.ownBlock] at hk)
      obtain ⟨hl, hC1, ⟨k, hMk⟩, B5⟩ := hall.out
      have hN6 : Hid (g6 < w6.heap.size ∧ (∀ j, j < 7 → w6.cell? ⟨g6, j, none⟩ = oneEv[j]?) ∧ w6.cell? ⟨C, 1, none⟩ = some (.bool true) ∧ (∃ k, w6.heap[M]? = some (mB (.iface 125 (.pointer (some ⟨F, 0, none⟩))) (.pointer (some ⟨C, 0, none⟩)) (.slice none 0 0) k)) ∧ Below w.heap.size w w6) :=
        Lib.hid ⟨hlt6, fun j hj => World.ownsRow.cellAt hown j hj, K6.cell hC1 id, ⟨k, K6.heap hMk id⟩, K6.toBelow B5 B5.size (fun _ h => h.elim)⟩
      clear hl hC1 hMk B5 K6 hown hgrow hat
      go_roundw
      case rel => exact ⟨_, rfl, .inr ⟨g6, cap6, rfl, rfl, rfl, hN6⟩⟩
      case measure => decide
    · obtain ⟨hl, hc, hC1, ⟨k, hMk⟩, B5⟩ := hf.out
      have hD := Lib.hid (done_m M C true _ _ k W hMk hC1)
      clear hC1 hMk
      replace hc := Lib.hid hc
      replace hl := Lib.hid hl
      replace B5 := Lib.hid B5
      go_wp2_with fail
      refine hD.out.mono ?_
      rintro e w6 ⟨rfl, rfl⟩
      go_wp2_with fail
      refine bodyPost_ret (results_tmp2 rfl _ _ _) rfl ?_
      exact ⟨h, cp, rfl, hl.out, hc.out, B5.out⟩
def TellsPost (w : World) (e : Ending) (w' : World) : Prop := e = .returned (.bool true) ∧ Below w.heap.size w w'
set_option maxHeartbeats 4000000 in
set_option maxRecDepth 100000 in
theorem tells_ok (w : World) : Calls Tryz.prog 12 #[] w (TellsPost w) := by
  have hF := fun g w h1 h2 => fed_count g w h1 h2
  unfold exV at hF
  replace hF := Lib.hid hF
  go_enter Tryz.func12, Tryz.ntmps12
  go_wp2_with fail
  generalize hw1 : World.alloc w _ = w1
  obtain ⟨G, hG⟩ : ∃ G, w.heap.size = G := ⟨_, rfl⟩
  obtain ⟨hE, B1, hl⟩ : Evs 3 cK (fun _ => false) (fun _ => ⟨#[]⟩) (fun _ => 0) G 0 w1 ∧ Below w.heap.size w w1 ∧ G < w1.heap.size := by
    subst hw1 hG
    refine ⟨⟨fun i hi j hj => (blk_cell (heap_alloc_new _ _) _).trans ?_⟩, below_alloc (Below.refl _ _) _, blk_lt (heap_alloc_new _ _)⟩
    rcases (by omega : i = 0 ∨ i = 1 ∨ i = 2) with rfl | rfl | rfl <;> rcases (by omega : j = 0 ∨ j = 1 ∨ j = 2 ∨ j = 3 ∨ j = 4 ∨ j = 5 ∨ j = 6) with rfl | rfl | rfl | rfl | rfl | rfl | rfl <;> rfl
  clear hw1
  rw [hG]
  refine (hF.out G w1 hE hl).mono ?_
  rintro e w2 ⟨h, cp, rfl, hh, hc, B2⟩
  replace B2 := Lib.hid (below_then B1 B1.size B2)
  have c0 : w2.cell? ⟨h, 0, none⟩ = some (.int .i64 3) := hc 0 (by decide)
  have c1 : w2.cell? ⟨h, 1, none⟩ = some (.bool false) := hc 1 (by decide)
  have c2 : w2.cell? ⟨h, 2, none⟩ = some (.bool false) := hc 2 (by decide)
  have c3 : w2.cell? ⟨h, 3, none⟩ = some (.string ⟨#[49]⟩) := hc 3 (by decide)
  have c4 : w2.cell? ⟨h, 4, none⟩ = some (.int .i64 0) := hc 4 (by decide)
  clear hc hE B1 hl hG hF
  go_wp2_with fail
  go_ret
  exact ⟨rfl, B2.out⟩
end Go.Proofs.YtcpgcjmamjjokaaGreatDoor
