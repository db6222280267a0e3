/- The machine: Feed. -/
import Derived.Test.YtcpgcjmamjjokaaGreatDoorDc
import Derived.Deep.RegionHeld3
namespace Go.Proofs.YtcpgcjmamjjokaaGreatDoor
open Go.RowKit Go.Proofs.YtcpgcjmamjjokaaGreatDoorW.PrintWords Go.Proofs.YtcpgcjmamjjokaaGreatDoorW.PrintMore
set_option linter.unusedVariables false
set_option linter.unusedSimpArgs false
/-- The deferred closure: nothing was thrown. -/
theorem catch_idle (a b c : Value) (w : World) :
    CallsD Tryz.prog 31 #[a, b, c] .returning w fun e u' w' => e = .returned (.tuple #[]) ∧ u' = .returning ∧ w' = w := by
  refine callsD_of_wpS Tryz.func31 rfl fun c₀ cs hu => ?_
  apply wpS_seq
  apply wpS_region
  simp [wpOpsS, go_sem, recoverD, hu, Tryz.ntmps31, Exit.thenS]
  apply wpS_seq
  apply wpS_region
  simp [wpOpsS, go_sem, recoverD, hu, Tryz.ntmps31, Exit.thenS]
  refine wpS_cond (t := false) (by simp [Act.eval, Array.replicate]) ?_
  simp only [Bool.false_eq_true, if_false]
  refine wpS_of_wp (wp_skip ?_)
  cases c₀
  simp_all [bodyPostS, results, Tryz.results31]
theorem meth_feed (a : Addr) (w : World) : (method 473 125 (.pointer (some a)) "calamus/run.feed").run Tryz.prog w = .ok (323, .pointer (some a)) w := by kernel_rfl
/-- The events of a row. -/
structure Evs (n : Nat) (K : Nat → Int) (N : Nat → Bool) (D : Nat → ByteArray) (X : Nat → Int) (g off : Nat) (w : World) : Prop where
  at_ : ∀ i, i < n → ∀ j, j < 7 → w.cell? ⟨g, off + i * 7 + j, none⟩ = [.int .i64 (K i), .bool false, .bool (N i), .string (D i), .int .i64 (X i), .int .u64 0, .string ⟨#[]⟩][j]?
/-- What Feed comes to: W is the world behind the events. -/
def FeedPost (n M C F : Nat) (S : Nat → Prop) (St : Nat → World → Prop) (w0 : World) (e : Ending) (w' : World) : Prop :=
  ∃ (W : World) (A : Option Addr) (ln cp : Nat) (k : Int), St n W ∧ W.heap[M]? = some (mB (.iface 125 (.pointer (some ⟨F, 0, none⟩))) (.pointer (some ⟨C, 0, none⟩)) (.slice A ln cp) k) ∧ Kp w0 W S ∧
      e = .returned (.tuple #[.slice A ln cp, .int .i64 0]) ∧ w'.heap[M]? = some (mB (.iface 125 (.pointer (some ⟨F, 0, none⟩))) (.pointer (some ⟨C, 0, none⟩)) (.slice none 0 0) k) ∧ Kp W w' (fun k => k = M ∨ k = w0.heap.size + 1 ∨ k = w0.heap.size + 1 + 1)
set_option maxHeartbeats 3200000 in
set_option maxRecDepth 100000 in
theorem Feed_any {n : Nat} {K : Nat → Int} {N : Nat → Bool} {D : Nat → ByteArray} {X : Nat → Int} {M C F g off cap : Nat} {S : Nat → Prop} {St Mid : Nat → World → Prop} (w0 : World)
    (hn : n < 1000) (hcap : n ≤ cap) (hrow : Evs n K N D X g off w0) (hgl : g < w0.heap.size) (hg : ¬ S g)
    (hr1 : ∀ i, i < n → ∀ W w, w0.heap.size + 3 ≤ W.heap.size → St i W → Below W.heap.size W w → Calls Tryz.prog 33 #[.pointer (some ⟨C, 0, none⟩), ev (K i) (N i) (D i) (X i)] w fun e w' => e = .returned (.int .i64 0) ∧ Mid i w' ∧ Kp w w' (fun k => S k ∨ (w0.heap.size + 3 ≤ k ∧ k < W.heap.size)))
    (hr2 : ∀ i, i < n → ∀ w, w0.heap.size + 3 ≤ w.heap.size → Mid i w → Calls Tryz.prog 323 #[.pointer (some ⟨F, 0, none⟩), ev (K i) (N i) (D i) (X i)] w fun e w' => (∃ b : Bool, e = .returned (.bool b)) ∧ St (i + 1) w' ∧ Kp w w' S)
    (hs1 : ∀ i w w', St i w → Kp w w' (fun _ => False) → St i w') (hs2 : ∀ i w w', Mid i w → Kp w w' (fun _ => False) → Mid i w')
    (hm1 : ∀ i w, St i w → ∃ (A : Option Addr) (ln cp : Nat) (k : Int), w.heap[M]? = some (mB (.iface 125 (.pointer (some ⟨F, 0, none⟩))) (.pointer (some ⟨C, 0, none⟩)) (.slice A ln cp) k))
    (hm2 : ∀ i w, Mid i w → ∃ (A : Option Addr) (ln cp : Nat) (k : Int), w.heap[M]? = some (mB (.iface 125 (.pointer (some ⟨F, 0, none⟩))) (.pointer (some ⟨C, 0, none⟩)) (.slice A ln cp) k))
    (hS : ∀ k, S k → k < w0.heap.size) (h0 : St 0 w0) :
    Calls Tryz.prog 8 #[.pointer (some ⟨M, 0, none⟩), .slice (some ⟨g, off, none⟩) n cap] w0 (FeedPost n M C F S St w0) := by
  obtain ⟨tA, tl, tc, kk, hM⟩ := hm1 0 w0 h0
  unfold mB at hM
  obtain ⟨c0, c1, c2, c3, c4, f0, f1, f2, f3, f4⟩ := blk5 hM
  have hltM := blk_lt hM
  have hltM1 : M < w0.heap.size + 1 := by omega
  have hltM2 : M < w0.heap.size + 2 := by omega
  have hltM3 : M < w0.heap.size + 1 + 1 := by omega
  replace hM := Lib.hid hM
  replace hr1 := Lib.hid hr1
  replace hr2 := Lib.hid hr2
  replace hs1 := Lib.hid hs1
  replace hs2 := Lib.hid hs2
  replace hm1 := Lib.hid hm1
  replace hm2 := Lib.hid hm2
  have hnS : ∀ k, w0.heap.size ≤ k → ¬ S k := fun k hk h => by have := hS k h; omega
  replace hS := Lib.hid hS
  replace h0 := Lib.hid h0
  have hmf : ∀ (fn : Fn) (first cap : Array Value) (w : World), (Instr.makeFunc fn first cap).run Tryz.prog w = .ok (.func fn first cap) w := fun _ _ _ _ => rfl
  have hmth := meth_feed
  go_enter_defers Tryz.func8, Tryz.ntmps8
  go_wp2_with fail
  generalize hwA : World.alloc _ _ = wA
  obtain ⟨b0, b1, b2, BA⟩ : wA.heap[w0.heap.size]? = some (.cells #[.pointer (some ⟨M, 0, none⟩)] 39 (0, 0)) ∧ wA.heap[w0.heap.size + 1]? = some (.cells #[.slice none 0 0] 42 (0, 0)) ∧ wA.heap[w0.heap.size + 1 + 1]? = some (.cells #[.int .i64 0] 24 (0, 0)) ∧ Below w0.heap.size w0 wA := by
    subst hwA
    refine ⟨blk_alloc (blk_alloc (heap_alloc_new _ _) _) _, blk_alloc (alloc2 _ _ _) _, ?_, below_alloc (below_alloc (below_alloc (Below.refl _ _) _) _) _⟩
    have h := heap_alloc_new ((w0.alloc (.cells #[.pointer (some ⟨M, 0, none⟩)] 39 (0, 0))).alloc (.cells #[.slice none 0 0] 42 (0, 0))) (.cells #[.int .i64 0] 24 (0, 0))
    rw [show ((w0.alloc (.cells #[.pointer (some ⟨M, 0, none⟩)] 39 (0, 0))).alloc (.cells #[.slice none 0 0] 42 (0, 0))).heap.size = w0.heap.size + 1 + 1 by simp] at h
    exact h
  have hAe : wA.heap.size = w0.heap.size + 3 := by subst hwA; exact (Array.size_push _).trans (congrArg (· + 1) ((Array.size_push _).trans (congrArg (· + 1) (Array.size_push _))))
  have hAs : w0.heap.size + 3 ≤ wA.heap.size := Nat.le_of_eq hAe.symm
  replace hAe := Lib.hid hAe
  replace hAs := Lib.hid hAs
  obtain ⟨G, hG⟩ : ∃ G, G = w0.heap.size := ⟨_, rfl⟩
  rw [← hG] at b0 b1 b2 ⊢
  have hnS' := Lib.hid hnS
  replace hG := Lib.hid hG
  replace hwA := Lib.hid hwA
  replace b0 := Lib.hid b0
  replace b1 := Lib.hid b1
  replace b2 := Lib.hid b2
  have hA0 : St 0 wA := hs1.out 0 w0 wA h0.out (Kp.of_below BA _)
  replace BA := Lib.hid BA
  replace hA0 := Lib.hid hA0
  replace hrow := Lib.hid hrow
  go_loopw [24] (fun v24 w' => ∃ (i : Nat) (W : World), v24 = .int .i64 (i : Int) ∧ W = w' ∧ i ≤ n ∧ Hid (St i W) ∧ Hid (Kp wA W S)) (fun v24 _ => n - (intOf v24).toNat)
  case atStart => exact ⟨0, _, rfl, rfl, by omega, hA0, Lib.hid (Kp.refl _ _)⟩
  case round =>
    obtain ⟨i, W, rfl, rfl, hi, hSt, hKp⟩ := hrel
    have q0 := hKp.out.heap b0.out (hnS G (by have := hG.out; omega))
    have q1 := hKp.out.heap b1.out (hnS _ (by have := hG.out; omega))
    have q2 := hKp.out.heap b2.out (hnS _ (by have := hG.out; omega))
    obtain ⟨tA', tl', tc', k', hMW⟩ := hm1.out i W hSt.out
    unfold mB at hMW
    obtain ⟨m0, m1, m2, m3, m4, n0, n1, n2, n3, n4⟩ := blk5 hMW
    obtain ⟨x0, y0⟩ := blk1 q0
    obtain ⟨x1, y1⟩ := blk1 q1
    obtain ⟨x2, y2⟩ := blk1 q2
    have hlq0 := blk_lt q0
    have hlq1 := blk_lt q1
    have hlq2 := blk_lt q2
    have hlM := blk_lt hMW
    replace hMW := Lib.hid hMW
    replace q0 := Lib.hid q0
    replace q1 := Lib.hid q1
    replace q2 := Lib.hid q2
    by_cases c : i < n
    · have hev : ∀ j, j < 7 → W.cell? ⟨g, off + i * 7 + j, none⟩ = [.int .i64 (K i), .bool false, .bool (N i), .string (D i), .int .i64 (X i), .int .u64 0, .string ⟨#[]⟩][j]? := fun j hj => by
        rw [← hrow.out.at_ i c j hj]
        exact ((World.cell?_of_block (w := wA) (hKp.out.block g (Nat.lt_of_lt_of_le hgl BA.out.size) hg))).trans (BA.out.cell (p := ⟨g, off + i * 7 + j, none⟩) hgl)
      have e0 : W.cell? ⟨g, off + i * 7, none⟩ = some (.int .i64 (K i)) := hev 0 (by decide)
      have e1 : W.cell? ⟨g, off + i * 7 + 1, none⟩ = some (.bool false) := hev 1 (by decide)
      have e2 : W.cell? ⟨g, off + i * 7 + 2, none⟩ = some (.bool (N i)) := hev 2 (by decide)
      have e3 : W.cell? ⟨g, off + i * 7 + 3, none⟩ = some (.string (D i)) := hev 3 (by decide)
      have e4 : W.cell? ⟨g, off + i * 7 + 4, none⟩ = some (.int .i64 (X i)) := hev 4 (by decide)
      have e5 : W.cell? ⟨g, off + i * 7 + 5, none⟩ = some (.int .u64 0) := hev 5 (by decide)
      have e6 : W.cell? ⟨g, off + i * 7 + 6, none⟩ = some (.string ⟨#[]⟩) := hev 6 (by decide)
      clear hev
      have hlg : g < W.heap.size := Nat.lt_of_lt_of_le hgl (Nat.le_trans BA.out.size hKp.out.size)
      have hd : decide ((i : Int) < (n : Int)) = true := decide_eq_true (by omega)
      go_wp2_with fail
      generalize hW1 : World.alloc W _ = W1
      obtain ⟨z0, BW1⟩ : W1.heap[W.heap.size]? = some (.cells #[.int .i64 (K i), .bool false, .bool (N i), .string (D i), .int .i64 (X i), .int .u64 0, .string ⟨#[]⟩] 47 (0, 0)) ∧ Below W.heap.size W W1 := by
        subst hW1
        exact ⟨heap_alloc_new _ _, below_alloc (Below.refl _ _) _⟩
      clear hW1
      have q0' := blk_below q0.out BW1
      have q1' := blk_below q1.out BW1
      have q2' := blk_below q2.out BW1
      have hMW' := blk_below hMW.out BW1
      have hSt1 : St i W1 := hs1.out i W W1 hSt.out (Kp.of_below BW1 _)
      have hK1 := hKp.out.below BW1
      have H1 := hr1.out i c W W1.drew (Nat.le_trans hAs.out hKp.out.size) hSt.out BW1.drew
      unfold ev at H1
      clear x0 y0 x1 y1 x2 y2 m0 m1 m2 m3 m4 n0 n1 n2 n3 n4 e0 e1 e2 e3 e4 e5 e6 hlq0 hlq1 hlq2 hlM
      obtain ⟨x0, y0⟩ := blk1 q0'
      obtain ⟨m0, m1, m2, m3, m4, n0, n1, n2, n3, n4⟩ := blk5 hMW'
      obtain ⟨e0, e1, e2, e3, e4, e5, e6, _, _, _, _, _, _, _⟩ := blk7 z0
      have hz0l := blk_lt z0
      have hWG : w0.heap.size ≤ W.heap.size := Nat.le_trans BA.out.size hKp.out.size
      replace hK1 := Lib.hid hK1
      replace z0 := Lib.hid z0
      replace q0' := Lib.hid q0'
      replace q1' := Lib.hid q1'
      replace q2' := Lib.hid q2'
      replace hMW' := Lib.hid hMW'
      replace hSt1 := Lib.hid hSt1
      replace H1 := Lib.hid H1
      replace BW1 := Lib.hid BW1
      have HK : ∀ x : World, Mid i x → Kp W1.drew x (fun k => S k ∨ (w0.heap.size + 3 ≤ k ∧ k < W.heap.size)) → x.cell? ⟨G, 0, none⟩ = some (.pointer (some ⟨M, 0, none⟩)) ∧ x.cell? ⟨M, 1, none⟩ = some (.pointer (some ⟨C, 0, none⟩)) ∧ x.cell? ⟨W.heap.size, 0, none⟩ = some (.int .i64 (K i)) ∧ x.cell? ⟨W.heap.size, 1, none⟩ = some (.bool false) ∧ x.cell? ⟨W.heap.size, 2, none⟩ = some (.bool (N i)) ∧ x.cell? ⟨W.heap.size, 3, none⟩ = some (.string (D i)) ∧ x.cell? ⟨W.heap.size, 4, none⟩ = some (.int .i64 (X i)) ∧ x.cell? ⟨W.heap.size, 5, none⟩ = some (.int .u64 0) ∧ x.cell? ⟨W.heap.size, 6, none⟩ = some (.string ⟨#[]⟩) := fun x hx kx => by
        obtain ⟨_, _, _, k2, hx2⟩ := hm2.out i x hx
        unfold mB at hx2
        obtain ⟨_, g1, _, _, _, _, _, _, _, _⟩ := blk5 hx2
        obtain ⟨h0, h1, h2, h3, h4, h5, h6, _, _, _, _, _, _, _⟩ := blk7 (kx.heap z0.out (fun h => h.elim (hnS'.out _ hWG) (fun h => Nat.lt_irrefl _ h.2)))
        exact ⟨(blk1 (kx.heap q0'.out (fun h => h.elim (hnS'.out _ (by have := hG.out; omega)) (fun h => by have := hG.out; omega)))).1, g1, h0, h1, h2, h3, h4, h5, h6⟩
      replace HK := Lib.hid HK
      go_region_held3 (fun x => x.cell? ⟨G, 0, none⟩ = some (.pointer (some ⟨M, 0, none⟩)) ∧ x.cell? ⟨M, 1, none⟩ = some (.pointer (some ⟨C, 0, none⟩)) ∧ x.cell? ⟨W.heap.size, 0, none⟩ = some (.int .i64 (K i)) ∧ x.cell? ⟨W.heap.size, 1, none⟩ = some (.bool false) ∧ x.cell? ⟨W.heap.size, 2, none⟩ = some (.bool (N i)) ∧ x.cell? ⟨W.heap.size, 3, none⟩ = some (.string (D i)) ∧ x.cell? ⟨W.heap.size, 4, none⟩ = some (.int .i64 (X i)) ∧ x.cell? ⟨W.heap.size, 5, none⟩ = some (.int .u64 0) ∧ x.cell? ⟨W.heap.size, 6, none⟩ = some (.string ⟨#[]⟩)) (first | go_keep | exact HK.out _ hMid K12)
        (first | ((with_reducible refine H1.out.mono ?_); rintro e W2 ⟨rfl, hMid, K12⟩) | (go_at_call 32; (with_reducible refine (is_true _ _).mono ?_); rintro e w' ⟨rfl, rfl⟩))
      clear x0 y0 m0 m1 m2 m3 m4 n0 n1 n2 n3 n4 e0 e1 e2 e3 e4 e5 e6
      have hqb := K12.heap q0'.out (fun h => h.elim (hnS'.out _ (by have := hG.out; omega)) (fun h => by have := hG.out; omega))
      have hzb := K12.heap z0.out (fun h => h.elim (hnS'.out _ hWG) (fun h => Nat.lt_irrefl _ h.2))
      obtain ⟨_, _, _, k2, hM2⟩ := hm2.out i W2 hMid
      have hK2 : Kp wA W2 S := hK1.out.drew.trans K12 (fun _ h => h.elim .inl (fun h => .inr (by have := hAe.out; omega)))
      have H2 := hr2.out i c W2.drew (Nat.le_trans hAs.out hK2.size) (hs2.out i W2 W2.drew hMid (Kp.refl _ _).drew)
      unfold ev at H2
      unfold mB at hM2
      obtain ⟨x0, y0⟩ := blk1 hqb
      obtain ⟨m0, m1, m2, m3, m4, n0, n1, n2, n3, n4⟩ := blk5 hM2
      obtain ⟨e0, e1, e2, e3, e4, e5, e6, _, _, _, _, _, _, _⟩ := blk7 hzb
      have HK3 : ∀ x : World, St (i + 1) x → Kp W2.drew x S → x.cell? ⟨G, 0, none⟩ = some (.pointer (some ⟨M, 0, none⟩)) ∧ x.cell? ⟨M, 0, none⟩ = some (.iface 125 (.pointer (some ⟨F, 0, none⟩))) ∧ x.cell? ⟨W.heap.size, 0, none⟩ = some (.int .i64 (K i)) ∧ x.cell? ⟨W.heap.size, 1, none⟩ = some (.bool false) ∧ x.cell? ⟨W.heap.size, 2, none⟩ = some (.bool (N i)) ∧ x.cell? ⟨W.heap.size, 3, none⟩ = some (.string (D i)) ∧ x.cell? ⟨W.heap.size, 4, none⟩ = some (.int .i64 (X i)) ∧ x.cell? ⟨W.heap.size, 5, none⟩ = some (.int .u64 0) ∧ x.cell? ⟨W.heap.size, 6, none⟩ = some (.string ⟨#[]⟩) := fun x hx kx => by
        obtain ⟨_, _, _, k2, hx2⟩ := hm1.out (i + 1) x hx
        unfold mB at hx2
        obtain ⟨g0, _, _, _, _, _, _, _, _, _⟩ := blk5 hx2
        obtain ⟨h0, h1, h2, h3, h4, h5, h6, _, _, _, _, _, _, _⟩ := blk7 (kx.heap hzb (hnS'.out _ hWG))
        exact ⟨(blk1 (kx.heap hqb (hnS'.out _ (by have := hG.out; omega)))).1, g0, h0, h1, h2, h3, h4, h5, h6⟩
      replace HK3 := Lib.hid HK3
      replace hqb := Lib.hid hqb
      replace hzb := Lib.hid hzb
      replace hM2 := Lib.hid hM2
      replace hK2 := Lib.hid hK2
      replace H2 := Lib.hid H2
      replace hMid := Lib.hid hMid
      replace K12 := Lib.hid K12
      go_wp2_with fail
      go_region_held3 (fun x => x.cell? ⟨G, 0, none⟩ = some (.pointer (some ⟨M, 0, none⟩)) ∧ x.cell? ⟨M, 0, none⟩ = some (.iface 125 (.pointer (some ⟨F, 0, none⟩))) ∧ x.cell? ⟨W.heap.size, 0, none⟩ = some (.int .i64 (K i)) ∧ x.cell? ⟨W.heap.size, 1, none⟩ = some (.bool false) ∧ x.cell? ⟨W.heap.size, 2, none⟩ = some (.bool (N i)) ∧ x.cell? ⟨W.heap.size, 3, none⟩ = some (.string (D i)) ∧ x.cell? ⟨W.heap.size, 4, none⟩ = some (.int .i64 (X i)) ∧ x.cell? ⟨W.heap.size, 5, none⟩ = some (.int .u64 0) ∧ x.cell? ⟨W.heap.size, 6, none⟩ = some (.string ⟨#[]⟩)) (first | go_keep | exact HK3.out _ hSt3 K23)
        (first | ((with_reducible refine H2.out.mono ?_); rintro e W3 ⟨⟨bb, rfl⟩, hSt3, K23⟩))
      have hK3 := Lib.hid (hK2.out.drew.trans K23 (fun _ h => .inl h))
      replace hSt3 := Lib.hid hSt3
      replace K23 := Lib.hid K23
      go_wp2_with fail
      go_roundw
      case rel => exact ⟨i + 1, _, by first | rfl | (push_cast; rfl), rfl, by omega, hSt3, hK3⟩
      case measure => simp [intOf]; omega
    · have hin : i = n := by omega
      subst hin
      have hd : decide ((i : Int) < (i : Int)) = false := decide_eq_false (by omega)
      have hne1 : G ≠ M := by have := hG.out; omega
      have hne2 : G + 1 ≠ M := by have := hG.out; omega
      have hne3 : G + 1 + 1 ≠ M := by have := hG.out; omega
      have hne4 : M ≠ G + 1 := by omega
      have hne5 : M ≠ G + 1 + 1 := by omega
      go_wp2_with fail
      go_region
      go_wp2_with fail
      refine leaves_cons (f := 31) (args := #[.pointer (some ⟨G, 0, none⟩), .pointer (some ⟨G + 1, 0, none⟩), .pointer (some ⟨G + 1 + 1, 0, none⟩)]) (by simp) (by simp [go_sem]) ?_
      refine (catch_idle _ _ _ _).mono ?_
      rintro e u' w'' ⟨rfl, rfl, rfl⟩
      generalize hW' : World.drew _ = W'
      have z1 : W'.cell? ⟨G + 1, 0, none⟩ = some (.slice tA' tl' tc') := by
        subst hW'
        exact (blk_cell (blk_far (p := ⟨G + 1 + 1, 0, none⟩) (blk_put (cs' := #[.slice tA' tl' tc']) (blk_far (p := ⟨M, 2, none⟩) (blk_put (cs' := #[.slice tA' tl' tc']) q1.out 0 _ rfl) hne2 _) 0 _ rfl) (by simp) _) 0).trans rfl
      have z2 : W'.cell? ⟨G + 1 + 1, 0, none⟩ = some (.int .i64 0) := by
        subst hW'
        exact (blk_cell (blk_put (cs' := #[.int .i64 0]) (blk_far (p := ⟨G + 1, 0, none⟩) (blk_far (p := ⟨M, 2, none⟩) (blk_far (p := ⟨G + 1, 0, none⟩) q2.out (by simp) _) hne3 _) (by simp) _) 0 _ rfl) 0).trans rfl
      have z3 : W'.heap[M]? = some (mB (.iface 125 (.pointer (some ⟨F, 0, none⟩))) (.pointer (some ⟨C, 0, none⟩)) (.slice none 0 0) k') := by
        subst hW'
        exact blk_far (p := ⟨G + 1 + 1, 0, none⟩) (blk_far (p := ⟨G + 1, 0, none⟩) (blk_put (blk_far (p := ⟨G + 1, 0, none⟩) hMW.out hne4 _) 2 _ rfl) hne4 _) hne5 _
      have z4 : Kp W W' (fun k => k = M ∨ k = G + 1 ∨ k = G + 1 + 1) := by
        subst hW'
        exact (kp_set (S := fun k => k = M ∨ k = G + 1 ∨ k = G + 1 + 1) (kp_set (S := fun k => k = M ∨ k = G + 1 ∨ k = G + 1 + 1) (kp_set (S := fun k => k = M ∨ k = G + 1 ∨ k = G + 1 + 1) (kp_set (S := fun k => k = M ∨ k = G + 1 ∨ k = G + 1 + 1) (Kp.refl W _) (G + 1) 0 (.inl (.inr (.inl rfl))) _) M 2 (.inl (.inl rfl)) _) (G + 1) 0 (.inl (.inr (.inl rfl))) _) (G + 1 + 1) 0 (.inl (.inr (.inr rfl))) _).drew
      clear hW'
      rw [hG.out] at z4
      have z5 : FeedPost i M C F S St w0 (.returned (.tuple #[.slice tA' tl' tc', .int .i64 0])) W' := ⟨W, _, _, _, _, hSt.out, hMW.out, (Kp.of_below BA.out S).trans hKp.out (fun _ h => .inl h), rfl, z3, z4⟩
      replace z5 := Lib.hid z5
      replace z3 := Lib.hid z3
      replace z4 := Lib.hid z4
      simp [Leaves, settle, results, Tryz.results8, go_sem, z1, z2]
      exact z5.out
end Go.Proofs.YtcpgcjmamjjokaaGreatDoor
