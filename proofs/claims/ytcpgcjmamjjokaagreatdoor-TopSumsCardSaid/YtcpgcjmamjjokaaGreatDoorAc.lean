/- The law's numbers: digits, whole. -/
import Derived.Test.YtcpgcjmamjjokaaGreatDoorCz
namespace Go.Proofs.YtcpgcjmamjjokaaGreatDoor
open Go.RowKit Go.Proofs.YtcpgcjmamjjokaaGreatDoorW.PrintWords Go.Proofs.YtcpgcjmamjjokaaGreatDoorW.PrintMore
set_option linter.unusedVariables false
set_option linter.unusedSimpArgs false
/-- A digit's letter. -/
def dgc (d : Nat) : UInt8 := UInt8.ofNat (48 + d)
theorem dgs_pos' {n : Nat} (h : n ≠ 0) : dgs n = dgs (n / 10) ++ [dgc (n % 10)] := dgs_pos h
theorem dg_len (n : Nat) (h : n < 1000000000000000) : (dg n).length ≤ 15 := by
  unfold dg
  split
  · decide
  · exact dgs_len n 15 h
theorem dig_cut (d : Nat) (h : d < 10) (xs : List UInt8) : ((⟨#[48, 49, 50, 51, 52, 53, 54, 55, 56, 57]⟩ : ByteArray).extract d (d + 1) ++ ⟨xs.toArray⟩ : ByteArray) = ⟨(dgc d :: xs).toArray⟩ := by
  have : ∀ d : Fin 10, (#[48, 49, 50, 51, 52, 53, 54, 55, 56, 57] : Array UInt8).extract d.1 (d.1 + 1) = #[dgc d.1] := by decide
  apply ByteArray.ext
  rw [ByteArray.data_append, ByteArray.data_extract]
  rw [this ⟨d, h⟩]
  simp
/-- A text's length. -/
def slen : Value → Nat | .string s => s.size | _ => 0
set_option maxHeartbeats 800000 in
set_option maxRecDepth 100000 in
theorem digits_any (n : Nat) (hn : n < 1000000000000000) (w : World) :
    Calls Tryz.prog 34 #[.int .i64 (n : Int)] w fun e w' => e = .returned (.string ⟨(dg n).toArray⟩) ∧ Drawn0 w w' := by
  go_enter Tryz.func34, Tryz.ntmps34
  go_wp2_with fail
  go_loop [0, 3] (fun v0 v3 => ∃ (v : Nat) (xs : List UInt8), v0 = .int .i64 v ∧ v3 = .string ⟨xs.toArray⟩ ∧ v < 1000000000000000 ∧ Hid ((xs = [] ∧ v = n) ∨ (xs ≠ [] ∧ dg n = dgs v ++ xs))) (fun v0 v3 => 2 * (intOf v0).toNat + (1 - slen v3))
  case atStart => exact ⟨n, [], rfl, rfl, hn, Lib.hid (.inl ⟨rfl, rfl⟩)⟩
  case round =>
    obtain ⟨v, xs, rfl, rfl, hv, hH⟩ := hrel
    cases xs with
    | nil =>
      have hvn : v = n := by rcases hH.out with h | h; exact h.2; exact absurd rfl h.1
      obtain ⟨d, hd⟩ : ∃ d, v % 10 = d := ⟨_, rfl⟩
      obtain ⟨q, hq⟩ : ∃ q, v / 10 = q := ⟨_, rfl⟩
      have hd16 : d < 10 := by omega
      have hmi : (v : Int) % 10 = (d : Int) := by omega
      have hqi : (v : Int) / 10 = (q : Int) := by omega
      have hcut := dig_cut d hd16 []
      have hql : q < 1000000000000000 := by omega
      have hN : Hid ((dgc d :: ([] : List UInt8) = [] ∧ q = n) ∨ (dgc d :: ([] : List UInt8) ≠ [] ∧ dg n = dgs q ++ [dgc d])) := Lib.hid (.inr ⟨by simp, by
        unfold dg
        by_cases h0 : n = 0
        · rw [if_pos h0]
          subst h0
          rw [show q = 0 by omega, show d = 0 by omega, dgs_zero]; rfl
        · rw [if_neg h0, dgs_pos' h0, ← hq, ← hd, hvn]⟩)
      have hmm : 2 * q + (1 - 1) < 2 * v + (1 - 0) := by omega
      have hs2 : ((⟨#[48, 49, 50, 51, 52, 53, 54, 55, 56, 57]⟩ : ByteArray).extract d (d + 1)).size = 1 := by
        rw [ByteArray.size_extract]
        show min (d + 1) 10 - d = 1
        omega
      replace hd := Lib.hid hd
      replace hq := Lib.hid hq
      replace hvn := Lib.hid hvn
      replace hmm := Lib.hid hmm
      go_wp2_with fail
      go_round
      case rel => exact ⟨q, [dgc d], rfl, by first | rfl | (rw [← hcut]), hql, hN⟩
      case measure =>
        simp only [intOf, slen, Int.toNat_natCast]
        exact hmm.out
    | cons c ys =>
      have hH2 : dg n = dgs v ++ c :: ys := by rcases hH.out with h | h; exact absurd h.1 (by simp); exact h.2
      replace hH2 := Lib.hid hH2
      have hlen : ys.length + 1 ≤ 15 := by
        have h1 := dg_len n hn
        rw [hH2.out, List.length_append, List.length_cons] at h1
        omega
      have hs1 : (⟨(c :: ys).toArray⟩ : ByteArray).size = ys.length + 1 := by
        show (c :: ys).toArray.size = _
        simp
      by_cases c0 : v = 0
      · subst c0
        have hx : (⟨(c :: ys).toArray⟩ : ByteArray) = ⟨(dg n).toArray⟩ := by rw [hH2.out, dgs_zero]; rfl
        replace hx := Lib.hid hx
        go_wp2_with fail
        go_ret
        exact ⟨by rw [← hx.out]; rfl, 0, rfl⟩
      · obtain ⟨d, hd⟩ : ∃ d, v % 10 = d := ⟨_, rfl⟩
        obtain ⟨q, hq⟩ : ∃ q, v / 10 = q := ⟨_, rfl⟩
        have hd16 : d < 10 := by omega
        have hmi : (v : Int) % 10 = (d : Int) := by omega
        have hqi : (v : Int) / 10 = (q : Int) := by omega
        have hcut := dig_cut d hd16 (c :: ys)
        have hql : q < 1000000000000000 := by omega
        have hpos : (0 : Int) < (v : Int) := by omega
        have hN : Hid ((dgc d :: c :: ys = [] ∧ q = n) ∨ (dgc d :: c :: ys ≠ [] ∧ dg n = dgs q ++ dgc d :: c :: ys)) := Lib.hid (.inr ⟨by simp, by
          rw [hH2.out, dgs_pos' c0, ← hq, ← hd]; simp⟩)
        have hmm : 2 * q + (1 - (ys.length + 1 + 1)) < 2 * v + (1 - (ys.length + 1)) := by omega
        have hs2 : ((⟨#[48, 49, 50, 51, 52, 53, 54, 55, 56, 57]⟩ : ByteArray).extract d (d + 1)).size = 1 := by
          rw [ByteArray.size_extract]
          show min (d + 1) 10 - d = 1
          omega
        replace hd := Lib.hid hd
        replace hq := Lib.hid hq
        replace hmm := Lib.hid hmm
        go_wp2_with fail
        go_round
        case rel => exact ⟨q, dgc d :: c :: ys, rfl, by first | rfl | (rw [← hcut]), hql, hN⟩
        case measure =>
          simp only [intOf, slen, Int.toNat_natCast]
          exact hmm.out
theorem kp_set' {w w1 : World} {S : Nat → Prop} (h : Kp w w1 S) (g j : Nat) (hp : S g ∨ w.heap.size ≤ g) (u : Value) : Kp w (w1.setCell ⟨g, j, none⟩ u) S := h.set_ (p := ⟨g, j, none⟩) hp u
/-- The number t as a struct. -/
def numV (t : Int) : Value := .agg #[.bool (NB t), .string ⟨(ND t).toArray⟩, .int .i64 (NE t : Nat)]
theorem whole_end {w w1 W : World} {G md : Nat} {b : Bool} {D : ByteArray} {k : Int} (hb1 : W.heap[G]? = some (.cells #[.bool false, .string ⟨#[]⟩, .int .i64 0] 32 (0, 0))) (B1 : Below w.heap.size w w1) (K : Kp w1 W (fun k => k = G + 1)) (hG : w.heap.size = G) :
    (((((W.drewN md).setCell ⟨G + 1, 1, none⟩ (.string D)).setCell ⟨G, 0, none⟩ (.bool b)).setCell ⟨G, 1, none⟩ (.string D)).setCell ⟨G, 2, none⟩ (.int .i64 k)).heap[G]? = some (.cells #[.bool b, .string D, .int .i64 k] 32 (0, 0)) ∧ Below w.heap.size w (((((W.drewN md).setCell ⟨G + 1, 1, none⟩ (.string D)).setCell ⟨G, 0, none⟩ (.bool b)).setCell ⟨G, 1, none⟩ (.string D)).setCell ⟨G, 2, none⟩ (.int .i64 k)) := by
  refine ⟨blk_put (blk_put (cs' := #[.bool b, .string D, .int .i64 0]) (blk_put (cs' := #[.bool b, .string ⟨#[]⟩, .int .i64 0]) (blk_far (blk_drewN hb1 md) (p := ⟨G + 1, 1, none⟩) (by simp) _) 0 _ rfl) 1 _ rfl) 2 _ rfl, ?_⟩
  have hB : Below w.heap.size w W := K.toBelow B1 B1.size (fun k hk => by omega)
  exact below_set (below_set (below_set (below_set (pw_below_drewN hB md) (by omega)) (by omega)) (by omega)) (by omega)
set_option maxHeartbeats 1600000 in
set_option maxRecDepth 100000 in
theorem whole_any (m : Nat) (hm : m < 1000000000000000) (t : Int) (ht : t = (m : Int) ∨ (t = -(m : Int) ∧ 0 < m)) (w : World) :
    Calls Tryz.prog 9 #[.int .i64 t] w fun e w' => e = .returned (numV t) ∧ Below w.heap.size w w' := by
  have hD : ∃ v k, v < 1000000000000000 ∧ cz m = (v, k) ∧ ND t = dg v ∧ NE t = k := ⟨(cz m).1, (cz m).2, Nat.lt_of_le_of_lt (cz_mul m).2.2.2 hm, rfl, by unfold ND; rw [show t.natAbs = m by omega], by unfold NE; rw [show t.natAbs = m by omega]⟩
  obtain ⟨v, k, hv, hcz, hND, hNE⟩ := hD
  unfold numV
  rw [hND, hNE]
  clear hND hNE
  obtain ⟨b, hb⟩ : ∃ b, NB t = b := ⟨_, rfl⟩
  rw [hb]
  unfold NB at hb
  replace hcz := Lib.hid hcz
  have hdg := fun w => digits_any v hv w
  replace hdg := Lib.hid hdg
  rcases ht with rfl | ⟨rfl, hm0⟩
  · have hb2 : decide ((m : Int) < 0) = b := hb
    have hbf : b = false := by rw [← hb]; exact decide_eq_false (by omega)
    subst hbf
    replace hb := Lib.hid hb
    go_enter Tryz.func9, Tryz.ntmps9
    obtain ⟨G, hG⟩ : ∃ G, w.heap.size = G := ⟨_, rfl⟩
    go_wp2_with fail
    generalize hw1 : World.alloc _ _ = w1
    obtain ⟨b1, b2, B1⟩ : w1.heap[G]? = some (.cells #[.bool false, .string ⟨#[]⟩, .int .i64 0] 32 (0, 0)) ∧ w1.heap[G + 1]? = some (.cells #[.bool false, .string ⟨#[]⟩, .int .i64 0] 32 (0, 0)) ∧ Below w.heap.size w w1 := by
      subst hw1 hG
      exact ⟨blk_alloc (heap_alloc_new _ _) _, alloc2 _ _ _, below_alloc (below_alloc (Below.refl _ _) _) _⟩
    clear hw1
    replace hG := Lib.hid hG
    replace b1 := Lib.hid b1
    replace b2 := Lib.hid b2
    replace B1 := Lib.hid B1
    go_loopw [0] (fun v0 w' => ∃ (u j : Nat) (W : World), v0 = .int .i64 (u : Int) ∧ W = w' ∧ u ≤ m ∧ Hid (j < 100) ∧ Hid (cz m = ((cz u).1, (cz u).2 + j)) ∧ Hid (u ≠ 0 → u * 10 ^ j = m) ∧ Hid (W.heap[G + 1]? = some (.cells #[.bool false, .string ⟨#[]⟩, .int .i64 (j : Int)] 32 (0, 0))) ∧ Hid (Kp w1 W (fun k => k = G + 1))) (fun v0 _ => (intOf v0).toNat)
    case atStart => exact ⟨m, 0, _, rfl, rfl, by omega, Lib.hid (by decide), Lib.hid rfl, Lib.hid (fun _ => by simp), b2, Lib.hid (Kp.refl _ _)⟩
    case round =>
      obtain ⟨u, j, W, rfl, rfl, hu, hj, hcu, hmul, hb2, hK⟩ := hrel
      obtain ⟨c0, c1, c2, f0, f1, f2⟩ := blk3 hb2.out
      have hlG := blk_lt hb2.out
      have hb1 := hK.out.heap b1.out (by omega)
      obtain ⟨d0, d1, d2, g0, g1, g2⟩ := blk3 hb1
      have hlG1 := blk_lt hb1
      replace hb1 := Lib.hid hb1
      by_cases c : u ≠ 0 ∧ u % 10 = 0
      · obtain ⟨c, cc⟩ := c
        have hpos : (0 : Int) < (u : Int) := by omega
        have hrem : (u : Int) % 10 = 0 := by omega
        obtain ⟨q, hq⟩ : ∃ q, u / 10 = q := ⟨_, rfl⟩
        have hqi : (u : Int) / 10 = (q : Int) := by omega
        have hqu : q ≤ m := by omega
        have hq0 : q ≠ 0 := by omega
        have hmq := hmul.out (by omega)
        have huq : u = q * 10 := by omega
        have hmul2 : Hid (q ≠ 0 → q * 10 ^ (j + 1) = m) := Lib.hid (fun _ => by rw [Nat.pow_succ, Nat.mul_comm _ 10, ← Nat.mul_assoc, ← huq]; exact hmq)
        have hj100 := hj.out
        have hj2 : Hid (j + 1 < 100) := Lib.hid (by
          have h1 : 10 ^ (j + 1) ≤ m := by rw [← hmul2.out hq0]; exact Nat.le_mul_of_pos_left _ (by omega)
          have h2 : 10 ^ (j + 1) < 10 ^ 15 := Nat.lt_of_le_of_lt h1 (by rw [show (10 : Nat) ^ 15 = 1000000000000000 by decide]; exact hm)
          have h3 := (Nat.pow_lt_pow_iff_right (by decide : 1 < 10)).1 h2
          omega)
        have hcu2 : Hid (cz m = ((cz q).1, (cz q).2 + (j + 1))) := Lib.hid (by
          rw [hcu.out, cz_step c cc, hq]
          show ((cz q).1, (cz q).2 + 1 + j) = _
          rw [Nat.add_assoc, Nat.add_comm 1 j])
        have hmeas : q < u := by omega
        have hjI : ((j : Int) + 1) = ((j + 1 : Nat) : Int) := by omega
        have K2 : Hid (Kp w1 (W.setCell ⟨G + 1, 2, none⟩ (.int .i64 ((j : Int) + 1))) (fun k => k = G + 1)) := Lib.hid (kp_set' (S := fun k => k = G + 1) hK.out (G + 1) 2 (.inl rfl) _)
        have hb3 : Hid ((W.setCell ⟨G + 1, 2, none⟩ (.int .i64 ((j : Int) + 1))).heap[G + 1]? = some (.cells #[.bool false, .string ⟨#[]⟩, .int .i64 ((j + 1 : Nat) : Int)] 32 (0, 0))) := Lib.hid (by
          rw [← hjI]
          exact blk_put hb2.out 2 _ rfl)
        replace hq := Lib.hid hq
        replace hmeas := Lib.hid hmeas
        replace hjI := Lib.hid hjI
        replace hmq := Lib.hid hmq
        replace huq := Lib.hid huq
        go_wp2_with fail
        go_roundw
        case rel => exact ⟨q, j + 1, _, rfl, rfl, hqu, hj2, hcu2, hmul2, hb3, K2⟩
        case measure => simp only [intOf, Int.toNat_natCast]; exact hmeas.out
      · have hcu' := hcu.out
        rw [hcz.out, cz_stop (n := u) (by omega)] at hcu'
        have hvu : v = u := by have := congrArg Prod.fst hcu'; simpa using this
        have hkj : k = j := by have := congrArg Prod.snd hcu'; simpa using this
        subst hvu hkj
        clear hcu'
        by_cases U0 : v = 0
        · subst U0
          go_wp2_with fail
          refine (hdg.out _).mono ?_
          rintro e W2 ⟨rfl, ⟨md, rfl⟩⟩
          go_wp2_with fail
          have E := whole_end (md := md) (b := false) (D := ⟨(dg 0).toArray⟩) (k := (k : Int)) hb1.out B1.out hK.out hG.out
          refine bodyPost_ret (results_cell_row rfl _ _ G 32 #[.bool false, .string ⟨(dg 0).toArray⟩, .int .i64 (k : Int)] (0, 0) _ rfl E.1 Tryz.underlying32 rfl (by kernel_rfl)) rfl ?_
          exact ⟨rfl, E.2⟩
        · have hpos : (0 : Int) < (v : Int) := by omega
          have hrem : ((v : Int) % 10 == 0) = false := beq_eq_false_iff_ne.2 (by omega)
          go_wp2_with fail
          refine (hdg.out _).mono ?_
          rintro e W2 ⟨rfl, ⟨md, rfl⟩⟩
          go_wp2_with fail
          have E := whole_end (md := md) (b := false) (D := ⟨(dg v).toArray⟩) (k := (k : Int)) hb1.out B1.out hK.out hG.out
          refine bodyPost_ret (results_cell_row rfl _ _ G 32 #[.bool false, .string ⟨(dg v).toArray⟩, .int .i64 (k : Int)] (0, 0) _ rfl E.1 Tryz.underlying32 rfl (by kernel_rfl)) rfl ?_
          exact ⟨rfl, E.2⟩
  · have hb2 : decide (-(m : Int) < 0) = b := hb
    have hbf : b = true := by rw [← hb]; exact decide_eq_true (by omega)
    subst hbf
    replace hb := Lib.hid hb
    go_enter Tryz.func9, Tryz.ntmps9
    obtain ⟨G, hG⟩ : ∃ G, w.heap.size = G := ⟨_, rfl⟩
    go_wp2_with fail
    generalize hw1 : World.alloc _ _ = w1
    obtain ⟨b1, b2, B1⟩ : w1.heap[G]? = some (.cells #[.bool false, .string ⟨#[]⟩, .int .i64 0] 32 (0, 0)) ∧ w1.heap[G + 1]? = some (.cells #[.bool true, .string ⟨#[]⟩, .int .i64 0] 32 (0, 0)) ∧ Below w.heap.size w w1 := by
      subst hw1 hG
      exact ⟨blk_alloc (heap_alloc_new _ _) _, alloc2 _ _ _, below_alloc (below_alloc (Below.refl _ _) _) _⟩
    clear hw1
    replace hG := Lib.hid hG
    replace b1 := Lib.hid b1
    replace b2 := Lib.hid b2
    replace B1 := Lib.hid B1
    go_loopw [0] (fun v0 w' => ∃ (u j : Nat) (W : World), v0 = .int .i64 (u : Int) ∧ W = w' ∧ u ≤ m ∧ Hid (j < 100) ∧ Hid (cz m = ((cz u).1, (cz u).2 + j)) ∧ Hid (u ≠ 0 → u * 10 ^ j = m) ∧ Hid (W.heap[G + 1]? = some (.cells #[.bool true, .string ⟨#[]⟩, .int .i64 (j : Int)] 32 (0, 0))) ∧ Hid (Kp w1 W (fun k => k = G + 1))) (fun v0 _ => (intOf v0).toNat)
    case atStart => exact ⟨m, 0, _, rfl, rfl, by omega, Lib.hid (by decide), Lib.hid rfl, Lib.hid (fun _ => by simp), b2, Lib.hid (Kp.refl _ _)⟩
    case round =>
      obtain ⟨u, j, W, rfl, rfl, hu, hj, hcu, hmul, hb2, hK⟩ := hrel
      obtain ⟨c0, c1, c2, f0, f1, f2⟩ := blk3 hb2.out
      have hlG := blk_lt hb2.out
      have hb1 := hK.out.heap b1.out (by omega)
      obtain ⟨d0, d1, d2, g0, g1, g2⟩ := blk3 hb1
      have hlG1 := blk_lt hb1
      replace hb1 := Lib.hid hb1
      by_cases c : u ≠ 0 ∧ u % 10 = 0
      · obtain ⟨c, cc⟩ := c
        have hpos : (0 : Int) < (u : Int) := by omega
        have hrem : (u : Int) % 10 = 0 := by omega
        obtain ⟨q, hq⟩ : ∃ q, u / 10 = q := ⟨_, rfl⟩
        have hqi : (u : Int) / 10 = (q : Int) := by omega
        have hqu : q ≤ m := by omega
        have hq0 : q ≠ 0 := by omega
        have hmq := hmul.out (by omega)
        have huq : u = q * 10 := by omega
        have hmul2 : Hid (q ≠ 0 → q * 10 ^ (j + 1) = m) := Lib.hid (fun _ => by rw [Nat.pow_succ, Nat.mul_comm _ 10, ← Nat.mul_assoc, ← huq]; exact hmq)
        have hj100 := hj.out
        have hj2 : Hid (j + 1 < 100) := Lib.hid (by
          have h1 : 10 ^ (j + 1) ≤ m := by rw [← hmul2.out hq0]; exact Nat.le_mul_of_pos_left _ (by omega)
          have h2 : 10 ^ (j + 1) < 10 ^ 15 := Nat.lt_of_le_of_lt h1 (by rw [show (10 : Nat) ^ 15 = 1000000000000000 by decide]; exact hm)
          have h3 := (Nat.pow_lt_pow_iff_right (by decide : 1 < 10)).1 h2
          omega)
        have hcu2 : Hid (cz m = ((cz q).1, (cz q).2 + (j + 1))) := Lib.hid (by
          rw [hcu.out, cz_step c cc, hq]
          show ((cz q).1, (cz q).2 + 1 + j) = _
          rw [Nat.add_assoc, Nat.add_comm 1 j])
        have hmeas : q < u := by omega
        have hjI : ((j : Int) + 1) = ((j + 1 : Nat) : Int) := by omega
        have K2 : Hid (Kp w1 (W.setCell ⟨G + 1, 2, none⟩ (.int .i64 ((j : Int) + 1))) (fun k => k = G + 1)) := Lib.hid (kp_set' (S := fun k => k = G + 1) hK.out (G + 1) 2 (.inl rfl) _)
        have hb3 : Hid ((W.setCell ⟨G + 1, 2, none⟩ (.int .i64 ((j : Int) + 1))).heap[G + 1]? = some (.cells #[.bool true, .string ⟨#[]⟩, .int .i64 ((j + 1 : Nat) : Int)] 32 (0, 0))) := Lib.hid (by
          rw [← hjI]
          exact blk_put hb2.out 2 _ rfl)
        replace hq := Lib.hid hq
        replace hmeas := Lib.hid hmeas
        replace hjI := Lib.hid hjI
        replace hmq := Lib.hid hmq
        replace huq := Lib.hid huq
        go_wp2_with fail
        go_roundw
        case rel => exact ⟨q, j + 1, _, rfl, rfl, hqu, hj2, hcu2, hmul2, hb3, K2⟩
        case measure => simp only [intOf, Int.toNat_natCast]; exact hmeas.out
      · have hcu' := hcu.out
        rw [hcz.out, cz_stop (n := u) (by omega)] at hcu'
        have hvu : v = u := by have := congrArg Prod.fst hcu'; simpa using this
        have hkj : k = j := by have := congrArg Prod.snd hcu'; simpa using this
        subst hvu hkj
        clear hcu'
        by_cases U0 : v = 0
        · subst U0
          go_wp2_with fail
          refine (hdg.out _).mono ?_
          rintro e W2 ⟨rfl, ⟨md, rfl⟩⟩
          go_wp2_with fail
          have E := whole_end (md := md) (b := true) (D := ⟨(dg 0).toArray⟩) (k := (k : Int)) hb1.out B1.out hK.out hG.out
          refine bodyPost_ret (results_cell_row rfl _ _ G 32 #[.bool true, .string ⟨(dg 0).toArray⟩, .int .i64 (k : Int)] (0, 0) _ rfl E.1 Tryz.underlying32 rfl (by kernel_rfl)) rfl ?_
          exact ⟨rfl, E.2⟩
        · have hpos : (0 : Int) < (v : Int) := by omega
          have hrem : ((v : Int) % 10 == 0) = false := beq_eq_false_iff_ne.2 (by omega)
          go_wp2_with fail
          refine (hdg.out _).mono ?_
          rintro e W2 ⟨rfl, ⟨md, rfl⟩⟩
          go_wp2_with fail
          have E := whole_end (md := md) (b := true) (D := ⟨(dg v).toArray⟩) (k := (k : Int)) hb1.out B1.out hK.out hG.out
          refine bodyPost_ret (results_cell_row rfl _ _ G 32 #[.bool true, .string ⟨(dg v).toArray⟩, .int .i64 (k : Int)] (0, 0) _ rfl E.1 Tryz.underlying32 rfl (by kernel_rfl)) rfl ?_
          exact ⟨rfl, E.2⟩
end Go.Proofs.YtcpgcjmamjjokaaGreatDoor
