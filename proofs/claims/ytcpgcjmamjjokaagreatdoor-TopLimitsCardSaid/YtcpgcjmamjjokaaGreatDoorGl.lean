/- pack's reader: bytes off, a number, texts, items. pack's reader: a list of a text and bytes. -/
import Derived.Test.YtcpgcjmamjjokaaGreatDoorGi
namespace Go.Proofs.YtcpgcjmamjjokaaGreatDoor
open Go.RowKit Go.Maps Go.Proofs.YtcpgcjmamjjokaaGreatDoorW.PrintWords Go.Proofs.YtcpgcjmamjjokaaGreatDoorW.PrintLast Go.Proofs.YtcpgcjmamjjokaaGreatDoorW.PrintMore Go.Proofs.YtcpgcjmamjjokaaGreatDoor.PTopLimits
set_option linter.unusedVariables false
set_option linter.unusedSimpArgs false
theorem bytes_at {w : World} {b o : Nat} {s : List UInt8} (h : ∀ j, j < s.length → w.cell? ⟨b, o + j, none⟩ = some (.int .u8 ((s.getD j 0).toNat : Int))) (hs : s.length ≤ 1000) : BytesAt w (some ⟨b, o, none⟩) s := by
  refine ⟨by simp, by omega, fun _ => ⟨_, rfl, fun j hj => ?_⟩⟩
  rw [Addr.add_mid]
  refine (h j hj).trans ?_
  simp [List.getD_eq_getElem?_getD, hj]
set_option maxRecDepth 100000 in
theorem pis_eq (w : World) : Calls Tryz.prog 190 #[.bool true] w fun e w' => e = .returned (.tuple #[]) ∧ w = w' := by
  go_enter Tryz.func190, Tryz.ntmps190
  go_wp2_with fail
  go_end0
  exact ⟨rfl, rfl⟩
set_option maxHeartbeats 3200000 in
set_option maxRecDepth 100000 in
theorem ptake1 (R b : Nat) (x : UInt8) (l : List UInt8) (w : World) (h : CS 267 R b (x :: l) w) (hb : b ≠ R) :
    Calls Tryz.prog 239 #[.pointer (some ⟨R, 0, none⟩), .int .u64 1] w fun e w' => e = .returned (.string ⟨#[x]⟩) ∧ CS 267 R b l w' ∧ Kp w w' (· = R) := by
  obtain ⟨o, c, A, h1, h2, h3, h4, h5, h6⟩ := h
  obtain rfl := h5 (by simp)
  have hI := Lib.hid pis_eq
  have hlen : (x :: l).length = l.length + 1 := rfl
  rw [hlen] at h1 h2 h4
  have hby : BytesAt w (some ⟨b, o, none⟩) [x] := bytes_at (fun j hj => (h6 j (by rw [hlen]; have : j < 1 := hj; omega)).trans (by
    have : j < 1 := hj
    rcases j with _ | j <;> first | rfl | omega)) (by simp)
  have hst : ∀ v, (convert 65 9 (.slice (some ⟨b, o, none⟩) 1 c)).run Tryz.prog (w.setCell ⟨R, 0, none⟩ v) = .ok (.string ⟨#[x]⟩) (w.setCell ⟨R, 0, none⟩ v) := fun v => by
    have hb2 : BytesAt (w.setCell ⟨R, 0, none⟩ v) (some ⟨b, o, none⟩) [x] := bytes_at (fun j hj => (kp_one w R 0 v).cell ((h6 j (by rw [hlen]; have : j < 1 := hj; omega)).trans (by
      have : j < 1 := hj
      rcases j with _ | j <;> first | rfl | omega)) hb) (by simp)
    exact hb2.str c
  obtain ⟨m, hm⟩ : ∃ m, l.length = m := ⟨_, rfl⟩
  rw [hm] at h1 h2 h4
  obtain ⟨rc0, rc1, rf0, rf1⟩ := blk2 h1
  have hlt := blk_lt h1
  have hw1 : Go.RowKit.wrap64 ((m : Int) + 1) = (m : Int) + 1 := by unfold Go.RowKit.wrap64; omega
  replace h1 := Lib.hid h1
  replace h6 := Lib.hid h6
  replace hlen := Lib.hid hlen
  replace hby := Lib.hid hby
  replace hm := Lib.hid hm
  go_enter Tryz.func239, Tryz.ntmps239
  go_wp2_with fail
  rw [show decide ((1 : Int) ≤ (m : Int) + 1) = true from decide_eq_true (by omega)]
  refine (hI.out _).mono ?_
  rintro e w1 ⟨rfl, rfl⟩
  go_wp2_with fail
  · go_ret
    have hm0 : m = 0 := by omega
    have hl0 : l = [] := List.eq_nil_of_length_eq_zero (by rw [hm.out, hm0])
    subst hl0
    refine ⟨rfl, ⟨o, 0, some ⟨b, o, none⟩, ?_, Nat.le_refl _, by omega, by decide, fun h => absurd rfl h, fun j hj => absurd hj (Nat.not_lt_zero _)⟩, kp_one w R 0 _⟩
    subst hm0
    exact blk_put h1.out 0 _ rfl
  · go_ret
    refine ⟨rfl, ⟨o + 1, c - 1, some ⟨b, o + 1, none⟩, ?_, ?_, by omega, ?_, fun _ => rfl, fun j hj => ?_⟩, kp_one w R 0 _⟩
    · rw [hm.out]
      exact blk_put h1.out 0 _ rfl
    · have := hm.out; omega
    · have := hm.out; omega
    · have h7 := h6.out (j + 1) (by rw [hlen.out]; omega)
      rw [show o + (j + 1) = o + 1 + j by omega] at h7
      exact (kp_one w R 0 _).cell (by simpa using h7) hb
set_option maxHeartbeats 3200000 in
set_option maxRecDepth 100000 in
theorem ptake4 (R b : Nat) (l : List UInt8) (w : World) (h : CS 267 R b (36 :: 116 :: 97 :: 103 :: l) w) (hb : b ≠ R) :
    Calls Tryz.prog 239 #[.pointer (some ⟨R, 0, none⟩), .int .u64 4] w fun e w' => e = .returned (.string ⟨#[36, 116, 97, 103]⟩) ∧ CS 267 R b l w' ∧ Kp w w' (· = R) := by
  obtain ⟨o, c, A, h1, h2, h3, h4, h5, h6⟩ := h
  obtain rfl := h5 (by simp)
  have hI := Lib.hid pis_eq
  have hlen : (36 :: 116 :: 97 :: 103 :: l).length = l.length + 4 := rfl
  rw [hlen] at h1 h2 h4
  have hby : BytesAt w (some ⟨b, o, none⟩) [36, 116, 97, 103] := bytes_at (fun j hj => (h6 j (by rw [hlen]; have : j < 4 := hj; omega)).trans (by
    have : j < 4 := hj
    rcases j with _ | _ | _ | _ | j <;> first | rfl | omega)) (by simp)
  have hst : ∀ v, (convert 65 9 (.slice (some ⟨b, o, none⟩) 4 c)).run Tryz.prog (w.setCell ⟨R, 0, none⟩ v) = .ok (.string ⟨#[36, 116, 97, 103]⟩) (w.setCell ⟨R, 0, none⟩ v) := fun v => by
    have hb2 : BytesAt (w.setCell ⟨R, 0, none⟩ v) (some ⟨b, o, none⟩) [36, 116, 97, 103] := bytes_at (fun j hj => (kp_one w R 0 v).cell ((h6 j (by rw [hlen]; have : j < 4 := hj; omega)).trans (by
      have : j < 4 := hj
      rcases j with _ | _ | _ | _ | j <;> first | rfl | omega)) hb) (by simp)
    exact hb2.str c
  obtain ⟨m, hm⟩ : ∃ m, l.length = m := ⟨_, rfl⟩
  rw [hm] at h1 h2 h4
  obtain ⟨rc0, rc1, rf0, rf1⟩ := blk2 h1
  have hlt := blk_lt h1
  have hw1 : Go.RowKit.wrap64 ((m : Int) + 4) = (m : Int) + 4 := by unfold Go.RowKit.wrap64; omega
  replace h1 := Lib.hid h1
  replace h6 := Lib.hid h6
  replace hlen := Lib.hid hlen
  replace hby := Lib.hid hby
  replace hm := Lib.hid hm
  go_enter Tryz.func239, Tryz.ntmps239
  go_wp2_with fail
  rw [show decide ((4 : Int) ≤ (m : Int) + 4) = true from decide_eq_true (by omega)]
  refine (hI.out _).mono ?_
  rintro e w1 ⟨rfl, rfl⟩
  go_wp2_with fail
  · go_ret
    have hm0 : m = 0 := by omega
    have hl0 : l = [] := List.eq_nil_of_length_eq_zero (by rw [hm.out, hm0])
    subst hl0
    refine ⟨rfl, ⟨o, 0, some ⟨b, o, none⟩, ?_, Nat.le_refl _, by omega, by decide, fun h => absurd rfl h, fun j hj => absurd hj (Nat.not_lt_zero _)⟩, kp_one w R 0 _⟩
    subst hm0
    exact blk_put h1.out 0 _ rfl
  · go_ret
    refine ⟨rfl, ⟨o + 4, c - 4, some ⟨b, o + 4, none⟩, ?_, ?_, by omega, ?_, fun _ => rfl, fun j hj => ?_⟩, kp_one w R 0 _⟩
    · rw [hm.out]
      exact blk_put h1.out 0 _ rfl
    · have := hm.out; omega
    · have := hm.out; omega
    · have h7 := h6.out (j + 4) (by rw [hlen.out]; omega)
      rw [show o + (j + 4) = o + 4 + j by omega] at h7
      exact (kp_one w R 0 _).cell (by simpa using h7) hb
set_option maxHeartbeats 3200000 in
set_option maxRecDepth 100000 in
theorem pnumber1 (R b : Nat) (l : List UInt8) (w : World) (h : CS 267 R b (1 :: l) w) (hb : b ≠ R) :
    Calls Tryz.prog 244 #[.pointer (some ⟨R, 0, none⟩), .int .u64 1] w fun e w' => e = .returned (.int .u64 1) ∧ CS 267 R b l w' ∧ Kp w w' (· = R) := by
  have hcv := cv_bytes
  have hT := Lib.hid (fun x l w h => ptake1 R b x l w h hb)
  have e1 : bits .or .u64 0 1 = 1 := by decide +kernel
  replace h := Lib.hid h
  go_enter Tryz.func244, Tryz.ntmps244
  go_wp2_with fail
  refine (hT.out 1 l w h.out).mono ?_
  rintro e w1 ⟨rfl, h1, K1⟩
  go_wp2_with fail
  generalize hw2 : Lib.bytesWorld w1 5 _ = w2
  obtain ⟨h2, K2, c0⟩ : CS 267 R b l w2 ∧ Kp w w2 (· = R) ∧ w2.cell? ⟨w1.heap.size, 0, none⟩ = some (.int .u8 1) := by
    subst hw2
    exact ⟨h1.below (bytes_below _ _), K1.below (bytes_below _ _), (Lib.bytesWorld_cell w1 5 ⟨#[1]⟩ 0 (by decide)).trans rfl⟩
  clear hw2 h1 K1
  replace h2 := Lib.hid h2
  replace K2 := Lib.hid K2
  refine wp_loop_rounds 2 ?_
  rw [rounds_succ]
  go_wp2_with fail
  rw [rounds_succ]
  go_wp2_with fail
  go_ret
  exact ⟨rfl, h2.out, K2.out⟩
set_option maxHeartbeats 3200000 in
set_option maxRecDepth 100000 in
theorem ptext1 (R b : Nat) (l : List UInt8) (w : World) (h : CS 267 R b (116 :: l) w) (hb : b < w.heap.size) (hbR : b ≠ R) (hT : Lib.Utf8Tabs 0 1 w) (hR : 2 ≤ R) :
    Calls Tryz.prog 243 #[.pointer (some ⟨R, 0, none⟩), .int .u64 1] w fun e w' => e = .returned (.agg #[.int .i64 5, .bool false, .bool false, .string ⟨#[]⟩, .int .i64 0, .int .u64 0, .string ⟨#[116]⟩, .slice none 0 0, .slice none 0 0]) ∧ CS 267 R b l w' ∧ Kp w w' (· = R) := by
  have hK := Lib.hid (fun l w h => ptake1 R b 116 l w h hbR)
  have hI := Lib.hid pis_eq
  have hV := Lib.hid (fun w hT => Valid_any ⟨#[116]⟩ (by decide) w hT)
  have hvd : Lib.validD (⟨#[116]⟩ : ByteArray).data.toList = true := by decide +kernel
  have hRl := h.lt
  replace h := Lib.hid h
  replace hT := Lib.hid hT
  go_enter Tryz.func243, Tryz.ntmps243
  go_wp2_with fail
  generalize hw1 : World.alloc w _ = w1
  obtain ⟨x1, B1⟩ := alloc_at hw1
  clear hw1
  obtain ⟨X, hX⟩ : ∃ X, w.heap.size = X := ⟨_, rfl⟩
  rw [hX] at x1 hb hRl
  rw [hX]
  have hXX := Nat.le_of_eq hX
  have K1 := Lib.hid (Kp.of_below B1 (· = R))
  have h1 := h.out.below B1
  have hT1 := Utf8Tabs_below hT.out B1
  clear B1
  replace hX := Lib.hid hX
  replace hXX := Lib.hid hXX
  refine (hK.out l w1 h1).mono ?_
  rintro e w2 ⟨rfl, h2, q⟩
  have x2 := q.heap x1 (by omega)
  have K2 := Lib.hid (K1.out.trans q (fun _ hi => .inl hi))
  have hT2 := q.tabs hT1 (by omega) (by omega)
  clear q K1 x1 h1
  replace x2 := Lib.hid x2
  replace h2 := Lib.hid h2
  replace hT2 := Lib.hid hT2
  go_wp2_with fail
  refine (hV.out _ hT2.out).mono ?_
  rintro e w4 ⟨rfl, B4⟩
  rw [hvd]
  have x4 := blk_below x2.out B4
  have h4 := Lib.hid (h2.out.below B4)
  have K4 := Lib.hid (K2.out.below B4)
  clear h2 K2 x2 hT2 B4
  obtain ⟨zc0, zc1, zc2, zc3, zc4, zc5, zc6, zc7, zc8, zf0, zf1, zf2, zf3, zf4, zf5, zf6, zf7, zf8⟩ := blk9 x4
  have l4 := blk_lt x4
  replace x4 := Lib.hid x4
  go_wp2_with fail
  refine (hI.out _).mono ?_
  rintro e w5 ⟨rfl, rfl⟩
  go_wp2_with fail
  refine bodyPost_ret (results_cell_row rfl _ _ X 36 #[.int .i64 5, .bool false, .bool false, .string ⟨#[]⟩, .int .i64 0, .int .u64 0, .string ⟨#[116]⟩, .slice none 0 0, .slice none 0 0] (0, 0) _ rfl (set9_heap x4.out) Tryz.underlying36 rfl (by kernel_rfl)) rfl ?_
  exact ⟨rfl, h4.out.kp (set9_kp _ _ _ _ _ _ _ _ _ _ _) (by omega) (by omega), K4.out.trans (set9_kp _ _ _ _ _ _ _ _ _ _ _) (fun i hi => .inr (by have := hXX.out; omega))⟩
set_option maxHeartbeats 3200000 in
set_option maxRecDepth 100000 in
theorem ptext4 (R b : Nat) (l : List UInt8) (w : World) (h : CS 267 R b (36 :: 116 :: 97 :: 103 :: l) w) (hb : b < w.heap.size) (hbR : b ≠ R) (hT : Lib.Utf8Tabs 0 1 w) (hR : 2 ≤ R) :
    Calls Tryz.prog 243 #[.pointer (some ⟨R, 0, none⟩), .int .u64 4] w fun e w' => e = .returned (.agg #[.int .i64 5, .bool false, .bool false, .string ⟨#[]⟩, .int .i64 0, .int .u64 0, .string ⟨#[36, 116, 97, 103]⟩, .slice none 0 0, .slice none 0 0]) ∧ CS 267 R b l w' ∧ Kp w w' (· = R) := by
  have hK := Lib.hid (fun l w h => ptake4 R b l w h hbR)
  have hI := Lib.hid pis_eq
  have hV := Lib.hid (fun w hT => Valid_any ⟨#[36, 116, 97, 103]⟩ (by decide) w hT)
  have hvd : Lib.validD (⟨#[36, 116, 97, 103]⟩ : ByteArray).data.toList = true := by decide +kernel
  have hRl := h.lt
  replace h := Lib.hid h
  replace hT := Lib.hid hT
  go_enter Tryz.func243, Tryz.ntmps243
  go_wp2_with fail
  generalize hw1 : World.alloc w _ = w1
  obtain ⟨x1, B1⟩ := alloc_at hw1
  clear hw1
  obtain ⟨X, hX⟩ : ∃ X, w.heap.size = X := ⟨_, rfl⟩
  rw [hX] at x1 hb hRl
  rw [hX]
  have hXX := Nat.le_of_eq hX
  have K1 := Lib.hid (Kp.of_below B1 (· = R))
  have h1 := h.out.below B1
  have hT1 := Utf8Tabs_below hT.out B1
  clear B1
  replace hX := Lib.hid hX
  replace hXX := Lib.hid hXX
  refine (hK.out l w1 h1).mono ?_
  rintro e w2 ⟨rfl, h2, q⟩
  have x2 := q.heap x1 (by omega)
  have K2 := Lib.hid (K1.out.trans q (fun _ hi => .inl hi))
  have hT2 := q.tabs hT1 (by omega) (by omega)
  clear q K1 x1 h1
  replace x2 := Lib.hid x2
  replace h2 := Lib.hid h2
  replace hT2 := Lib.hid hT2
  go_wp2_with fail
  refine (hV.out _ hT2.out).mono ?_
  rintro e w4 ⟨rfl, B4⟩
  rw [hvd]
  have x4 := blk_below x2.out B4
  have h4 := Lib.hid (h2.out.below B4)
  have K4 := Lib.hid (K2.out.below B4)
  clear h2 K2 x2 hT2 B4
  obtain ⟨zc0, zc1, zc2, zc3, zc4, zc5, zc6, zc7, zc8, zf0, zf1, zf2, zf3, zf4, zf5, zf6, zf7, zf8⟩ := blk9 x4
  have l4 := blk_lt x4
  replace x4 := Lib.hid x4
  go_wp2_with fail
  refine (hI.out _).mono ?_
  rintro e w5 ⟨rfl, rfl⟩
  go_wp2_with fail
  refine bodyPost_ret (results_cell_row rfl _ _ X 36 #[.int .i64 5, .bool false, .bool false, .string ⟨#[]⟩, .int .i64 0, .int .u64 0, .string ⟨#[36, 116, 97, 103]⟩, .slice none 0 0, .slice none 0 0] (0, 0) _ rfl (set9_heap x4.out) Tryz.underlying36 rfl (by kernel_rfl)) rfl ?_
  exact ⟨rfl, h4.out.kp (set9_kp _ _ _ _ _ _ _ _ _ _ _) (by omega) (by omega), K4.out.trans (set9_kp _ _ _ _ _ _ _ _ _ _ _) (fun i hi => .inr (by have := hXX.out; omega))⟩
set_option maxHeartbeats 3200000 in
set_option maxRecDepth 100000 in
theorem pitem_text1 (R b : Nat) (l : List UInt8) (w : World) (h : CS 267 R b (161 :: 116 :: l) w) (hb : b < w.heap.size) (hbR : b ≠ R) (hT : Lib.Utf8Tabs 0 1 w) (hR : 2 ≤ R) :
    Calls Tryz.prog 189 #[.pointer (some ⟨R, 0, none⟩)] w fun e w' => e = .returned (.agg #[.int .i64 5, .bool false, .bool false, .string ⟨#[]⟩, .int .i64 0, .int .u64 0, .string ⟨#[116]⟩, .slice none 0 0, .slice none 0 0]) ∧ CS 267 R b l w' ∧ Kp w w' (· = R) := by
  have hK := Lib.hid (fun x l w h => ptake1 R b x l w h hbR)
  have hX2 := Lib.hid (fun l w h hb hT => ptext1 R b l w h hb hbR hT hR)
  have e1 : bits .and .u8 161 31 = 1 := by decide +kernel
  have hRl := h.lt
  replace h := Lib.hid h
  replace hT := Lib.hid hT
  go_enter Tryz.func189, Tryz.ntmps189
  go_wp2_with fail
  generalize hw1 : World.alloc w _ = w1
  obtain ⟨x1, B1⟩ := alloc_at hw1
  clear hw1
  obtain ⟨X, hX⟩ : ∃ X, w.heap.size = X := ⟨_, rfl⟩
  rw [hX] at x1 hb hRl
  rw [hX]
  have hXX := Nat.le_of_eq hX
  have K1 := Lib.hid (Kp.of_below B1 (· = R))
  have h1 := h.out.below B1
  have hT1 := Utf8Tabs_below hT.out B1
  clear B1
  replace hX := Lib.hid hX
  replace hXX := Lib.hid hXX
  refine (hK.out 161 _ w1 h1).mono ?_
  rintro e w2 ⟨rfl, h2, q⟩
  have x2 := q.heap x1 (by omega)
  have K2 := Lib.hid (K1.out.trans q (fun _ hi => .inl hi))
  have hT2 := q.tabs hT1 (by omega) (by omega)
  have l2 := blk_lt x2
  clear q K1 x1 h1
  replace x2 := Lib.hid x2
  replace h2 := Lib.hid h2
  replace hT2 := Lib.hid hT2
  go_wp2_with fail
  refine (hX2.out l w2 h2.out (by omega) hT2.out).mono ?_
  rintro e w3 ⟨rfl, h3, q⟩
  have x4 := q.heap x2.out (by omega)
  have K4 := Lib.hid (K2.out.trans q (fun _ hi => .inl hi))
  clear q K2 x2 h2 hT2
  obtain ⟨zc0, zc1, zc2, zc3, zc4, zc5, zc6, zc7, zc8, zf0, zf1, zf2, zf3, zf4, zf5, zf6, zf7, zf8⟩ := blk9 x4
  have l4 := blk_lt x4
  replace x4 := Lib.hid x4
  have h4 := Lib.hid h3
  clear h3
  go_wp2_with fail
  refine bodyPost_ret (results_cell_row rfl _ _ X 36 #[.int .i64 5, .bool false, .bool false, .string ⟨#[]⟩, .int .i64 0, .int .u64 0, .string ⟨#[116]⟩, .slice none 0 0, .slice none 0 0] (0, 0) _ rfl (set9_heap x4.out) Tryz.underlying36 rfl (by kernel_rfl)) rfl ?_
  exact ⟨rfl, h4.out.kp (set9_kp _ _ _ _ _ _ _ _ _ _ _) (by omega) (by omega), K4.out.trans (set9_kp _ _ _ _ _ _ _ _ _ _ _) (fun i hi => .inr (by have := hXX.out; omega))⟩
set_option maxHeartbeats 3200000 in
set_option maxRecDepth 100000 in
theorem pitem_text4 (R b : Nat) (l : List UInt8) (w : World) (h : CS 267 R b (164 :: 36 :: 116 :: 97 :: 103 :: l) w) (hb : b < w.heap.size) (hbR : b ≠ R) (hT : Lib.Utf8Tabs 0 1 w) (hR : 2 ≤ R) :
    Calls Tryz.prog 189 #[.pointer (some ⟨R, 0, none⟩)] w fun e w' => e = .returned (.agg #[.int .i64 5, .bool false, .bool false, .string ⟨#[]⟩, .int .i64 0, .int .u64 0, .string ⟨#[36, 116, 97, 103]⟩, .slice none 0 0, .slice none 0 0]) ∧ CS 267 R b l w' ∧ Kp w w' (· = R) := by
  have hK := Lib.hid (fun x l w h => ptake1 R b x l w h hbR)
  have hX2 := Lib.hid (fun l w h hb hT => ptext4 R b l w h hb hbR hT hR)
  have e1 : bits .and .u8 164 31 = 4 := by decide +kernel
  have hRl := h.lt
  replace h := Lib.hid h
  replace hT := Lib.hid hT
  go_enter Tryz.func189, Tryz.ntmps189
  go_wp2_with fail
  generalize hw1 : World.alloc w _ = w1
  obtain ⟨x1, B1⟩ := alloc_at hw1
  clear hw1
  obtain ⟨X, hX⟩ : ∃ X, w.heap.size = X := ⟨_, rfl⟩
  rw [hX] at x1 hb hRl
  rw [hX]
  have hXX := Nat.le_of_eq hX
  have K1 := Lib.hid (Kp.of_below B1 (· = R))
  have h1 := h.out.below B1
  have hT1 := Utf8Tabs_below hT.out B1
  clear B1
  replace hX := Lib.hid hX
  replace hXX := Lib.hid hXX
  refine (hK.out 164 _ w1 h1).mono ?_
  rintro e w2 ⟨rfl, h2, q⟩
  have x2 := q.heap x1 (by omega)
  have K2 := Lib.hid (K1.out.trans q (fun _ hi => .inl hi))
  have hT2 := q.tabs hT1 (by omega) (by omega)
  have l2 := blk_lt x2
  clear q K1 x1 h1
  replace x2 := Lib.hid x2
  replace h2 := Lib.hid h2
  replace hT2 := Lib.hid hT2
  go_wp2_with fail
  refine (hX2.out l w2 h2.out (by omega) hT2.out).mono ?_
  rintro e w3 ⟨rfl, h3, q⟩
  have x4 := q.heap x2.out (by omega)
  have K4 := Lib.hid (K2.out.trans q (fun _ hi => .inl hi))
  clear q K2 x2 h2 hT2
  obtain ⟨zc0, zc1, zc2, zc3, zc4, zc5, zc6, zc7, zc8, zf0, zf1, zf2, zf3, zf4, zf5, zf6, zf7, zf8⟩ := blk9 x4
  have l4 := blk_lt x4
  replace x4 := Lib.hid x4
  have h4 := Lib.hid h3
  clear h3
  go_wp2_with fail
  refine bodyPost_ret (results_cell_row rfl _ _ X 36 #[.int .i64 5, .bool false, .bool false, .string ⟨#[]⟩, .int .i64 0, .int .u64 0, .string ⟨#[36, 116, 97, 103]⟩, .slice none 0 0, .slice none 0 0] (0, 0) _ rfl (set9_heap x4.out) Tryz.underlying36 rfl (by kernel_rfl)) rfl ?_
  exact ⟨rfl, h4.out.kp (set9_kp _ _ _ _ _ _ _ _ _ _ _) (by omega) (by omega), K4.out.trans (set9_kp _ _ _ _ _ _ _ _ _ _ _) (fun i hi => .inr (by have := hXX.out; omega))⟩
set_option maxHeartbeats 3200000 in
set_option maxRecDepth 100000 in
theorem pitem_bytes (R b : Nat) (l : List UInt8) (w : World) (h : CS 267 R b (196 :: 1 :: 0 :: l) w) (hb : b < w.heap.size) (hbR : b ≠ R) (hT : Lib.Utf8Tabs 0 1 w) (hR : 2 ≤ R) :
    Calls Tryz.prog 189 #[.pointer (some ⟨R, 0, none⟩)] w fun e w' => e = .returned (.agg #[.int .i64 6, .bool false, .bool false, .string ⟨#[]⟩, .int .i64 0, .int .u64 0, .string ⟨#[0]⟩, .slice none 0 0, .slice none 0 0]) ∧ CS 267 R b l w' ∧ Kp w w' (· = R) := by
  have hK := Lib.hid (fun x l w h => ptake1 R b x l w h hbR)
  have hN := Lib.hid (fun l w h => pnumber1 R b l w h hbR)
  have hRl := h.lt
  replace h := Lib.hid h
  replace hT := Lib.hid hT
  go_enter Tryz.func189, Tryz.ntmps189
  go_wp2_with fail
  generalize hw1 : World.alloc w _ = w1
  obtain ⟨x1, B1⟩ := alloc_at hw1
  clear hw1
  obtain ⟨X, hX⟩ : ∃ X, w.heap.size = X := ⟨_, rfl⟩
  rw [hX] at x1 hb hRl
  rw [hX]
  have hXX := Nat.le_of_eq hX
  have K1 := Lib.hid (Kp.of_below B1 (· = R))
  have h1 := h.out.below B1
  have hT1 := Utf8Tabs_below hT.out B1
  clear B1
  replace hX := Lib.hid hX
  replace hXX := Lib.hid hXX
  refine (hK.out 196 _ w1 h1).mono ?_
  rintro e w2 ⟨rfl, h2, q⟩
  have x2 := q.heap x1 (by omega)
  have K2 := Lib.hid (K1.out.trans q (fun _ hi => .inl hi))
  have l2 := blk_lt x2
  clear q K1 x1 h1
  replace x2 := Lib.hid x2
  replace h2 := Lib.hid h2
  go_wp2_with fail
  refine (hN.out _ w2 h2.out).mono ?_
  rintro e w3 ⟨rfl, h3, q⟩
  have x3 := Lib.hid (q.heap x2.out (by omega))
  have K3 := Lib.hid (K2.out.trans q (fun _ hi => .inl hi))
  clear q K2 x2 h2
  go_wp2_with fail
  refine (hK.out 0 _ w3 h3).mono ?_
  rintro e w4 ⟨rfl, h4, q⟩
  have x4 := q.heap x3.out (by omega)
  have K4 := Lib.hid (K3.out.trans q (fun _ hi => .inl hi))
  clear q K3 x3 h3
  obtain ⟨zc0, zc1, zc2, zc3, zc4, zc5, zc6, zc7, zc8, zf0, zf1, zf2, zf3, zf4, zf5, zf6, zf7, zf8⟩ := blk9 x4
  have l4 := blk_lt x4
  replace x4 := Lib.hid x4
  replace h4 := Lib.hid h4
  go_wp2_with fail
  refine bodyPost_ret (results_cell_row rfl _ _ X 36 #[.int .i64 6, .bool false, .bool false, .string ⟨#[]⟩, .int .i64 0, .int .u64 0, .string ⟨#[0]⟩, .slice none 0 0, .slice none 0 0] (0, 0) _ rfl (set9_heap x4.out) Tryz.underlying36 rfl (by kernel_rfl)) rfl ?_
  exact ⟨rfl, h4.out.kp (set9_kp _ _ _ _ _ _ _ _ _ _ _) (by omega) (by omega), K4.out.trans (set9_kp _ _ _ _ _ _ _ _ _ _ _) (fun i hi => .inr (by have := hXX.out; omega))⟩
end Go.Proofs.YtcpgcjmamjjokaaGreatDoor
namespace Go.Proofs.YtcpgcjmamjjokaaGreatDoor
open Go.RowKit Go.Maps Go.Proofs.YtcpgcjmamjjokaaGreatDoorW.PrintWords Go.Proofs.YtcpgcjmamjjokaaGreatDoorW.PrintLast Go.Proofs.YtcpgcjmamjjokaaGreatDoorW.PrintMore Go.Proofs.YtcpgcjmamjjokaaGreatDoor.PTopLimits
set_option linter.unusedVariables false
set_option linter.unusedSimpArgs false
set_option maxHeartbeats 6400000 in
set_option maxRecDepth 100000 in
theorem plist (R b : Nat) (l : List UInt8) (w : World) (h : CS 267 R b (161 :: 116 :: 196 :: 1 :: 0 :: l) w) (hb : b < w.heap.size) (hbR : b ≠ R) (hT : Lib.Utf8Tabs 0 1 w) (hR : 2 ≤ R) :
    Calls Tryz.prog 242 #[.pointer (some ⟨R, 0, none⟩), .int .u64 2] w fun e w' => ∃ z : Nat × Nat × Nat, e = .returned (.agg (objL 7 ⟨#[]⟩ (some ⟨z.2.1, 0, none⟩) 2 z.2.2).toArray) ∧ CS 267 R b l w' ∧ Kp w w' (· = R) ∧ w'.ownsRow z.1 36 9 (.slice (some ⟨z.2.1, 0, none⟩) 2 z.2.2) 2 tagRow ∧ w.heap.size ≤ z.2.1 := by
  obtain ⟨i0, hi, hz0, hz1, hz2⟩ := info_parts info36
  have hRl := h.lt
  unfold objL
  replace h := Lib.hid h
  replace hT := Lib.hid hT
  go_enter Tryz.func242, Tryz.ntmps242
  go_wp2_with fail
  generalize hw1 : World.alloc _ _ = w1
  obtain ⟨x1, v1, B1, hs1⟩ := alloc_two hw1
  clear hw1
  obtain ⟨X, hX⟩ : ∃ X, w.heap.size = X := ⟨_, rfl⟩
  rw [hX] at x1 v1 hb hRl hs1
  rw [hX]
  have hXX := Nat.le_of_eq hX
  have K1 := Kp.of_below B1 (· = R)
  have h1 := h.out.below B1
  have hT1 := Utf8Tabs_below hT.out B1
  clear B1
  obtain ⟨V, hV⟩ : ∃ V, X + 1 = V := ⟨_, rfl⟩
  rw [hV] at v1
  rw [hV]
  replace hX := Lib.hid hX
  refine wp_loop_rounds 3 ?_
  rw [rounds_succ]
  go_upto_region 4 with fail
  have cVa : w1.drew.cell? ⟨V, 8, none⟩ = some (.slice none 0 0) := (blk_cell v1 8).trans rfl
  refine start_ (n := 8) (S := fun w' => w'.cell? ⟨V, 8, none⟩ = some (.slice none 0 0)) (ds := [7]) #[false, false, false, false, false, false, false, false] (by kernel_rfl) rfl rfl cVa (fun hHeld => ?_)
  refine pure_ (i := 0) (N := some 10) (v := ?_) (a' := ?_) #[true, false, false, false, false, false, false, false] rfl rfl (by kernel_rfl) (fun _ _ _ h => h) (Or.inl ⟨by rfl, ?_⟩) ?_ ?_
  rotate_left
  · intro w'
    go_simp
    with_reducible rfl
  rotate_left
  · simp only [Act.put, List.setIfInBounds_toArray, List.set_cons_zero, List.set_cons_succ, i64_w, i32_w]
    rfl
  refine take_ (i := 1) (N := some 11) (v := ?_) (a' := ?_) #[true, true, false, false, false, false, false, false] rfl rfl (by kernel_rfl) (fun _ _ _ h => h) (Or.inl ⟨by rfl, ?_⟩) hHeld ?_ ?_
  rotate_left
  · rintro w' s0
    go_simp
    with_reducible rfl
  rotate_left
  · simp only [Act.put, List.setIfInBounds_toArray, List.set_cons_zero, List.set_cons_succ, i64_w, i32_w]
    rfl
  refine pure_ (i := 2) (N := some 12) (v := ?_) (a' := ?_) #[true, true, true, false, false, false, false, false] rfl rfl (by kernel_rfl) (fun _ _ _ h => h) (Or.inl ⟨by rfl, ?_⟩) ?_ ?_
  rotate_left
  · intro w'
    go_simp
    with_reducible rfl
  rotate_left
  · simp only [Act.put, List.setIfInBounds_toArray, List.set_cons_zero, List.set_cons_succ, i64_w, i32_w]
    rfl
  refine one_ (i := 3) (N := some 13) #[true, true, true, true, false, false, false, false] rfl rfl (by kernel_rfl) (by decide) (fun K hK => ?_)
  refine goes_ Tryz.func189 (by kernel_rfl) rfl #[.pointer (some ⟨R, 0, none⟩)] (by rfl) rfl rfl (by simp [Act.eval]) ?_
  refine (pitem_text1 R b _ w1.drew (h1.kp ((Kp.refl w1 (fun _ => False)).drew) (fun h => h) (fun h => h)) (by show b < w1.heap.size; omega) hbR (((Kp.refl w1 (fun _ => False)).drew).tabs hT1 (fun h => h) (fun h => h)) hR).mono ?_
  rintro e w3 ⟨rfl, h3, K3⟩
  replace K3 := Kp.undrew K3
  have hc8 := K3.cell (show w1.cell? ⟨V, 8, none⟩ = some (.slice none 0 0) from cVa) (show ¬ V = R by omega)
  refine ⟨_, rfl, hK.out _ _ hc8 (fun hHeld3 => ?_)⟩
  clear hK K
  refine norm_ (a' := ?_) ?_ ?_
  rotate_left
  · show Act.put _ (some 13) _ = _
    simp only [Act.put, List.setIfInBounds_toArray, List.set_cons_zero, List.set_cons_succ, i64_w, i32_w]
    rfl
  refine one_ (i := 4) (N := some 14) #[true, true, true, true, true, false, false, false] rfl rfl (by kernel_rfl) (by decide) (fun K hK => ?_)
  refine value_ (v := .slice (some ⟨w3.heap.size, 0, none⟩) 1 1) (w1 := w3.alloc (.cells #[.int .i64 5, .bool false, .bool false, .string ⟨#[]⟩, .int .i64 0, .int .u64 0, .string ⟨#[116]⟩, .slice none 0 0, .slice none 0 0] 36 (0, 0))) (by rfl) rfl ?_ ?_
  · go_simp
  have K4 := K3.alloc (.cells #[.int .i64 5, .bool false, .bool false, .string ⟨#[]⟩, .int .i64 0, .int .u64 0, .string ⟨#[116]⟩, .slice none 0 0, .slice none 0 0] 36 (0, 0))
  have q4 : Kp w3 (w3.alloc (.cells #[.int .i64 5, .bool false, .bool false, .string ⟨#[]⟩, .int .i64 0, .int .u64 0, .string ⟨#[116]⟩, .slice none 0 0, .slice none 0 0] 36 (0, 0))) (fun _ => False) := (Kp.refl w3 (fun _ => False)).alloc _
  refine hK.out _ _ (q4.cell hc8 (fun h => h)) (fun hHeld4 => ?_)
  clear hK K
  refine norm_ (a' := ?_) ?_ ?_
  rotate_left
  · show Act.put _ (some 14) _ = _
    simp only [Act.put, List.setIfInBounds_toArray, List.set_cons_zero, List.set_cons_succ, i64_w, i32_w]
    rfl
  refine one_ (i := 5) (N := some 15) #[true, true, true, true, true, true, false, false] rfl rfl (by kernel_rfl) (by decide) (fun K hK => ?_)
  have hown4 : (w3.alloc (.cells #[.int .i64 5, .bool false, .bool false, .string ⟨#[]⟩, .int .i64 0, .int .u64 0, .string ⟨#[116]⟩, .slice none 0 0, .slice none 0 0] 36 (0, 0))).ownsRow w1.heap.size 36 9 (.slice none 0 0) 0 [] := K4.own (World.ownsRow_nil _ _ _ _) (fun k hk e => by cases hk)
  refine step_append_lies _ (by rfl) _ _ _ (by rfl) w1.heap.size 36 i0 _ 9 120 Tryz.underlying34 hi hz0 hz1 hz2 rfl (by omega) (.slice none 0 0) 0 [] (by rfl) hown4 ⟨w3.heap.size, 0, none⟩ 1 1 [.int .i64 5, .bool false, .bool false, .string ⟨#[]⟩, .int .i64 0, .int .u64 0, .string ⟨#[116]⟩, .slice none 0 0, .slice none 0 0] (by rfl) (by rfl) (World.news_of_block (cs := #[.int .i64 5, .bool false, .bool false, .string ⟨#[]⟩, .int .i64 0, .int .u64 0, .string ⟨#[116]⟩, .slice none 0 0, .slice none 0 0]) (t := 36) (fr := (0, 0)) (alloc1 w3 _)) (by simp [Value.oneCell']) (by omega) (by unfold maxLen; omega) (by omega) (Nat.le_trans (Nat.le_refl _) K4.size) _ rfl ?_
  intro ga capa w5 hown5 hgrow hat hlt5
  have hV5 := row_grow (K4.heap v1 (show ¬ V = R by omega)) hgrow (fun e => by cases e)
  have c5 : w5.cell? ⟨V, 8, none⟩ = some (.slice none 0 0) := (blk_cell hV5 8).trans rfl
  have f5 := blk_frozen hV5 8
  have l5 := blk_lt hV5
  have K5 := Kp.grown_ hgrow
  have hga : w1.heap.size ≤ ga := by rcases hat with e | e; cases e; have := K4.size; omega
  have h5 := (h3.kp q4 (fun h => h) (fun h => h)).kp K5 (fun e => by cases e) (fun e => by cases e)
  clear hat
  refine hK.out _ _ c5 (fun hHeld => ?_)
  clear hK K
  refine norm_ (a' := ?_) ?_ ?_
  rotate_left
  · show Act.put _ (some 15) _ = _
    simp only [Act.put, List.setIfInBounds_toArray, List.set_cons_zero, List.set_cons_succ, i64_w, i32_w]
    rfl
  refine pure_ (i := 6) (N := some 16) (v := ?_) (a' := ?_) #[true, true, true, true, true, true, true, false] rfl rfl (by kernel_rfl) (fun _ _ _ h => h) (Or.inl ⟨by rfl, ?_⟩) ?_ ?_
  rotate_left
  · intro w'
    go_simp
    with_reducible rfl
  rotate_left
  · simp only [Act.put, List.setIfInBounds_toArray, List.set_cons_zero, List.set_cons_succ, i64_w, i32_w]
    rfl
  have hgV : ga ≠ V := by omega
  refine last_ (i := 7) (N := none) #[true, true, true, true, true, true, true, true] rfl rfl (by kernel_rfl) (by decide) (fun K hK => ?_)
  have cV5 := hHeld
  refine skip_ (w1 := ?_) (by rfl) rfl ?_ ?_
  rotate_left
  · go_simp
    rfl
  refine hK.out _ _ ?_
  clear hK
  clear K
  refine done_ (by kernel_rfl) ?_
  generalize hw6 : World.setCell w5 _ _ = wa
  obtain ⟨hVa, howna, ha, qa⟩ : wa.heap[V]? = some (.cells #[.int .i64 7, .bool false, .bool false, .string ⟨#[]⟩, .int .i64 0, .int .u64 0, .string ⟨#[]⟩, .slice none 0 0, .slice (some ⟨ga, 0, none⟩) (0 + 1) capa] 36 (0, 0)) ∧ wa.ownsRow w1.heap.size 36 9 (.slice (some ⟨ga, 0, none⟩) (0 + 1) capa) (0 + 1) ([] ++ [.int .i64 5, .bool false, .bool false, .string ⟨#[]⟩, .int .i64 0, .int .u64 0, .string ⟨#[116]⟩, .slice none 0 0, .slice none 0 0]) ∧ CS 267 R b (196 :: 1 :: 0 :: l) wa ∧ Kp w1 wa (fun k => k = R ∨ k = V ∨ some k = (Value.slice none 0 0).ownBlock) := by
    rw [← hw6]
    have k6 := kp_one w5 V 8 (.slice (some ⟨ga, 0, none⟩) (0 + 1) capa)
    refine ⟨blk_put hV5 8 _ rfl, own_far hown5 hgV _, h5.kp k6 (by omega) (by omega), ((K4.mono (fun i hi => .inl hi)).trans K5 (fun i hi => .inl (.inr (.inr hi)))).trans k6 (fun i hi => .inl (.inr (.inl hi)))⟩
  clear hw6 hHeld hHeld3 hHeld4 hown5 hV5 hgrow K5 K4 K3 h3 h5 hown4 c5 f5 l5 cV5 hc8 q4 cVa
  have xa := qa.heap x1 (by rintro (e | e | e); omega; omega; cases e)
  have hTa := qa.tabs hT1 (by rintro (e | e | e); omega; omega; cases e) (by rintro (e | e | e); omega; omega; cases e)
  have Ka := K1.trans qa (fun i hi => by rcases hi with e | e | e; exact .inl e; exact .inr (by omega); cases e)
  have sa := qa.size
  clear qa K1 x1 v1 h1 hT1
  go_wp2_with fail
  rw [rounds_succ]
  go_upto_region 4 with fail
  have cVc : wa.drew.cell? ⟨V, 8, none⟩ = some (.slice (some ⟨ga, 0, none⟩) 1 capa) := (blk_cell hVa 8).trans rfl
  refine start_ (n := 8) (S := fun w' => w'.cell? ⟨V, 8, none⟩ = some (.slice (some ⟨ga, 0, none⟩) 1 capa)) (ds := [7]) #[false, false, false, false, false, false, false, false] (by kernel_rfl) rfl rfl cVc (fun hHeld => ?_)
  refine pure_ (i := 0) (N := some 10) (v := ?_) (a' := ?_) #[true, false, false, false, false, false, false, false] rfl rfl (by kernel_rfl) (fun _ _ _ h => h) (Or.inl ⟨by rfl, ?_⟩) ?_ ?_
  rotate_left
  · intro w'
    go_simp
    with_reducible rfl
  rotate_left
  · simp only [Act.put, List.setIfInBounds_toArray, List.set_cons_zero, List.set_cons_succ, i64_w, i32_w]
    rfl
  refine take_ (i := 1) (N := some 11) (v := ?_) (a' := ?_) #[true, true, false, false, false, false, false, false] rfl rfl (by kernel_rfl) (fun _ _ _ h => h) (Or.inl ⟨by rfl, ?_⟩) hHeld ?_ ?_
  rotate_left
  · rintro w' s0
    go_simp
    with_reducible rfl
  rotate_left
  · simp only [Act.put, List.setIfInBounds_toArray, List.set_cons_zero, List.set_cons_succ, i64_w, i32_w]
    rfl
  refine pure_ (i := 2) (N := some 12) (v := ?_) (a' := ?_) #[true, true, true, false, false, false, false, false] rfl rfl (by kernel_rfl) (fun _ _ _ h => h) (Or.inl ⟨by rfl, ?_⟩) ?_ ?_
  rotate_left
  · intro w'
    go_simp
    with_reducible rfl
  rotate_left
  · simp only [Act.put, List.setIfInBounds_toArray, List.set_cons_zero, List.set_cons_succ, i64_w, i32_w]
    rfl
  refine one_ (i := 3) (N := some 13) #[true, true, true, true, false, false, false, false] rfl rfl (by kernel_rfl) (by decide) (fun K hK => ?_)
  refine goes_ Tryz.func189 (by kernel_rfl) rfl #[.pointer (some ⟨R, 0, none⟩)] (by rfl) rfl rfl (by simp [Act.eval]) ?_
  refine (pitem_bytes R b _ wa.drew (ha.kp ((Kp.refl wa (fun _ => False)).drew) (fun h => h) (fun h => h)) (by show b < wa.heap.size; omega) hbR (((Kp.refl wa (fun _ => False)).drew).tabs hTa (fun h => h) (fun h => h)) hR).mono ?_
  rintro e w3 ⟨rfl, h3, K3⟩
  replace K3 := Kp.undrew K3
  have hc8 := K3.cell (show wa.cell? ⟨V, 8, none⟩ = some (.slice (some ⟨ga, 0, none⟩) 1 capa) from cVc) (show ¬ V = R by omega)
  refine ⟨_, rfl, hK.out _ _ hc8 (fun hHeld3 => ?_)⟩
  clear hK K
  refine norm_ (a' := ?_) ?_ ?_
  rotate_left
  · show Act.put _ (some 13) _ = _
    simp only [Act.put, List.setIfInBounds_toArray, List.set_cons_zero, List.set_cons_succ, i64_w, i32_w]
    rfl
  refine one_ (i := 4) (N := some 14) #[true, true, true, true, true, false, false, false] rfl rfl (by kernel_rfl) (by decide) (fun K hK => ?_)
  refine value_ (v := .slice (some ⟨w3.heap.size, 0, none⟩) 1 1) (w1 := w3.alloc (.cells #[.int .i64 6, .bool false, .bool false, .string ⟨#[]⟩, .int .i64 0, .int .u64 0, .string ⟨#[0]⟩, .slice none 0 0, .slice none 0 0] 36 (0, 0))) (by rfl) rfl ?_ ?_
  · go_simp
  have K4 := K3.alloc (.cells #[.int .i64 6, .bool false, .bool false, .string ⟨#[]⟩, .int .i64 0, .int .u64 0, .string ⟨#[0]⟩, .slice none 0 0, .slice none 0 0] 36 (0, 0))
  have q4 : Kp w3 (w3.alloc (.cells #[.int .i64 6, .bool false, .bool false, .string ⟨#[]⟩, .int .i64 0, .int .u64 0, .string ⟨#[0]⟩, .slice none 0 0, .slice none 0 0] 36 (0, 0))) (fun _ => False) := (Kp.refl w3 (fun _ => False)).alloc _
  refine hK.out _ _ (q4.cell hc8 (fun h => h)) (fun hHeld4 => ?_)
  clear hK K
  refine norm_ (a' := ?_) ?_ ?_
  rotate_left
  · show Act.put _ (some 14) _ = _
    simp only [Act.put, List.setIfInBounds_toArray, List.set_cons_zero, List.set_cons_succ, i64_w, i32_w]
    rfl
  refine one_ (i := 5) (N := some 15) #[true, true, true, true, true, true, false, false] rfl rfl (by kernel_rfl) (by decide) (fun K hK => ?_)
  have hown4 : (w3.alloc (.cells #[.int .i64 6, .bool false, .bool false, .string ⟨#[]⟩, .int .i64 0, .int .u64 0, .string ⟨#[0]⟩, .slice none 0 0, .slice none 0 0] 36 (0, 0))).ownsRow w1.heap.size 36 9 (.slice (some ⟨ga, 0, none⟩) 1 capa) 1 [.int .i64 5, .bool false, .bool false, .string ⟨#[]⟩, .int .i64 0, .int .u64 0, .string ⟨#[116]⟩, .slice none 0 0, .slice none 0 0] := K4.own (show wa.ownsRow w1.heap.size 36 9 (.slice (some ⟨ga, 0, none⟩) 1 capa) 1 [.int .i64 5, .bool false, .bool false, .string ⟨#[]⟩, .int .i64 0, .int .u64 0, .string ⟨#[116]⟩, .slice none 0 0, .slice none 0 0] from howna) (fun k hk e => by simp [Value.ownBlock] at hk; omega)
  refine step_append_lies _ (by rfl) _ _ _ (by rfl) w1.heap.size 36 i0 _ 9 120 Tryz.underlying34 hi hz0 hz1 hz2 rfl (by omega) (.slice (some ⟨ga, 0, none⟩) 1 capa) 1 [.int .i64 5, .bool false, .bool false, .string ⟨#[]⟩, .int .i64 0, .int .u64 0, .string ⟨#[116]⟩, .slice none 0 0, .slice none 0 0] (by rfl) hown4 ⟨w3.heap.size, 0, none⟩ 1 1 [.int .i64 6, .bool false, .bool false, .string ⟨#[]⟩, .int .i64 0, .int .u64 0, .string ⟨#[0]⟩, .slice none 0 0, .slice none 0 0] (by rfl) (by rfl) (World.news_of_block (cs := #[.int .i64 6, .bool false, .bool false, .string ⟨#[]⟩, .int .i64 0, .int .u64 0, .string ⟨#[0]⟩, .slice none 0 0, .slice none 0 0]) (t := 36) (fr := (0, 0)) (alloc1 w3 _)) (by simp [Value.oneCell']) (by omega) (by unfold maxLen; omega) (by omega) (Nat.le_trans (show w1.heap.size ≤ wa.heap.size from sa) K4.size) _ rfl ?_
  intro gc capc w5 hown5 hgrow hat hlt5
  have hV5 := row_grow (K4.heap hVa (show ¬ V = R by omega)) hgrow (fun e => by simp [Value.ownBlock] at e; omega)
  have c5 : w5.cell? ⟨V, 8, none⟩ = some (.slice (some ⟨ga, 0, none⟩) 1 capa) := (blk_cell hV5 8).trans rfl
  have f5 := blk_frozen hV5 8
  have l5 := blk_lt hV5
  have K5 := Kp.grown_ hgrow
  have hgc : wa.heap.size ≤ gc ∨ gc = ga := by rcases hat with e | e; (exact .inr (by simpa [Value.ownBlock] using e.symm)); (exact .inl (by have := K4.size; omega))
  have h5 := (h3.kp q4 (fun h => h) (fun h => h)).kp K5 (fun e => by simp [Value.ownBlock] at e; omega) (fun e => by simp [Value.ownBlock] at e; omega)
  clear hat
  refine hK.out _ _ c5 (fun hHeld => ?_)
  clear hK K
  refine norm_ (a' := ?_) ?_ ?_
  rotate_left
  · show Act.put _ (some 15) _ = _
    simp only [Act.put, List.setIfInBounds_toArray, List.set_cons_zero, List.set_cons_succ, i64_w, i32_w]
    rfl
  refine pure_ (i := 6) (N := some 16) (v := ?_) (a' := ?_) #[true, true, true, true, true, true, true, false] rfl rfl (by kernel_rfl) (fun _ _ _ h => h) (Or.inl ⟨by rfl, ?_⟩) ?_ ?_
  rotate_left
  · intro w'
    go_simp
    with_reducible rfl
  rotate_left
  · simp only [Act.put, List.setIfInBounds_toArray, List.set_cons_zero, List.set_cons_succ, i64_w, i32_w]
    rfl
  have hgV : gc ≠ V := by omega
  refine last_ (i := 7) (N := none) #[true, true, true, true, true, true, true, true] rfl rfl (by kernel_rfl) (by decide) (fun K hK => ?_)
  have cV5 := hHeld
  refine skip_ (w1 := ?_) (by rfl) rfl ?_ ?_
  rotate_left
  · go_simp
    rfl
  refine hK.out _ _ ?_
  clear hK
  clear K
  refine done_ (by kernel_rfl) ?_
  generalize hw6 : World.setCell w5 _ _ = wc
  obtain ⟨hVc, hownc, hc, qc⟩ : wc.heap[V]? = some (.cells #[.int .i64 7, .bool false, .bool false, .string ⟨#[]⟩, .int .i64 0, .int .u64 0, .string ⟨#[]⟩, .slice none 0 0, .slice (some ⟨gc, 0, none⟩) (1 + 1) capc] 36 (0, 0)) ∧ wc.ownsRow w1.heap.size 36 9 (.slice (some ⟨gc, 0, none⟩) (1 + 1) capc) (1 + 1) ([.int .i64 5, .bool false, .bool false, .string ⟨#[]⟩, .int .i64 0, .int .u64 0, .string ⟨#[116]⟩, .slice none 0 0, .slice none 0 0] ++ [.int .i64 6, .bool false, .bool false, .string ⟨#[]⟩, .int .i64 0, .int .u64 0, .string ⟨#[0]⟩, .slice none 0 0, .slice none 0 0]) ∧ CS 267 R b (l) wc ∧ Kp wa wc (fun k => k = R ∨ k = V ∨ some k = (Value.slice (some ⟨ga, 0, none⟩) 1 capa).ownBlock) := by
    rw [← hw6]
    have k6 := kp_one w5 V 8 (.slice (some ⟨gc, 0, none⟩) (1 + 1) capc)
    refine ⟨blk_put hV5 8 _ rfl, own_far hown5 hgV _, h5.kp k6 (by omega) (by omega), ((K4.mono (fun i hi => .inl hi)).trans K5 (fun i hi => .inl (.inr (.inr hi)))).trans k6 (fun i hi => .inl (.inr (.inl hi)))⟩
  clear hw6 hHeld hHeld3 hHeld4 hown5 hV5 hgrow K5 K4 K3 h3 h5 hown4 c5 f5 l5 cV5 hc8 q4 cVc
  have xc := qc.heap xa (by rintro (e | e | e); omega; omega; simp [Value.ownBlock] at e; omega)
  have Kc := Ka.trans qc (fun i hi => by rcases hi with e | e | e; exact .inl e; exact .inr (by omega); exact .inr (by simp [Value.ownBlock] at e; omega))
  clear qc Ka xa hVa ha hTa howna
  obtain ⟨zc0, zc1, zc2, zc3, zc4, zc5, zc6, zc7, zc8, zf0, zf1, zf2, zf3, zf4, zf5, zf6, zf7, zf8⟩ := blk9 xc
  obtain ⟨yc0, yc1, yc2, yc3, yc4, yc5, yc6, yc7, yc8, yf0, yf1, yf2, yf3, yf4, yf5, yf6, yf7, yf8⟩ := blk9 hVc
  have lc_ := blk_lt xc
  have lc' := blk_lt hVc
  replace xc := Lib.hid xc
  replace hc := Lib.hid hc
  replace hownc := Lib.hid hownc
  replace Kc := Lib.hid Kc
  go_wp2_with fail
  rw [rounds_succ]
  go_wp2_with fail
  refine bodyPost_ret (results_cell_row rfl _ _ X 36 #[.int .i64 7, .bool false, .bool false, .string ⟨#[]⟩, .int .i64 0, .int .u64 0, .string ⟨#[]⟩, .slice none 0 0, .slice (some ⟨gc, 0, none⟩) 2 capc] (0, 0) _ rfl (set9_heap xc.out) Tryz.underlying36 rfl (by kernel_rfl)) rfl ?_
  exact ⟨(w1.heap.size, gc, capc), rfl, hc.out.kp (set9_kp _ _ _ _ _ _ _ _ _ _ _) (by omega) (by omega), Kc.out.trans (set9_kp _ _ _ _ _ _ _ _ _ _ _) (fun i hi => .inr (by omega)), (set9_kp _ _ _ _ _ _ _ _ _ _ _).own hownc.out (fun k hk e => by simp [Value.ownBlock] at hk; omega), by show w.heap.size ≤ gc; omega⟩
end Go.Proofs.YtcpgcjmamjjokaaGreatDoor
