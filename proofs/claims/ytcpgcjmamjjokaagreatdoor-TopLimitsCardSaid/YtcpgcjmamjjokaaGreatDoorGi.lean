/- cbor's reader: texts, an item of bytes, the tag. cbor's reader: an item of bytes, the two of a tag. cbor's reader: the tag. cbor.Read of the tag. -/
import Derived.Test.YtcpgcjmamjjokaaGreatDoorGh
namespace Go.Proofs.YtcpgcjmamjjokaaGreatDoor
open Go.RowKit Go.Maps Go.Proofs.YtcpgcjmamjjokaaGreatDoorW.PrintWords Go.Proofs.YtcpgcjmamjjokaaGreatDoorW.PrintLast Go.Proofs.YtcpgcjmamjjokaaGreatDoorW.PrintMore Go.Proofs.YtcpgcjmamjjokaaGreatDoor.PTopLimits
set_option linter.unusedVariables false
set_option linter.unusedSimpArgs false
set_option maxHeartbeats 3200000 in
set_option maxRecDepth 100000 in
theorem ctxt2 (R b : Nat) (l : List UInt8) (w : World) (h : CS 263 R b (0 :: l) w) (hb : b < w.heap.size) (hbR : b ≠ R) (hT : Lib.Utf8Tabs 0 1 w) (hR : 2 ≤ R) :
    Calls Tryz.prog 229 #[.pointer (some ⟨R, 0, none⟩), .agg #[.int .u8 2, .int .u8 1, .int .u64 1]] w fun e w' => e = .returned (.string ⟨#[0]⟩) ∧ CS 263 R b l w' ∧ Kp w w' (· = R) := by
  have hK := Lib.hid (fun x l w h => ctake R b x l w h hbR)
  have hI := Lib.hid cis_eq
  have hPa := Lib.hid cparts_no
  have hV := Lib.hid (fun w hT => Valid_any ⟨#[0]⟩ (by decide) w hT)
  have hvd : Lib.validD (⟨#[0]⟩ : ByteArray).data.toList = true := by decide +kernel
  have hRl := h.lt
  replace h := Lib.hid h
  replace hT := Lib.hid hT
  go_enter Tryz.func229, Tryz.ntmps229
  go_wp2_with fail
  generalize hw1 : World.alloc _ _ = w1
  obtain ⟨x1, B1⟩ := alloc_at hw1
  clear hw1
  obtain ⟨X, hX⟩ : ∃ X, w.heap.size = X := ⟨_, rfl⟩
  rw [hX] at x1 hb hRl
  rw [hX]
  have hXX := Nat.le_of_eq hX
  have K1 := Kp.of_below B1 (· = R)
  have h1 := h.out.below B1
  clear B1
  replace hX := Lib.hid hX
  replace hXX := Lib.hid hXX
  refine (hPa.out 2 1 1 _ (by decide)).mono ?_
  rintro e w2 ⟨rfl, B2⟩
  have x2 := blk_below x1 B2
  have h2 := h1.below B2
  have K2 := Lib.hid (K1.below B2)
  clear x1 h1 K1 B2
  obtain ⟨xc0, xc1, xc2, xf0, xf1, xf2⟩ := blk3 x2
  have l2 := blk_lt x2
  replace x2 := Lib.hid x2
  replace h2 := Lib.hid h2
  go_wp2_with fail
  refine (hK.out 0 l w2 h2.out).mono ?_
  rintro e w3 ⟨o, c, rfl, hx, h3, q⟩
  have x3 := q.heap x2.out (by omega)
  have K3 := K2.out.trans q (fun _ hi => .inl hi)
  have hT3 := K3.tabs hT.out (by omega) (by omega)
  have hstr : (convert 65 9 (.slice (some ⟨b, o, none⟩) 1 c)).run Tryz.prog w3 = .ok (.string ⟨#[0]⟩) w3 := (one_at hx).str c
  clear q x2 h2 K2 xc0 xc1 xc2 xf0 xf1 xf2 l2 hx
  obtain ⟨xc0, xc1, xc2, xf0, xf1, xf2⟩ := blk3 x3
  have l3 := blk_lt x3
  replace h3 := Lib.hid h3
  replace K3 := Lib.hid K3
  replace hT3 := Lib.hid hT3
  go_wp2_with fail
  refine (hI.out _).mono ?_
  rintro e w5 ⟨rfl, rfl⟩
  go_wp2_with fail
  go_ret
  exact ⟨rfl, h3.out, K3.out⟩
set_option maxHeartbeats 3200000 in
set_option maxRecDepth 100000 in
theorem ctxt3 (R b : Nat) (l : List UInt8) (w : World) (h : CS 263 R b (116 :: l) w) (hb : b < w.heap.size) (hbR : b ≠ R) (hT : Lib.Utf8Tabs 0 1 w) (hR : 2 ≤ R) :
    Calls Tryz.prog 229 #[.pointer (some ⟨R, 0, none⟩), .agg #[.int .u8 3, .int .u8 1, .int .u64 1]] w fun e w' => e = .returned (.string ⟨#[116]⟩) ∧ CS 263 R b l w' ∧ Kp w w' (· = R) := by
  have hK := Lib.hid (fun x l w h => ctake R b x l w h hbR)
  have hI := Lib.hid cis_eq
  have hPa := Lib.hid cparts_no
  have hV := Lib.hid (fun w hT => Valid_any ⟨#[116]⟩ (by decide) w hT)
  have hvd : Lib.validD (⟨#[116]⟩ : ByteArray).data.toList = true := by decide +kernel
  have hRl := h.lt
  replace h := Lib.hid h
  replace hT := Lib.hid hT
  go_enter Tryz.func229, Tryz.ntmps229
  go_wp2_with fail
  generalize hw1 : World.alloc _ _ = w1
  obtain ⟨x1, B1⟩ := alloc_at hw1
  clear hw1
  obtain ⟨X, hX⟩ : ∃ X, w.heap.size = X := ⟨_, rfl⟩
  rw [hX] at x1 hb hRl
  rw [hX]
  have hXX := Nat.le_of_eq hX
  have K1 := Kp.of_below B1 (· = R)
  have h1 := h.out.below B1
  clear B1
  replace hX := Lib.hid hX
  replace hXX := Lib.hid hXX
  refine (hPa.out 3 1 1 _ (by decide)).mono ?_
  rintro e w2 ⟨rfl, B2⟩
  have x2 := blk_below x1 B2
  have h2 := h1.below B2
  have K2 := Lib.hid (K1.below B2)
  clear x1 h1 K1 B2
  obtain ⟨xc0, xc1, xc2, xf0, xf1, xf2⟩ := blk3 x2
  have l2 := blk_lt x2
  replace x2 := Lib.hid x2
  replace h2 := Lib.hid h2
  go_wp2_with fail
  refine (hK.out 116 l w2 h2.out).mono ?_
  rintro e w3 ⟨o, c, rfl, hx, h3, q⟩
  have x3 := q.heap x2.out (by omega)
  have K3 := K2.out.trans q (fun _ hi => .inl hi)
  have hT3 := K3.tabs hT.out (by omega) (by omega)
  have hstr : (convert 65 9 (.slice (some ⟨b, o, none⟩) 1 c)).run Tryz.prog w3 = .ok (.string ⟨#[116]⟩) w3 := (one_at hx).str c
  clear q x2 h2 K2 xc0 xc1 xc2 xf0 xf1 xf2 l2 hx
  obtain ⟨xc0, xc1, xc2, xf0, xf1, xf2⟩ := blk3 x3
  have l3 := blk_lt x3
  replace h3 := Lib.hid h3
  replace K3 := Lib.hid K3
  replace hT3 := Lib.hid hT3
  go_wp2_with fail
  refine (hV.out _ hT3.out).mono ?_
  rintro e w4 ⟨rfl, B4⟩
  rw [hvd]
  replace K3 := Lib.hid (K3.out.below B4)
  replace h3 := Lib.hid (h3.out.below B4)
  clear hT3 hstr xc0 xc1 xc2 xf0 xf1 xf2 l3 x3 B4
  go_wp2_with fail
  refine (hI.out _).mono ?_
  rintro e w5 ⟨rfl, rfl⟩
  go_wp2_with fail
  go_ret
  exact ⟨rfl, h3.out, K3.out⟩
set_option maxHeartbeats 3200000 in
set_option maxRecDepth 100000 in
theorem cname (R b : Nat) (l : List UInt8) (w : World) (h : CS 263 R b (97 :: 116 :: l) w) (hb : b < w.heap.size) (hbR : b ≠ R) (hT : Lib.Utf8Tabs 0 1 w) (hR : 2 ≤ R) :
    Calls Tryz.prog 233 #[.pointer (some ⟨R, 0, none⟩)] w fun e w' => e = .returned (.string ⟨#[116]⟩) ∧ CS 263 R b l w' ∧ Kp w w' (· = R) := by
  have hH := Lib.hid (fun l w h hb => chd97 R b l w h hb hbR)
  have hX := Lib.hid (fun l w h hb hT => ctxt3 R b l w h hb hbR hT hR)
  have hI := Lib.hid cis_eq
  have hRl := h.lt
  replace h := Lib.hid h
  replace hT := Lib.hid hT
  go_enter Tryz.func233, Tryz.ntmps233
  go_wp2_with fail
  refine (hH.out _ w h.out hb).mono ?_
  rintro e w1 ⟨rfl, h1, K1⟩
  have hT1 := K1.tabs hT.out (by omega) (by omega)
  replace h1 := Lib.hid h1
  replace K1 := Lib.hid K1
  go_wp2_with fail
  generalize hw2 : World.alloc _ _ = w2
  obtain ⟨x2, B2⟩ := alloc_at hw2
  clear hw2
  have h2 := h1.out.below B2
  have hT2 := Utf8Tabs_below hT1 B2
  have K2 := Lib.hid (K1.out.below B2)
  have hb2 : b < w2.heap.size := Nat.lt_of_lt_of_le (Nat.lt_of_lt_of_le hb K1.out.size) B2.size
  clear B2 K1 h1 hT1
  obtain ⟨xc0, xc1, xc2, xf0, xf1, xf2⟩ := blk3 x2
  have l2 := blk_lt x2
  refine (hI.out _).mono ?_
  rintro e w3 ⟨rfl, rfl⟩
  go_wp2_with fail
  refine (hX.out _ w2 h2 hb2 hT2).mono ?_
  rintro e w3 ⟨rfl, h3, q⟩
  have K3 := K2.out.trans q (fun _ hi => .inl hi)
  replace h3 := Lib.hid h3
  replace K3 := Lib.hid K3
  clear q K2 h2 hT2 x2 xc0 xc1 xc2 xf0 xf1 xf2 l2
  go_wp2_with fail
  go_ret
  exact ⟨rfl, h3.out, K3.out⟩
end Go.Proofs.YtcpgcjmamjjokaaGreatDoor
namespace Go.Proofs.YtcpgcjmamjjokaaGreatDoor
open Go.RowKit Go.Maps Go.Proofs.YtcpgcjmamjjokaaGreatDoorW.PrintWords Go.Proofs.YtcpgcjmamjjokaaGreatDoorW.PrintLast Go.Proofs.YtcpgcjmamjjokaaGreatDoorW.PrintMore Go.Proofs.YtcpgcjmamjjokaaGreatDoor.PTopLimits
set_option linter.unusedVariables false
set_option linter.unusedSimpArgs false
set_option maxHeartbeats 6400000 in
set_option maxRecDepth 100000 in
theorem citem_bytes (R b : Nat) (l : List UInt8) (w : World) (h : CS 263 R b (65 :: 0 :: l) w) (hb : b < w.heap.size) (hbR : b ≠ R) (hT : Lib.Utf8Tabs 0 1 w) (hR : 2 ≤ R) :
    Calls Tryz.prog 186 #[.pointer (some ⟨R, 0, none⟩)] w fun e w' => e = .returned kidV ∧ CS 263 R b l w' ∧ Kp w w' (· = R) := by
  have hH := Lib.hid (fun l w h hb => chd65 R b l w h hb hbR)
  have hXt := Lib.hid (fun l w h hb hT => ctxt2 R b l w h hb hbR hT hR)
  have hRl := h.lt
  unfold kidV
  replace h := Lib.hid h
  replace hT := Lib.hid hT
  go_enter Tryz.func186, Tryz.ntmps186
  go_wp2_with fail
  generalize hw1 : World.alloc _ _ = w1
  obtain ⟨x1, z1, B1, hs1⟩ := alloc_two hw1
  clear hw1
  obtain ⟨X, hX⟩ : ∃ X, w.heap.size = X := ⟨_, rfl⟩
  rw [hX] at x1 z1 hb hRl hs1
  rw [hX]
  have hXX := Nat.le_of_eq hX
  have K1 := Kp.of_below B1 (· = R)
  have h1 := h.out.below B1
  have l1 := blk_lt x1
  clear B1
  replace hX := Lib.hid hX
  replace hXX := Lib.hid hXX
  refine (hH.out _ w1 h1 (by omega)).mono ?_
  rintro e w2 ⟨rfl, h2, q⟩
  have x2 := q.heap x1 (by omega)
  have z2 := q.heap z1 (by omega)
  have K2 := Lib.hid (K1.trans q (fun _ hi => .inl hi))
  have hs2 := q.size
  clear q x1 z1 h1 K1 l1
  obtain ⟨xc, xf⟩ := blk1 x2
  have l2 := blk_lt x2
  replace x2 := Lib.hid x2
  replace z2 := Lib.hid z2
  replace h2 := Lib.hid h2
  go_wp2_with fail
  generalize hw3 : World.alloc _ _ = w3
  obtain ⟨y3, B3⟩ := alloc_at hw3
  clear hw3
  obtain ⟨Y, hY⟩ : ∃ Y, w2.heap.size = Y := ⟨_, rfl⟩
  rw [hY] at y3 l2 hs2
  rw [hY]
  have x3 := blk_below x2.out B3
  have z3 := blk_below z2.out B3
  have h3 := h2.out.below B3
  have K3 := K2.out.below B3
  clear x2 z2 h2 K2 B3 xc xf
  obtain ⟨xc, xf⟩ := blk1 x3
  obtain ⟨yc0, yc1, yc2, yf0, yf1, yf2⟩ := blk3 y3
  obtain ⟨zc0, zc1, zc2, zc3, zc4, zc5, zc6, zc7, zc8, zf0, zf1, zf2, zf3, zf4, zf5, zf6, zf7, zf8⟩ := blk9 z3
  have l3 := blk_lt x3
  have l3' := blk_lt y3
  have l3'' := blk_lt z3
  replace x3 := Lib.hid x3
  replace y3 := Lib.hid y3
  replace z3 := Lib.hid z3
  replace K3 := Lib.hid K3
  go_wp2_with fail
  refine (hXt.out l w3 h3 (by omega) (K3.out.tabs hT.out (by omega) (by omega))).mono ?_
  rintro e w4 ⟨rfl, h4, q⟩
  have z4 := q.heap z3.out (by omega)
  have K4 := Lib.hid (K3.out.trans q (fun _ hi => .inl hi))
  clear q h3 K3 x3 y3 z3 xc xf yc0 yc1 yc2 yf0 yf1 yf2 zc0 zc1 zc2 zc3 zc4 zc5 zc6 zc7 zc8 zf0 zf1 zf2 zf3 zf4 zf5 zf6 zf7 zf8 l3 l3' l3''
  obtain ⟨zc0, zc1, zc2, zc3, zc4, zc5, zc6, zc7, zc8, zf0, zf1, zf2, zf3, zf4, zf5, zf6, zf7, zf8⟩ := blk9 z4
  have l4 := blk_lt z4
  replace z4 := Lib.hid z4
  replace h4 := Lib.hid h4
  go_wp2_with fail
  refine bodyPost_ret (results_cell_row rfl _ _ (X + 1) 36 #[.int .i64 6, .bool false, .bool false, .string ⟨#[]⟩, .int .i64 0, .int .u64 0, .string ⟨#[0]⟩, .slice none 0 0, .slice none 0 0] (0, 0) _ rfl (set9_heap z4.out) Tryz.underlying36 rfl (by kernel_rfl)) rfl ?_
  exact ⟨rfl, h4.out.kp (set9_kp _ _ _ _ _ _ _ _ _ _ _) (by omega) (by omega), K4.out.trans (set9_kp _ _ _ _ _ _ _ _ _ _ _) (fun i hi => .inr (by have := hXX.out; omega))⟩
set_option maxHeartbeats 3200000 in
set_option maxRecDepth 100000 in
theorem cit3 (R b C V : Nat) (l : List UInt8) (v0 v1 v2 v3 v4 v5 v6 v7 v8 : Value) (s6 : ByteArray) (hv6 : v6 = .string s6) (w : World) (h : CS 263 R b (97 :: 116 :: l) w) (hb : b < w.heap.size) (hbR : b ≠ R) (hbV : b ≠ V) (hT : Lib.Utf8Tabs 0 1 w) (hR : 2 ≤ R) (hRC : C ≠ R) (hRV : V ≠ R)
    (hC : w.heap[C]? = some (.cells #[.pointer (some ⟨R, 0, none⟩)] 261 (0, 0))) (hV : w.heap[V]? = some (.cells #[v0, v1, v2, v3, v4, v5, v6, v7, v8] 36 (0, 0))) :
    Calls Tryz.prog 237 #[.pointer (some ⟨C, 0, none⟩), .pointer (some ⟨V, 0, none⟩)] w fun e w' => e = .returned (.tuple #[]) ∧ CS 263 R b l w' ∧ Kp w w' (fun k => k = R ∨ k = V) ∧ w'.heap[V]? = some (.cells #[v0, v1, v2, v3, v4, v5, .string ⟨#[116]⟩, v7, v8] 36 (0, 0)) := by
  subst hv6
  obtain ⟨cc, cf⟩ := blk1 hC
  have lC := blk_lt hC
  replace hC := Lib.hid hC
  go_enter Tryz.func237, Tryz.ntmps237
  go_wp2_with fail
  refine (cname R b l w h hb hbR hT hR).mono ?_
  rintro e w1 ⟨rfl, h1, K1⟩
  have hV1 := K1.heap hV hRV
  clear h hT hV cc cf lC
  obtain ⟨zc0, zc1, zc2, zc3, zc4, zc5, zc6, zc7, zc8, zf0, zf1, zf2, zf3, zf4, zf5, zf6, zf7, zf8⟩ := blk9 hV1
  have l1 := blk_lt hV1
  replace hV1 := Lib.hid hV1
  replace h1 := Lib.hid h1
  replace K1 := Lib.hid K1
  go_wp2_with fail
  go_end0
  exact ⟨rfl, h1.out.kp (kp_one w1 V 6 _) (by omega) hbV, (K1.out.mono (fun k hk => .inl hk)).trans (kp_one w1 V 6 _) (fun i hi => .inl (.inr hi)), blk_put hV1.out 6 _ rfl⟩
set_option maxHeartbeats 3200000 in
set_option maxRecDepth 100000 in
theorem cit4 (R b C V : Nat) (l : List UInt8) (v0 v1 v2 v3 v4 v5 v6 v7 v8 : Value) (hv8 : v8 = .slice none 0 0) (w : World) (h : CS 263 R b (65 :: 0 :: l) w) (hb : b < w.heap.size) (hbR : b ≠ R) (hbV : b ≠ V) (hT : Lib.Utf8Tabs 0 1 w) (hR : 2 ≤ R) (hRC : C ≠ R) (hRV : V ≠ R)
    (hC : w.heap[C]? = some (.cells #[.pointer (some ⟨R, 0, none⟩)] 261 (0, 0))) (hV : w.heap[V]? = some (.cells #[v0, v1, v2, v3, v4, v5, v6, v7, v8] 36 (0, 0))) :
    Calls Tryz.prog 238 #[.pointer (some ⟨C, 0, none⟩), .pointer (some ⟨V, 0, none⟩)] w fun e w' => e = .returned (.tuple #[]) ∧ CS 263 R b l w' ∧ Kp w w' (fun k => k = R ∨ k = V) ∧ ∃ g, w.heap.size ≤ g ∧ Kid g w' ∧ w'.heap[V]? = some (.cells #[v0, v1, v2, v3, v4, v5, v6, v7, .slice (some ⟨g, 0, none⟩) 1 1] 36 (0, 0)) := by
  subst hv8
  obtain ⟨cc, cf⟩ := blk1 hC
  have lC := blk_lt hC
  replace hC := Lib.hid hC
  go_enter Tryz.func238, Tryz.ntmps238
  go_wp2_with fail
  refine (citem_bytes R b l w h hb hbR hT hR).mono ?_
  rintro e w1 ⟨rfl, h1, K1⟩
  have hV1 := K1.heap hV hRV
  clear h hT hV cc cf lC
  unfold kidV
  obtain ⟨zc0, zc1, zc2, zc3, zc4, zc5, zc6, zc7, zc8, zf0, zf1, zf2, zf3, zf4, zf5, zf6, zf7, zf8⟩ := blk9 hV1
  have l1 := blk_lt hV1
  replace hV1 := Lib.hid hV1
  replace h1 := Lib.hid h1
  replace K1 := Lib.hid K1
  go_wp2_with fail
  go_end0
  have hsz : (w1.setCell ⟨V, 8, none⟩ (.slice (some ⟨w1.heap.size, 0, none⟩) 1 1)).heap.size = w1.heap.size := by simp
  have K2 := ((K1.out.mono (S2 := fun k => k = R ∨ k = V) (fun k hk => .inl hk)).trans (kp_one w1 V 8 (.slice (some ⟨w1.heap.size, 0, none⟩) 1 1)) (fun i hi => .inl (.inr hi)))
  have h2 := h1.out.kp (kp_one w1 V 8 (.slice (some ⟨w1.heap.size, 0, none⟩) 1 1)) (by omega) hbV
  have hV2 := blk_put hV1.out 8 (.slice (some ⟨w1.heap.size, 0, none⟩) 1 1) (cs' := #[v0, v1, v2, v3, v4, v5, v6, v7, .slice (some ⟨w1.heap.size, 0, none⟩) 1 1]) rfl
  refine ⟨rfl, h2.below (below_alloc (Below.refl _ _) _), K2.alloc _, w1.heap.size, K1.out.size, ?_, blk_alloc hV2 _⟩
  have h3 := heap_alloc_new (w1.setCell ⟨V, 8, none⟩ (.slice (some ⟨w1.heap.size, 0, none⟩) 1 1)) (.cells #[.int .i64 6, .bool false, .bool false, .string ⟨#[]⟩, .int .i64 0, .int .u64 0, .string ⟨#[0]⟩, .slice none 0 0, .slice none 0 0] 36 (0, 0))
  rw [hsz] at h3
  exact h3
set_option maxHeartbeats 3200000 in
set_option maxRecDepth 100000 in
theorem ctwo (R b C V : Nat) (l : List UInt8) (w : World) (h : CS 263 R b (130 :: 97 :: 116 :: 65 :: 0 :: l) w) (hb : b < w.heap.size) (hbR : b ≠ R) (hbV : b ≠ V) (hT : Lib.Utf8Tabs 0 1 w) (hR : 2 ≤ R) (hRC : C ≠ R) (hRV : V ≠ R) (hCV : C ≠ V) (hV2 : 2 ≤ V)
    (hC : w.heap[C]? = some (.cells #[.pointer (some ⟨R, 0, none⟩)] 261 (0, 0))) (hV : w.heap[V]? = some (.cells #[.int .i64 9, .bool false, .bool false, .string ⟨#[]⟩, .int .i64 0, .int .u64 0, .string ⟨#[]⟩, .slice none 0 0, .slice none 0 0] 36 (0, 0))) :
    Calls Tryz.prog 236 #[.pointer (some ⟨R, 0, none⟩), .func (.func 237) #[] #[.pointer (some ⟨C, 0, none⟩), .pointer (some ⟨V, 0, none⟩)], .func (.func 238) #[] #[.pointer (some ⟨C, 0, none⟩), .pointer (some ⟨V, 0, none⟩)]] w fun e w' => e = .returned (.tuple #[]) ∧ CS 263 R b l w' ∧ Kp w w' (fun k => k = R ∨ k = V) ∧ ∃ g, w.heap.size ≤ g ∧ Kid g w' ∧ w'.heap[V]? = some (.cells #[.int .i64 9, .bool false, .bool false, .string ⟨#[]⟩, .int .i64 0, .int .u64 0, .string ⟨#[116]⟩, .slice none 0 0, .slice (some ⟨g, 0, none⟩) 1 1] 36 (0, 0)) := by
  have hH := Lib.hid (fun l w h hb => chd130 R b l w h hb hbR)
  have hI := Lib.hid cis_eq
  have hPa := Lib.hid cparts_no
  have hcf1 : ∀ (args : Array Value) (w : World), (callFunc 237 args).run Tryz.prog w = .ok (.enter 237 args) w := fun args w => enters_ Tryz.func237 (by kernel_rfl) rfl args w
  have hcf2 : ∀ (args : Array Value) (w : World), (callFunc 238 args).run Tryz.prog w = .ok (.enter 238 args) w := fun args w => enters_ Tryz.func238 (by kernel_rfl) rfl args w
  have hRl := h.lt
  have hCl := blk_lt hC
  have hVl := blk_lt hV
  replace h := Lib.hid h
  replace hT := Lib.hid hT
  replace hC := Lib.hid hC
  replace hV := Lib.hid hV
  go_enter Tryz.func236, Tryz.ntmps236
  go_wp2_with fail
  refine (hH.out _ w h.out hb).mono ?_
  rintro e w1 ⟨rfl, h1, q⟩
  have K1 := Lib.hid (q.mono (S2 := fun k => k = R ∨ k = V) (fun k hk => .inl hk))
  have C1 := q.heap hC.out hRC
  have V1 := q.heap hV.out hRV
  have s1 := q.size
  clear q hC hV h
  replace h1 := Lib.hid h1
  go_wp2_with fail
  generalize hw2 : World.alloc _ _ = w2
  obtain ⟨y2, B2⟩ := alloc_at hw2
  clear hw2
  obtain ⟨Y, hY⟩ : ∃ Y, w1.heap.size = Y := ⟨_, rfl⟩
  rw [hY] at y2 s1
  rw [hY]
  replace hY := Lib.hid hY
  have h2 := h1.out.below B2
  have K2 := K1.out.below B2
  have C2 := blk_below C1 B2
  have V2 := blk_below V1 B2
  have hT2 := K2.tabs hT.out (by omega) (by omega)
  clear h1 K1 B2 C1 V1
  obtain ⟨yc0, yc1, yc2, yf0, yf1, yf2⟩ := blk3 y2
  have l2 := blk_lt y2
  refine (hPa.out 4 2 2 _ (by decide)).mono ?_
  rintro e w2b ⟨rfl, B2⟩
  replace h2 := h2.below B2
  replace K2 := K2.below B2
  replace C2 := blk_below C2 B2
  replace V2 := blk_below V2 B2
  replace hT2 := Utf8Tabs_below hT2 B2
  replace y2 := blk_below y2 B2
  have s2 := B2.size
  clear yc0 yc1 yc2 yf0 yf1 yf2 B2
  obtain ⟨yc0, yc1, yc2, yf0, yf1, yf2⟩ := blk3 y2
  have l2' := blk_lt y2
  replace K2 := Lib.hid K2
  go_wp2_with fail
  refine (hI.out _).mono ?_
  rintro e w3 ⟨rfl, rfl⟩
  go_wp2_with fail
  refine (cit3 R b C V _ _ _ _ _ _ _ _ _ _ _ rfl w2b h2 (by omega) hbR hbV hT2 hR hRC hRV C2 V2).mono ?_
  rintro e w3 ⟨rfl, h3, q, V3⟩
  have K3 := Lib.hid (K2.out.trans q (fun _ hi => .inl hi))
  have C3 := q.heap C2 (by omega)
  have y3 := q.heap y2 (by omega)
  have hT3 := q.tabs hT2 (by omega) (by omega)
  have s3 := q.size
  clear q h2 K2 C2 V2 hT2 y2 yc0 yc1 yc2 yf0 yf1 yf2
  go_wp2_with fail
  refine (cit4 R b C V _ _ _ _ _ _ _ _ _ _ rfl w3 h3 (by omega) hbR hbV hT3 hR hRC hRV C3 V3).mono ?_
  rintro e w4 ⟨rfl, h4, q, g, hg, k4, V4⟩
  have K4 := Lib.hid (K3.out.trans q (fun _ hi => .inl hi))
  have y4 := q.heap y3 (by omega)
  clear q h3 K3 C3 V3 hT3 y3
  obtain ⟨yc0, yc1, yc2, yf0, yf1, yf2⟩ := blk3 y4
  have l4 := blk_lt y4
  replace V4 := Lib.hid V4
  replace k4 := Lib.hid k4
  replace h4 := Lib.hid h4
  go_wp2_with fail
  refine (hPa.out 4 2 2 _ (by decide)).mono ?_
  rintro e w5 ⟨rfl, B5⟩
  have h5 := Lib.hid (h4.out.below B5)
  have K5 := Lib.hid (K4.out.below B5)
  have V5 := Lib.hid (blk_below V4.out B5)
  have k5 := Lib.hid (k4.out.below B5)
  clear h4 K4 V4 k4 B5 y4 yc0 yc1 yc2 yf0 yf1 yf2 l4
  go_wp2_with fail
  refine (hI.out _).mono ?_
  rintro e w6 ⟨rfl, rfl⟩
  go_wp2_with fail
  go_end0
  exact ⟨rfl, h5.out, K5.out, g, by omega, k5.out, V5.out⟩
end Go.Proofs.YtcpgcjmamjjokaaGreatDoor
namespace Go.Proofs.YtcpgcjmamjjokaaGreatDoor
open Go.RowKit Go.Maps Go.Proofs.YtcpgcjmamjjokaaGreatDoorW.PrintWords Go.Proofs.YtcpgcjmamjjokaaGreatDoorW.PrintLast Go.Proofs.YtcpgcjmamjjokaaGreatDoorW.PrintMore Go.Proofs.YtcpgcjmamjjokaaGreatDoor.PTopLimits
set_option linter.unusedVariables false
set_option linter.unusedSimpArgs false
set_option maxHeartbeats 6400000 in
set_option maxRecDepth 100000 in
theorem citem_tag (R b : Nat) (l : List UInt8) (w : World) (h : CS 263 R b (216 :: 27 :: 130 :: 97 :: 116 :: 65 :: 0 :: l) w) (hb : b < w.heap.size) (hbR : b ≠ R) (hT : Lib.Utf8Tabs 0 1 w) (hR : 2 ≤ R) (hW : w.cell? ⟨5, 0, none⟩ = some (.int .i64 1)) (hR5 : 5 ≠ R) (h5 : 5 < w.heap.size) :
    Calls Tryz.prog 186 #[.pointer (some ⟨R, 0, none⟩)] w fun e w' => ∃ g, e = .returned (.agg (objL 9 ⟨#[116]⟩ (some ⟨g, 0, none⟩) 1 1).toArray) ∧ CS 263 R b l w' ∧ Kp w w' (· = R) ∧ Kid g w' ∧ w.heap.size + 2 ≤ g := by
  have hH := Lib.hid (fun l w h hb hW h5 => chd216 R b l w h hb hbR hW hR5 h5)
  have hRl := h.lt
  unfold objL
  replace h := Lib.hid h
  replace hT := Lib.hid hT
  replace hW := Lib.hid hW
  go_enter Tryz.func186, Tryz.ntmps186
  go_wp2_with fail
  generalize hw1 : World.alloc _ _ = w1
  obtain ⟨x1, z1, B1, hs1⟩ := alloc_two hw1
  clear hw1
  obtain ⟨X, hX⟩ : ∃ X, w.heap.size = X := ⟨_, rfl⟩
  rw [hX] at x1 z1 hb hRl hs1 h5
  rw [hX]
  have hXX := Nat.le_of_eq hX
  have K1 := Kp.of_below B1 (· = R)
  have h1 := h.out.below B1
  have l1 := blk_lt x1
  clear B1
  replace hX := Lib.hid hX
  replace hXX := Lib.hid hXX
  refine (hH.out _ w1 h1 (by omega) (K1.cell hW.out (by show ¬ (5 = R); exact hR5)) (by omega)).mono ?_
  rintro e w2 ⟨rfl, h2, q⟩
  have x2 := q.heap x1 (by omega)
  have z2 := q.heap z1 (by omega)
  have K2 := Lib.hid (K1.trans q (fun _ hi => .inl hi))
  have hs2 := q.size
  clear q x1 z1 h1 K1 l1
  obtain ⟨xc, xf⟩ := blk1 x2
  have l2 := blk_lt x2
  replace x2 := Lib.hid x2
  replace z2 := Lib.hid z2
  replace h2 := Lib.hid h2
  go_wp2_with fail
  generalize hw4 : World.alloc _ _ = w4
  obtain ⟨y4, V4, B4, hs4⟩ := alloc_two hw4
  clear hw4 y4
  obtain ⟨Y, hY⟩ : ∃ Y, w2.heap.size = Y := ⟨_, rfl⟩
  rw [hY] at V4 l2 hs2 hs4
  rw [hY]
  obtain ⟨V, hV⟩ : ∃ V, Y + 1 = V := ⟨_, rfl⟩
  rw [hV] at V4
  rw [hV]
  have h4 := h2.out.below B4
  have K4 := K2.out.below B4
  have x4 := blk_below x2.out B4
  have z4 := blk_below z2.out B4
  have hT4 := K4.tabs hT.out (by omega) (by omega)
  have s4 := blk_lt V4
  clear h2 K2 x2 z2 B4 xc xf
  refine (ctwo R b X V l w4 h4 (by omega) hbR (by omega) hT4 hR (by omega) (by omega) (by omega) (by omega) x4 V4).mono ?_
  rintro e w5 ⟨rfl, h6, q, g, hg, k5, V5⟩
  have z5 := q.heap z4 (by omega)
  have K5 := Lib.hid (K4.trans q (fun i hi => by rcases hi with h | h; exact .inl h; exact .inr (by have := hXX.out; omega)))
  clear q h4 K4 x4 z4 V4 hT4
  obtain ⟨zc0, zc1, zc2, zc3, zc4, zc5, zc6, zc7, zc8, zf0, zf1, zf2, zf3, zf4, zf5, zf6, zf7, zf8⟩ := blk9 z5
  obtain ⟨vc0, vc1, vc2, vc3, vc4, vc5, vc6, vc7, vc8, vf0, vf1, vf2, vf3, vf4, vf5, vf6, vf7, vf8⟩ := blk9 V5
  have l5 := blk_lt z5
  have l5' := blk_lt V5
  replace z5 := Lib.hid z5
  replace V5 := Lib.hid V5
  replace k5 := Lib.hid k5
  replace h6 := Lib.hid h6
  go_wp2_with fail
  refine bodyPost_ret (results_cell_row rfl _ _ (X + 1) 36 #[.int .i64 9, .bool false, .bool false, .string ⟨#[]⟩, .int .i64 0, .int .u64 0, .string ⟨#[116]⟩, .slice none 0 0, .slice (some ⟨g, 0, none⟩) 1 1] (0, 0) _ rfl (set9_heap z5.out) Tryz.underlying36 rfl (by kernel_rfl)) rfl ?_
  exact ⟨g, rfl, h6.out.kp (set9_kp _ _ _ _ _ _ _ _ _ _ _) (by omega) (by omega), K5.out.trans (set9_kp _ _ _ _ _ _ _ _ _ _ _) (fun i hi => .inr (by have := hXX.out; omega)), (set9_kp _ _ _ _ _ _ _ _ _ _ _).heap k5.out (by omega), by have := hX.out; omega⟩
end Go.Proofs.YtcpgcjmamjjokaaGreatDoor
namespace Go.Proofs.YtcpgcjmamjjokaaGreatDoor
open Go.RowKit Go.Maps Go.Proofs.YtcpgcjmamjjokaaGreatDoorW.PrintWords Go.Proofs.YtcpgcjmamjjokaaGreatDoorW.PrintLast Go.Proofs.YtcpgcjmamjjokaaGreatDoorW.PrintMore Go.Proofs.YtcpgcjmamjjokaaGreatDoor.PTopLimits
set_option linter.unusedVariables false
set_option linter.unusedSimpArgs false
theorem kid_row {w : World} {g : Nat} (h : Kid g w) : w.ownsRow g 36 9 (.slice (some ⟨g, 0, none⟩) 1 1) 1 kidRow :=
  ⟨rfl, .inr ⟨g, 1, _, rfl, Nat.le_refl _, h, Nat.le_refl _, by decide, rfl, rfl⟩⟩
theorem CS.made {T R b c : Nat} {l : List UInt8} {w w' : World} (h : BytesAt w (some ⟨b, 0, none⟩) l) (hb : Below w.heap.size w w') (hR : w'.heap[R]? = some (.cells #[.slice (some ⟨b, 0, none⟩) l.length c, .bool false] T (0, 0))) (hc : l.length ≤ c) (hl : l.length ≤ 1000) : CS T R b l w' := by
  refine ⟨0, c, _, hR, hc, Nat.le_refl _, hl, fun _ => rfl, fun j hj => ?_⟩
  obtain ⟨ad, h1, h2⟩ := (h.below hb).cell j hj
  injection h1 with h1
  subst h1
  rw [Addr.add_mid] at h2
  exact h2
theorem cidle (a b : Value) (w : World) :
    CallsD Tryz.prog 185 #[a, b] .returning w fun e u' w' => e = .returned (.tuple #[]) ∧ u' = .returning ∧ w' = w := by
  refine callsD_of_wpS Tryz.func185 rfl fun c₀ cs hu => ?_
  apply wpS_seq
  apply wpS_region
  simp [wpOpsS, go_sem, recoverD, hu, Tryz.ntmps185, Exit.thenS]
  apply wpS_seq
  apply wpS_region
  simp [wpOpsS, go_sem, recoverD, hu, Tryz.ntmps185, Exit.thenS]
  refine wpS_cond (t := false) (by simp [Act.eval, Array.replicate]) ?_
  simp only [Bool.false_eq_true, if_false]
  refine wpS_of_wp (wp_skip ?_)
  cases c₀
  simp_all [bodyPostS, results, Tryz.results185]
set_option maxHeartbeats 6400000 in
set_option maxRecDepth 100000 in
theorem cread (A c : Nat) (w : World) (hA : BytesAt w (some ⟨A, 0, none⟩) cborL) (hc : 7 ≤ c) (hT : Lib.Utf8Tabs 0 1 w) (hs2 : 5 < w.heap.size) (hW : w.cell? ⟨5, 0, none⟩ = some (.int .i64 1)) : Calls Tryz.prog 147 #[.slice (some ⟨A, 0, none⟩) 7 c] w (RdPost w) := by
  have hI := Lib.hid cis_eq
  have hC := Lib.hid (fun w b g cap h hT => @row_check w b g cap h hT)
  have hAl : A < w.heap.size := by
    obtain ⟨ad, h1, h2⟩ := hA.cell 0 (by decide)
    injection h1 with h1
    subst h1
    rw [Addr.add_mid] at h2
    exact World.block_lt_of_cell? _ _ h2
  replace hA := Lib.hid hA
  replace hW := Lib.hid hW
  replace hT := Lib.hid hT
  have hmf : ∀ (fn : Fn) (first cap : Array Value) (w : World), (Instr.makeFunc fn first cap).run Tryz.prog w = .ok (.func fn first cap) w := fun _ _ _ _ => rfl
  go_enter_defers Tryz.func147, Tryz.ntmps147
  go_upto_region 4 with fail
  generalize hwA : World.alloc _ _ = wA
  obtain ⟨g0, g1, BA, hsA⟩ := alloc_two hwA
  clear hwA
  obtain ⟨G, hG⟩ : ∃ G, w.heap.size = G := ⟨_, rfl⟩
  rw [hG] at g0 g1 hsA hs2 hAl
  rw [hG]
  have hTA := Utf8Tabs_below hT.out BA
  go_wp2_with fail
  generalize hwB : World.alloc wA _ = wB
  obtain ⟨j1, BB⟩ := alloc_at hwB
  clear hwB
  have e0 := blk_below g0 BB
  have e1 := blk_below g1 BB
  have B1 := below_then BA BA.size BB
  replace j1 : CS 263 wA.heap.size A cborL wB := CS.made hA.out B1 j1 hc (by decide)
  have hWB : wB.cell? ⟨5, 0, none⟩ = some (.int .i64 1) := (B1.cell (by show 5 < w.heap.size; rw [hG]; exact hs2)).trans hW.out
  have hsB : w.heap.size ≤ wB.heap.size := B1.size
  rw [hG] at hsB
  have hTB := Utf8Tabs_below hTA BB
  obtain ⟨R, hR2⟩ : ∃ R, G + 2 = R := ⟨_, rfl⟩
  have hR := hR2
  rw [hsA, hR] at j1
  rw [hR]
  clear g0 g1 BA BB hTA hsA hR
  replace hG := Lib.hid hG
  have K1 := Lib.hid (Kp.of_below B1 (· = R))
  replace e0 := Lib.hid e0
  replace e1 := Lib.hid e1
  have hw : w.heap.size ≤ G := Nat.le_of_eq hG.out
  replace hw := Lib.hid hw
  clear B1
  refine (citem_tag R A [] wB j1 (by omega) (by omega) hTB (by omega) hWB (by omega) (by omega)).mono ?_
  rintro e w3 ⟨g, rfl, j3, q, kd, hg⟩
  obtain ⟨b, hb⟩ : ∃ b, b = g := ⟨_, rfl⟩
  have hown : w3.ownsRow b 36 9 (.slice (some ⟨g, 0, none⟩) 1 1) 1 kidRow := by rw [hb]; exact kid_row kd
  clear hb kd
  have e03 := q.heap e0.out (by omega)
  have e13 := q.heap e1.out (by omega)
  have K3 := Lib.hid (K1.out.trans q (fun _ hi => .inl hi))
  have hT3 := q.tabs hTB (by omega) (by omega)
  have l2 := blk_lt e0.out
  have l2' := blk_lt e1.out
  have l2r := j1.lt
  clear q K1 j1 e0 e1 hTB hWB
  have hgG : g ≠ G := by omega
  have hgG1 : g ≠ G + 1 := by omega
  have hgR : g ≠ R := by omega
  obtain ⟨gc0, gc1, gc2, gc3, gc4, gc5, gc6, gc7, gc8, gf0, gf1, gf2, gf3, gf4, gf5, gf6, gf7, gf8⟩ := blk9 e03
  have l3 := blk_lt e03
  replace j3 := Lib.hid j3
  replace e03 := Lib.hid e03
  replace e13 := Lib.hid e13
  replace hown := Lib.hid hown
  replace hT3 := Lib.hid hT3
  unfold objL
  go_upto_region 6 with fail
  generalize hw4 : World.setCell _ _ _ = w4
  obtain ⟨e04, q⟩ : w4.heap[G]? = some (.cells #[.int .i64 9, .bool false, .bool false, .string ⟨#[]⟩, .int .i64 0, .int .u64 0, .string ⟨#[116]⟩, .slice none 0 0, .slice (some ⟨g, 0, none⟩) 1 1] 36 (0, 0)) ∧ Kp w3 w4 (· = G) := by
    rw [← hw4]
    exact ⟨set9_heap e03.out, set9_kp _ _ _ _ _ _ _ _ _ _ _⟩
  have e14 := q.heap e13.out (by omega)
  have j4 := j3.out.kp q (by omega) (by omega)
  have hown4 := q.own hown.out (fun k hk e => by simp [Value.ownBlock] at hk; omega)
  have hT4 := q.tabs hT3.out (by omega) (by omega)
  have K4 := Lib.hid (K3.out.trans q (fun _ hi => .inr (by have := hw.out; omega)))
  clear hw4 q hown hT3 K3 j3 e03 e13 gc0 gc1 gc2 gc3 gc4 gc5 gc6 gc7 gc8 gf0 gf1 gf2 gf3 gf4 gf5 gf6 gf7 gf8 l3
  have e05 := e04
  have e15 := e14
  have hown5 := hown4
  have hT5 := hT4
  have K5 := K4
  clear e04 e14 hown4 hT4 K4
  obtain ⟨o5, c5, A5, j5, _⟩ := j4
  obtain ⟨rc0, rc1, rf0, rf1⟩ := blk2 j5
  obtain ⟨gc0, gc1, gc2, gc3, gc4, gc5, gc6, gc7, gc8, gf0, gf1, gf2, gf3, gf4, gf5, gf6, gf7, gf8⟩ := blk9 e05
  have l5 := blk_lt e05
  have l5r := blk_lt j5
  replace e05 := Lib.hid e05
  replace e15 := Lib.hid e15
  replace j5 := Lib.hid j5
  have hchk := Lib.hid (row_check hown5 hT5)
  unfold readV objL at hchk
  replace hown5 := Lib.hid hown5
  replace hT5 := Lib.hid hT5
  go_wp2_with fail
  refine (hI.out _).mono ?_
  rintro e w6 ⟨rfl, rfl⟩
  go_wp2_with fail
  refine hchk.out.mono ?_
  rintro e w6 ⟨rfl, B6⟩
  have e06 := blk_below e05.out B6
  have e16 := blk_below e15.out B6
  have hown6 := (Kp.of_below B6 (fun _ => False)).own hown5.out (fun _ _ h => h)
  have K6 := Lib.hid (K5.out.below B6)
  clear B6 e05 e15 hown5 hT5 K5 j5 rc0 rc1 rf0 rf1 gc0 gc1 gc2 gc3 gc4 gc5 gc6 gc7 gc8 gf0 gf1 gf2 gf3 gf4 gf5 gf6 gf7 gf8 l5 l5r hchk
  obtain ⟨gc0, gc1, gc2, gc3, gc4, gc5, gc6, gc7, gc8, gf0, gf1, gf2, gf3, gf4, gf5, gf6, gf7, gf8⟩ := blk9 e06
  obtain ⟨qc, qf⟩ := blk1 e16
  have l6 := blk_lt e06
  have l6' := blk_lt e16
  replace e06 := Lib.hid e06
  replace e16 := Lib.hid e16
  replace hown6 := Lib.hid hown6
  go_wp2_with fail
  generalize hw7 : World.setCell _ (Addr.mk (G + 1) 0 none) _ = w7
  obtain ⟨e07, e17, q⟩ : w7.heap[G]? = some (.cells #[.int .i64 9, .bool false, .bool false, .string ⟨#[]⟩, .int .i64 0, .int .u64 0, .string ⟨#[116]⟩, .slice none 0 0, .slice (some ⟨g, 0, none⟩) 1 1] 36 (0, 0)) ∧ w7.cell? ⟨G + 1, 0, none⟩ = some (.int .i64 0) ∧ Kp w6 w7 (fun k => k = G ∨ k = G + 1) := by
    rw [← hw7]
    refine ⟨blk_far (set9_heap e06.out) (by show G ≠ G + 1; omega) _, (blk_cell (blk_put (cs' := #[.int .i64 0]) ((set9_kp w6 G _ _ _ _ _ _ _ _ _).heap e16.out (by omega)) 0 _ rfl) 0).trans rfl, ((set9_kp w6 G _ _ _ _ _ _ _ _ _).mono (fun k hk => .inl hk)).set_ (p := ⟨G + 1, 0, none⟩) (.inl (.inr rfl)) _⟩
  have hown7 := q.own hown6.out (fun k hk e => by simp [Value.ownBlock] at hk; omega)
  have K7 := K6.out.trans q (fun _ hi => .inr (by have := hw.out; omega))
  have hfin : RdPost w (.returned (.tuple #[readV g 1, .int .i64 0])) w7 := ⟨b, g, 1, rfl, hown7, ⟨K7.os, K7.tape, K7.output, K7.size, fun k hk => K7.block k hk (by have := hw.out; have := hG.out; omega)⟩⟩
  clear hw7
  refine leaves_cons (f := 185) (args := #[.pointer (some ⟨G, 0, none⟩), .pointer (some ⟨G + 1, 0, none⟩)]) (by simp) (by simp [go_sem]) ?_
  refine (cidle _ _ _).mono ?_
  rintro e u' w'' ⟨rfl, rfl, rfl⟩
  exact ⟨_, results_two rfl _ _ G (G + 1) #[.int .i64 9, .bool false, .bool false, .string ⟨#[]⟩, .int .i64 0, .int .u64 0, .string ⟨#[116]⟩, .slice none 0 0, .slice (some ⟨g, 0, none⟩) 1 1] (0, 0) 0 rfl rfl e07 (by kernel_rfl) e17, hfin⟩
end Go.Proofs.YtcpgcjmamjjokaaGreatDoor
