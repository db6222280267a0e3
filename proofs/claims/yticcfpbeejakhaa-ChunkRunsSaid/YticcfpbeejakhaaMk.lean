/- A step of ChunkRuns, held against the document's. -/
import Derived.Test.YticcfpbeejakhaaMi
import Derived.Deep.RegionWith
namespace Go.Proofs.Yticcfpbeejakhaa
open Go.RowKit Go.Proofs.YticcfpbeejakhaaW.PrintWords Go.Proofs.YticcfpbeejakhaaW.PrintMore
set_option linter.unusedVariables false
set_option linter.unusedSimpArgs false

/-- The program's Source and the document's stand for the same bytes. -/
structure RunRel (w : World) (B gs gm : Nat) (v : Value) (all : List Int) (pos once gone limit : Int) : Prop where
  src : SrcIs w B gs v (all.drop gone.toNat) (pos - gone) (once - gone) gone limit
  ref : RefB w gm limit pos once all
  bm : B ≤ gm
  len : gone ≤ all.length
  gle : gone = 0 ∨ gone ≤ once - 16

section
variable {w w' : World} {B gs gm : Nat} {v : Value} {all : List Int} {pos once gone limit : Int}
theorem RunRel.xlen (h : RunRel w B gs gm v all pos once gone limit) : ((all.drop gone.toNat).length : Int) = all.length - gone := by
  have := h.src.g0; have := h.len
  rw [List.length_drop]; omega
theorem RunRel.below (h : RunRel w B gs gm v all pos once gone limit) (hb : Below w.heap.size w w') : RunRel w' B gs gm v all pos once gone limit :=
  ⟨h.src.below hb, h.ref.below hb, h.bm, h.len, h.gle⟩
theorem RunRel.mlt (h : RunRel w B gs gm v all pos once gone limit) : gm < w.heap.size := blk_lt h.ref
theorem RunRel.ne (h : RunRel w B gs gm v all pos once gone limit) : gm ≠ gs := by
  rintro rfl
  have h1 : w.heap[gm]? = _ := h.src.blk
  have h2 : w.heap[gm]? = _ := h.ref
  rw [h1] at h2
  injection h2 with h2
  injection h2 with _ h2
  cases h2
theorem RunRel.vne (h : RunRel w B gs gm v all pos once gone limit) : v.ownBlock ≠ some gm := fun e => by
  have := own_ne (t := 31) h.src.own (show w.heap[gm]? = some _ from h.ref) (by decide)
  exact this e.symm
theorem RunRel.kept {S : Nat → Prop} (h : RunRel w B gs gm v all pos once gone limit) (hk : Kp w w' S) (hS : ∀ k, S k → w.heap.size ≤ k ∨ (k ≠ gs ∧ k ≠ gm ∧ v.ownBlock ≠ some k)) : RunRel w' B gs gm v all pos once gone limit :=
  ⟨h.src.kept hk (fun h1 => (hS _ h1).elim (fun h2 => by have := h.src.lt; omega) (fun h2 => h2.1 rfl)) (fun k hv h1 => (hS _ h1).elim (fun h2 => by have := (h.src.vlt k hv).2; omega) (fun h2 => h2.2.2 hv)),
   h.ref.kept hk (fun h1 => (hS _ h1).elim (fun h2 => by have := h.mlt; omega) (fun h2 => h2.2.1 rfl)), h.bm, h.len, h.gle⟩
end

/-- What a step leaves. -/
def Stepped (w w' : World) (B gs gm : Nat) (limit : Int) : Prop :=
  ∃ (v : Value) (all : List Int) (pos once gone : Int), RunRel w' B gs gm v all pos once gone limit ∧ Kp w w' (fun k => B ≤ k)

theorem box_below (w : World) (o : Obj) : Below w.heap.size w (w.alloc o) := below_alloc (Below.refl _ _) o

theorem lent_reads {w : World} {B gx m : Nat} {ys : List Int} (HO : w.ownsRow B 5 1 (.slice (some ⟨gx, 0, none⟩) (m + 2) (m + 2)) (m + 2) (nums .u8 (ys ++ [165, 90]))) (h : ys.length = m) : ReadsInt w .u8 (some ⟨gx, 0, none⟩) m ys := by
  have H := own_take HO (m := m) (by omega)
  rw [take_first ys m h] at H
  exact own_reads' H

theorem fed_drop (all ys : List Int) (gone : Int) (d : Nat) (h0 : 0 ≤ gone) (h : gone + d ≤ all.length) : (all.drop gone.toNat).drop d ++ ys = (all ++ ys).drop (gone + d).toNat := by
  rw [List.drop_drop, show (gone + (d : Int)).toNat = gone.toNat + d from by omega, List.drop_append_of_le_length (by omega)]

/-- The boxed call. -/
def BoxB (w : World) (bx : Nat) (k n : Int) (u : Value) : Prop := w.heap[bx]? = some (.cells #[.int .i64 k, .int .i64 n, u] 35 (0, 0))
theorem BoxB.cells {w : World} {bx : Nat} {k n : Int} {u : Value} (h : BoxB w bx k n u) : w.cell? ⟨bx, 0, none⟩ = some (.int .i64 k) ∧ w.cell? ⟨bx, 1, none⟩ = some (.int .i64 n) ∧ w.cell? ⟨bx, 2, none⟩ = some u :=
  ⟨(blk_cell h 0).trans rfl, (blk_cell h 1).trans rfl, (blk_cell h 2).trans rfl⟩

set_option maxHeartbeats 1000000 in
set_option maxRecDepth 100000 in
theorem step_feed (w : World) (B gs gm : Nat) (v : Value) (all : List Int) (pos once gone limit : Int) (H : RunRel w B gs gm v all pos once gone limit)
    (n : Int) (A : Option Addr) (m c : Nat) (ys : List Int) (HR : ReadsInt w .u8 A m ys) (hA : ∀ ad, A = some ad → 0 < m → ad.block < B) (hm : m ≤ 1000000) :
    Calls Try.prog 10 #[.pointer (some ⟨gs, 0, none⟩), .pointer (some ⟨gm, 0, none⟩), .agg #[.int .i64 1, .int .i64 n, .slice A m c]] w fun e w' => e = .returned (.bool true) ∧ Stepped w w' B gs gm limit := by
  have hyl := HR.1
  have hx := H.xlen
  have HX := Lib.hid hx
  have HY := Lib.hid hyl
  clear hx hyl
  have hsz := H.src.hB
  have l1 := H.src.l1
  have l2 := H.src.l2
  have g0 := H.src.g0
  have hlen := H.len
  have hgle := H.gle
  have hbs := H.src.base
  have hbm := H.bm
  have hls := H.src.lt
  have hlm := H.mlt
  have hne := H.ne
  rw [HX.out] at l1
  have B0 := box_below w (.cells #[.int .i64 1, .int .i64 n, .slice A m c] 35)
  have H0 := H.below B0
  have HR0 := HR.below B0
  have HBX : BoxB (w.alloc (.cells #[.int .i64 1, .int .i64 n, .slice A m c] 35)) w.heap.size 1 n (.slice A m c) := heap_alloc_new w _
  have K0 : Kp w (w.alloc (.cells #[.int .i64 1, .int .i64 n, .slice A m c] 35)) (fun k => B ≤ k) := Kp.of_below B0 _
  have hs0 : w.heap.size < (w.alloc (.cells #[.int .i64 1, .int .i64 n, .slice A m c] 35)).heap.size := by simp
  clear H HR B0
  go_enter Try.func10, Try.ntmps10
  go_wp2_with fail
  generalize (w.alloc (.cells #[.int .i64 1, .int .i64 n, .slice A m c] 35)) = W0 at *
  obtain ⟨bx, hbx⟩ : ∃ bx, w.heap.size = bx := ⟨_, rfl⟩
  rw [hbx] at HBX hs0 hls hlm hsz
  -- Lend
  refine (lend_any _ A m c ys HR0 hm).mono ?_
  rintro e w1 ⟨gx, rfl, hgx, Ox, B1⟩
  have H1 := H0.below B1
  have HR1 := HR0.below B1
  have HBX1 : BoxB w1 bx 1 n (.slice A m c) := (B1.block bx hs0).trans HBX
  have K1 := K0.below B1
  have hs1 : bx < w1.heap.size := Nat.lt_of_lt_of_le hs0 B1.size
  have OT := lent_reads Ox HY.out
  have vx : ∀ k, v.ownBlock = some k → k < W0.heap.size := fun k hk => (H0.src.vlt k hk).2
  have hvb : ∀ k, v.ownBlock = some k → B ≤ k := fun k hk => (H0.src.vlt k hk).1
  have hvm := H0.vne
  have hrm := H0.ref
  clear H0 HR0 HBX K0 B1
  rw [hbx]
  go_wp2_with fail
  -- Feed
  by_cases hno : limit < all.length + m
  · refine (feed_is_no H1.src _ m (m + 2) (by rw [HX.out]; omega)).mono ?_
    rintro e w2 ⟨rfl, B2⟩
    have H2 := H1.below B2
    have HR2 := HR1.below B2
    have HBX2 : BoxB w2 bx 1 n (.slice A m c) := (B2.block bx hs1).trans HBX1
    have Ox2 := pw_own_below Ox B2
    have K2 := K1.below B2
    have hs2 : bx < w2.heap.size := Nat.lt_of_lt_of_le hs1 B2.size
    clear H1 HR1 HBX1 Ox K1 B2 OT
    obtain ⟨k0, k1, k2⟩ := HBX2.cells
    go_wp2_with fail
    -- Back, of what was lent
    refine (keepback_any w2 _ gx A m c ys HR2 hm Ox2).mono ?_
    rintro e w3 ⟨rfl, K3⟩
    have H3 := H2.kept K3 (fun k hk => .inr ⟨by omega, by omega, fun hv => by have := vx k hv; omega⟩)
    have HBX3 : BoxB w3 bx 1 n (.slice A m c) := K3.heap HBX2 (by omega)
    have KK3 := K2.trans K3 (fun k hk => .inl (by omega))
    clear H2 HR2 HBX2 Ox2 K2 K3 k0 k1 k2
    obtain ⟨k0, k1, k2⟩ := HBX3.cells
    go_wp2_with fail
    refine (rfeed_no w3 gm limit pos once all H3.ref (by omega) (by omega) (by omega) A m c (by omega)).mono ?_
    rintro e w4 ⟨rfl, B4⟩
    have HS : Stepped w w4 B gs gm limit := ⟨v, all, pos, once, gone, H3.below B4, KK3.below B4⟩
    clear H3 HBX3 KK3 B4 k0 k1 k2
    go_wp2_with fail
    go_ret
    exact ⟨rfl, HS⟩
  · refine (feed_is_yes H1.src _ m (m + 2) ys OT (fun ad had _ => by injection had with had; subst had; exact ⟨fun e => by have := vx gx e.symm; omega, by show gx ≠ gs; omega⟩) (by rw [HX.out]; omega)).mono ?_
    rintro e w2 ⟨d, v2, rfl, hd, hdd, H2, K2, O2⟩
    have hp1 := H1.src.o0
    have hp2 := H1.src.o1
    rw [HX.out] at hp2
    have hvbx : some bx ≠ v.ownBlock := own_ne (t := 35) H1.src.own (show w1.heap[bx]? = some _ from HBX1) (by decide)
    have hgx1 : gx < w1.heap.size := own_lt Ox gx rfl
    have hvgx : v.ownBlock ≠ some gx := fun e => by have := vx gx e; omega
    have hv2gx : v2.ownBlock ≠ some gx := fun e => by
      rcases O2 with h | ⟨b, hb, hle⟩
      · exact hvgx (h.symm.trans e)
      · rw [hb] at e
        injection e with e
        omega
    have hml := H1.mlt
    have hv2m : v2.ownBlock ≠ some gm := fun e => by
      rcases O2 with h | ⟨b, hb, hle⟩
      · exact hvm (h.symm.trans e)
      · rw [hb] at e
        injection e with e
        omega
    have HR2 : ReadsInt w2 .u8 A m ys := K2.reads HR1 (fun ad e j hj hs => by
      rw [add_block] at hs
      have q1 := hA ad e (by omega)
      rcases hs with hs | hs
      · omega
      · have := hvb _ hs; omega)
    have HBX2 : BoxB w2 bx 1 n (.slice A m c) := K2.heap HBX1 (fun hs => by
      rcases hs with hs | hs
      · omega
      · exact hvbx hs.symm)
    have Ox2 := K2.own Ox (fun k hk hs => by
      injection hk with hk
      subst hk
      rcases hs with hs | hs
      · have hs2 : gx = gs := hs
        omega
      · exact hvgx hs)
    have R2 := H1.ref.kept K2 (fun hs => by
      rcases hs with hs | hs
      · exact hne hs
      · exact hvm hs)
    have KK2 := K1.trans K2 (fun k hk => .inl (by
      rcases hk with hk | hk
      · omega
      · exact hvb k hk))
    have hs2 : bx < w2.heap.size := Nat.lt_of_lt_of_le hs1 K2.size
    clear H1 HR1 HBX1 Ox K1 K2 OT O2 hvgx hvm hvbx vx hvb hrm
    obtain ⟨k0, k1, k2⟩ := HBX2.cells
    go_wp2_with fail
    -- Back, of what was lent
    refine (keepback_any w2 _ gx A m c ys HR2 hm Ox2).mono ?_
    rintro e w3 ⟨rfl, K3⟩
    have H3 := H2.kept K3 (fun hs => by omega) (fun k hk hs => hv2gx (hs ▸ hk))
    have R3 := R2.kept K3 (fun hs => by omega)
    have HR3 : ReadsInt w3 .u8 A m ys := K3.reads HR2 (fun ad e j hj hs => by
      rw [add_block] at hs
      have q1 := hA ad e (by omega)
      omega)
    have HBX3 : BoxB w3 bx 1 n (.slice A m c) := K3.heap HBX2 (by omega)
    have KK3 := KK2.trans K3 (fun k hk => .inl (by omega))
    clear H2 HR2 HBX2 Ox2 KK2 K3 R2 k0 k1 k2
    obtain ⟨k0, k1, k2⟩ := HBX3.cells
    go_wp2_with fail
    refine (rfeed_yes w3 gm limit pos once all R3 (by omega) (by omega) (by omega) A m c ys HR3 (by omega)).mono ?_
    rintro e w4 ⟨rfl, R4, K4⟩
    have H4 := H3.kept K4 (fun hs => hne hs.symm) (fun k hk hs => hv2m (hs ▸ hk))
    have HS : Stepped w w4 B gs gm limit := by
      refine ⟨v2, all ++ ys, pos, once, gone + d, ⟨?_, R4, hbm, by rw [List.length_append]; omega, by omega⟩, KK3.trans K4 (fun k hk => .inl (by omega))⟩
      rw [fed_drop all ys gone d g0 (by omega)] at H4
      rw [show pos - (gone + (d : Int)) = pos - gone - d from by omega, show once - (gone + (d : Int)) = once - gone - d from by omega]
      exact H4
    clear H3 HR3 HBX3 KK3 K4 R3 R4 H4 k0 k1 k2
    go_wp2_with fail
    go_ret
    exact ⟨rfl, HS⟩
end Go.Proofs.Yticcfpbeejakhaa
