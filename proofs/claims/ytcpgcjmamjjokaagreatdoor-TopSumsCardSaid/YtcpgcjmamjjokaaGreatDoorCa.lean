/- The Checker of events: may, takes. -/
import Derived.Test.YtcpgcjmamjjokaaGreatDoorCz
namespace Go.Proofs.YtcpgcjmamjjokaaGreatDoor
open Go.RowKit Go.Proofs.YtcpgcjmamjjokaaGreatDoorW.PrintWords Go.Proofs.YtcpgcjmamjjokaaGreatDoorW.PrintMore
set_option linter.unusedVariables false
set_option linter.unusedSimpArgs false
theorem info175 : (Tryz.prog.info? 175).map (fun i => (i.zero, i.size, i.bytes)) = some (some (.pointer none), 1, 8) := by kernel_rfl
set_option maxHeartbeats 800000 in
set_option maxRecDepth 100000 in
theorem may_plain (k : Int) (hk : k = 1 ∨ k = 7 ∨ k = 11) (w : World) :
    Calls Tryz.prog 63 #[ev k false ⟨#[]⟩ 0] w fun e w' => e = .returned (.bool true) ∧ Below w.heap.size w w' := by
  unfold ev
  rcases hk with rfl | rfl | rfl
  all_goals (
    go_enter Tryz.func63, Tryz.ntmps63
    go_wp2_with fail
    go_ret
    exact ⟨rfl, below_alloc (below_alloc (Below.refl _ _) _) _⟩)
set_option maxHeartbeats 800000 in
set_option maxRecDepth 100000 in
theorem may_num (neg : Bool) (d : ByteArray) (x : Int) (hC : ∀ w, Calls Tryz.prog 90 #[.agg #[.bool neg, .string d, .int .i64 x]] w fun e w' => e = .returned (.int .i64 0) ∧ Below w.heap.size w w') (w : World) :
    Calls Tryz.prog 63 #[ev 3 neg d x] w fun e w' => e = .returned (.bool true) ∧ Below w.heap.size w w' := by
  unfold ev
  go_enter Tryz.func63, Tryz.ntmps63
  obtain ⟨G, hG⟩ : ∃ G, w.heap.size = G := ⟨_, rfl⟩
  go_wp2_with fail
  generalize hw1 : World.alloc _ _ = w1
  have b1 : w1.heap[G]? = some (.cells #[.int .i64 3, .bool false, .bool neg, .string d, .int .i64 x, .int .u64 0, .string ⟨#[]⟩] 47 (0, 0)) := by
    subst hw1 hG
    exact blk_alloc (heap_alloc_new _ _) _
  have b2 : w1.heap[G + 1]? = some (.cells #[.int .i64 3, .bool false, .bool neg, .string d, .int .i64 x, .int .u64 0, .string ⟨#[]⟩] 47 (0, 0)) := by
    subst hw1 hG
    exact alloc2 _ _ _
  have B1 : Below G w w1 := by
    subst hw1 hG
    exact below_alloc (below_alloc (Below.refl _ _) _) _
  clear hw1
  refine (hC _).mono ?_
  rintro e w2 ⟨rfl, B2⟩
  replace b1 := blk_below b1 B2
  replace b2 := blk_below b2 B2
  replace B2 := Lib.hid (below_then B1 (by have := B1.size; omega) B2)
  obtain ⟨c0, c1, c2, c3, c4, c5, c6, f0, f1, f2, f3, f4, f5, f6⟩ := blk7 b1
  obtain ⟨d0, d1, d2, d3, d4, d5, d6, g0, g1, g2, g3, g4, g5, g6⟩ := blk7 b2
  clear b1 b2 B1 hC
  replace hG := Lib.hid hG
  go_wp2_with fail
  go_ret
  have e2 : w.heap.size ≤ G + 1 := by have := hG.out; omega
  have B3 := B2.out
  rw [← hG.out] at B3
  exact ⟨rfl, below_set (below_set (below_set B3 e2) e2) e2⟩
/-- The Checker within a list. -/
structure Chk (B : Nat) (C R F : Nat) (many : Int) (w : World) : Prop where
  c : ∃ cap, w.heap[C]? = some (.cells #[.slice (some ⟨R, 0, none⟩) 1 cap, .bool false, .bool false] 110 (0, 0))
  r : w.cell? ⟨R, 0, none⟩ = some (.pointer (some ⟨F, 0, none⟩))
  f : ∃ M, w.heap[F]? = some (.cells #[.int .i64 7, .int .i64 many, .bool false, .map (some M)] 178 (0, 0))
  bc : B ≤ C
  br : B ≤ R
  bf : B ≤ F
  ne1 : C ≠ R
  ne2 : C ≠ F
  ne3 : R ≠ F
theorem Chk.kp {B C R F : Nat} {many : Int} {w w' : World} {S : Nat → Prop} (h : Chk B C R F many w) (k : Kp w w' S) (h1 : ¬ S C) (h2 : ¬ S R) (h3 : ¬ S F) : Chk B C R F many w' :=
  ⟨h.c.imp fun _ x => k.heap x h1, k.cell h.r h2, h.f.imp fun _ x => k.heap x h3, h.bc, h.br, h.bf, h.ne1, h.ne2, h.ne3⟩
theorem alloc3 (w : World) (o o' o'' : Obj) : (((w.drew.alloc o).alloc o').alloc o'').heap[w.heap.size + 2]? = some o'' := by
  have h := heap_alloc_new ((w.drew.alloc o).alloc o') o''
  rw [show ((w.drew.alloc o).alloc o').heap.size = w.heap.size + 2 by simp] at h
  exact h
theorem take_grow {w1 w2 : World} {o o' o'' : Obj} (h : (((w1.drew.alloc o).alloc o').alloc o'').grownBy w2 (Value.slice none 0 0).ownBlock) : Below w1.heap.size w1 w2 ∧ w2.heap[w1.heap.size + 1]? = some o' := by
  have hb : Below w1.heap.size w1 (((w1.drew.alloc o).alloc o').alloc o'') := below_alloc (below_alloc (below_alloc (Below.refl _ _).drew _) _) _
  refine ⟨pw_below_grown hb _ hb.size h (fun k hk => by cases hk), ?_⟩
  have h1 : ((w1.drew.alloc o).alloc o').heap[w1.heap.size + 1]? = some o' := by
    have h := heap_alloc_new (w1.drew.alloc o) o'
    rw [show (w1.drew.alloc o).heap.size = w1.heap.size + 1 by simp] at h
    exact h
  have h2 := blk_alloc h1 o''
  exact (h.block _ (blk_lt h2) (by simp [Value.ownBlock])).trans h2
theorem take_frz {w1 w2 : World} {C : Nat} {a b c : Value} {t : TypeId} {X : Prop} (hC : Hid (w1.heap[C]? = some (.cells #[a, b, c] t (0, 0)))) (h : Hid (Below w1.heap.size w1 w2 ∧ X)) : w2.frozen? ⟨C, 0, none⟩ = false ∧ w2.cell? ⟨C, 0, none⟩ = some a :=
  ⟨blk_frozen (blk_below hC.out h.out.1) 0, (blk_cell (blk_below hC.out h.out.1) 0).trans rfl⟩
theorem take_end {w w1 w2 : World} {C g cap b M : Nat} (hC1 : w1.heap[C]? = some (.cells #[.slice none 0 0, .bool false, .bool false] 110 (0, 0))) (B1 : Below w.heap.size w w1) (hCl : C < w.heap.size) (hg : g = w1.heap.size + 3)
    (hown : w2.ownsRow b 175 1 (.slice (some ⟨g, 0, none⟩) 1 cap) 1 [.pointer (some ⟨w1.heap.size + 1, 0, none⟩)])
    (BW : Below w1.heap.size w1 w2 ∧ w2.heap[w1.heap.size + 1]? = some (.cells #[.int .i64 7, .int .i64 0, .bool false, .map (some M)] 178 (0, 0))) :
    (∃ R F, Chk C C R F 0 (w2.setCell ⟨C, 0, none⟩ (.slice (some ⟨g, 0, none⟩) 1 cap)) ∧ w.heap.size ≤ R ∧ w.heap.size ≤ F) ∧ Kp w (w2.setCell ⟨C, 0, none⟩ (.slice (some ⟨g, 0, none⟩) 1 cap)) (fun k => k = C) := by
  have hs := B1.size
  have k0 : Kp w2 (w2.setCell ⟨C, 0, none⟩ (.slice (some ⟨g, 0, none⟩) 1 cap)) (fun k => k = C) := (Kp.refl w2 (fun k => k = C)).set_ (p := ⟨C, 0, none⟩) (.inl rfl) _
  have hr : w2.cell? ⟨g, 0, none⟩ = some (.pointer (some ⟨w1.heap.size + 1, 0, none⟩)) := (World.ownsRow.cellAt hown 0 (by decide)).trans rfl
  refine ⟨⟨g, w1.heap.size + 1, ⟨⟨cap, blk_put (blk_below hC1 BW.1) 0 _ rfl⟩, k0.cell hr (by show ¬ g = C; omega), ⟨M, k0.heap BW.2 (by omega)⟩, Nat.le_refl _, by omega, by omega, by omega, by omega, by omega⟩, by omega, by omega⟩, ?_⟩
  exact ((Kp.of_below B1 (fun k => k = C)).below BW.1).set_ (p := ⟨C, 0, none⟩) (.inl rfl) _
set_option maxHeartbeats 800000 in
set_option maxRecDepth 100000 in
theorem takes_list (C : Nat) (w : World) (hC : w.heap[C]? = some (.cells #[.slice none 0 0, .bool false, .bool false] 110 (0, 0))) :
    Calls Tryz.prog 64 #[.pointer (some ⟨C, 0, none⟩), ev 7 false ⟨#[]⟩ 0] w fun e w' => e = .returned (.bool true) ∧ (∃ R F, Chk C C R F 0 w' ∧ w.heap.size ≤ R ∧ w.heap.size ≤ F) ∧ Kp w w' (fun k => k = C) := by
  unfold ev
  obtain ⟨c0, c1, c2, f0, f1, f2⟩ := blk3 hC
  have hlt := blk_lt hC
  have hmm := @run_makeMap Tryz.prog
  replace hC := Lib.hid hC
  go_enter Tryz.func64, Tryz.ntmps64
  go_wp2_with fail
  generalize hw1 : World.alloc w _ = w1
  obtain ⟨hlt1, d0, B1⟩ : C < w1.heap.size ∧ w1.heap[w.heap.size]? = some (.cells #[.int .i64 7, .bool false, .bool false, .string ⟨#[]⟩, .int .i64 0, .int .u64 0, .string ⟨#[]⟩] 47 (0, 0)) ∧ Below w.heap.size w w1 := by
    subst hw1
    exact ⟨by simp; omega, heap_alloc_new _ _, below_alloc (Below.refl _ _) _⟩
  have hC1 := blk_below hC.out B1
  obtain ⟨e0, e1, e2, e3, e4, e5, e6, _, _, _, _, _, _, _⟩ := blk7 d0
  obtain ⟨c0, c1, c2, f0, f1, f2⟩ := blk3 hC1
  obtain ⟨i0, hi, hz0, hz1, hz2⟩ := info_parts info175
  replace hC1 := Lib.hid hC1
  have hlt3 := blk_lt d0
  have hltA1 : C < w1.heap.size + 1 := by omega
  have hltA2 : C < w1.heap.size + 2 := by omega
  have hltA3 : C < w1.heap.size + 3 := by omega
  have hltB1 : w.heap.size < w1.heap.size + 1 := by omega
  have hltB2 : w.heap.size < w1.heap.size + 2 := by omega
  have hltB3 : w.heap.size < w1.heap.size + 3 := by omega
  replace d0 := Lib.hid d0
  replace B1 := Lib.hid B1
  go_region_law (refine step_append_lies _ (by rfl) _ _ _ (by rfl) w.heap.size 175 i0 _ 1 8 Tryz.underlying108 hi hz0 hz1 hz2 rfl (by omega) (.slice none 0 0) 0 [] (by rfl) (World.ownsRow_nil _ _ _ _) ⟨w1.heap.size + 2, 0, none⟩ 1 1 [.pointer (some ⟨w1.heap.size + 1, 0, none⟩)] (by rfl) (by rfl) (World.news_of_block (cs := #[.pointer (some ⟨w1.heap.size + 1, 0, none⟩)]) (t := 175) (fr := (0, 0)) (alloc3 w1 _ _ _)) (by simp [Value.oneCell']) (by omega) (by unfold maxLen; omega) (by omega) (by simp; have := B1.out.size; omega) (w1.heap.size + 3) (by simp) ?_; intro g cap w2 hown hgrow hat hlt2; have BW := Lib.hid (take_grow hgrow); obtain ⟨fz, cz⟩ := take_frz hC1 BW)
  all_goals (
    have hg := hat.resolve_left (by simp [Value.ownBlock])
    have HG := Lib.hid (take_end hC1.out B1.out hlt hg hown BW.out)
    clear hg hat hown hgrow BW
    go_wp2
    go_ret
    exact ⟨rfl, HG.out⟩)
end Go.Proofs.YtcpgcjmamjjokaaGreatDoor
