/- The machine: is, goes, tell. -/
import Derived.Test.YtcpgcjmamjjokaaGreatDoorCc
namespace Go.Proofs.YtcpgcjmamjjokaaGreatDoor
open Go.RowKit Go.Proofs.YtcpgcjmamjjokaaGreatDoorW.PrintWords Go.Proofs.YtcpgcjmamjjokaaGreatDoorW.PrintMore
set_option linter.unusedVariables false
set_option linter.unusedSimpArgs false
/-- An event's block. -/
def evB (k : Int) (neg : Bool) (d : ByteArray) (x : Int) : Obj := .cells #[.int .i64 k, .bool false, .bool neg, .string d, .int .i64 x, .int .u64 0, .string ⟨#[]⟩] 47 (0, 0)
set_option maxRecDepth 100000 in
theorem is_true (c : Int) (w : World) : Calls Tryz.prog 32 #[.bool true, .int .i64 c] w fun e w' => e = .returned (.tuple #[]) ∧ w = w' := by
  go_enter Tryz.func32, Tryz.ntmps32
  go_wp2_with fail
  go_end0
  exact ⟨rfl, rfl⟩
set_option maxHeartbeats 800000 in
set_option maxRecDepth 100000 in
theorem goes_list (F : Nat) (w : World) (hd : w.cell? ⟨F, 1, none⟩ = some (.int .i64 0)) (hz : w.frozen? ⟨F, 1, none⟩ = false) :
    Calls Tryz.prog 320 #[.pointer (some ⟨F, 0, none⟩), ev 7 false ⟨#[]⟩ 0] w fun e w' => e = .returned (.bool false) ∧ w' = (w.setCell ⟨F, 1, none⟩ (.int .i64 1)).alloc (evB 7 false ⟨#[]⟩ 0) := by
  unfold ev evB
  have hlt := World.block_lt_of_cell? w _ hd
  simp only [] at hlt
  go_enter Tryz.func320, Tryz.ntmps320
  go_wp2_with fail
  go_ret
  exact ⟨rfl, rfl⟩
set_option maxHeartbeats 800000 in
set_option maxRecDepth 100000 in
theorem goes_end (F : Nat) (w : World) (hd : w.cell? ⟨F, 1, none⟩ = some (.int .i64 1)) (hz : w.frozen? ⟨F, 1, none⟩ = false) :
    Calls Tryz.prog 320 #[.pointer (some ⟨F, 0, none⟩), ev 11 false ⟨#[]⟩ 0] w fun e w' => e = .returned (.bool true) ∧ w' = (w.setCell ⟨F, 1, none⟩ (.int .i64 0)).alloc (evB 11 false ⟨#[]⟩ 0) := by
  unfold ev evB
  have hlt := World.block_lt_of_cell? w _ hd
  simp only [] at hlt
  go_enter Tryz.func320, Tryz.ntmps320
  go_wp2_with fail
  go_ret
  exact ⟨rfl, rfl⟩
set_option maxHeartbeats 800000 in
set_option maxRecDepth 100000 in
theorem goes_mid (k : Int) (hk : k = 1 ∨ k = 3) (neg : Bool) (d : ByteArray) (x : Int) (F : Nat) (w : World) (hd : w.cell? ⟨F, 1, none⟩ = some (.int .i64 1)) :
    Calls Tryz.prog 320 #[.pointer (some ⟨F, 0, none⟩), ev k neg d x] w fun e w' => e = .returned (.bool false) ∧ w' = w.alloc (evB k neg d x) := by
  unfold ev evB
  have hlt := World.block_lt_of_cell? w _ hd
  simp only [] at hlt
  rcases hk with rfl | rfl
  all_goals (
    go_enter Tryz.func320, Tryz.ntmps320
    go_wp2_with fail
    go_ret
    exact ⟨rfl, rfl⟩)
theorem info47 : (Tryz.prog.info? 47).map (fun i => (i.zero, i.size, i.bytes)) = some (some (.agg #[.int .i64 0, .bool false, .bool false, .string ⟨#[]⟩, .int .i64 0, .int .u64 0, .string ⟨#[]⟩]), 7, 72) := by kernel_rfl
/-- The machine's block. -/
def mB (a b told : Value) (n : Int) : Obj := .cells #[a, b, told, .int .i64 n, .int .i64 0] 81 (0, 0)
theorem tell_grow {w1 w2 : World} {o : Obj} (h : (w1.drew.alloc o).grownBy w2 (Value.slice none 0 0).ownBlock) : Below w1.heap.size w1 w2 :=
  pw_below_grown (below_alloc (Below.refl _ _).drew _) _ (below_alloc (Below.refl _ _).drew o).size h (fun k hk => by cases hk)
theorem new_drew (w : World) (o : Obj) : (w.drew.alloc o).heap[w.heap.size]? = some o := heap_alloc_new w.drew o
theorem tell_frz {w1 w2 : World} {M : Nat} {a b c d e : Value} {t : TypeId} (hM : Hid (w1.heap[M]? = some (.cells #[a, b, c, d, e] t (0, 0)))) (h : Hid (Below w1.heap.size w1 w2)) : w2.frozen? ⟨M, 2, none⟩ = false ∧ w2.cell? ⟨M, 2, none⟩ = some c :=
  ⟨blk_frozen (blk_below hM.out h.out) 2, (blk_cell (blk_below hM.out h.out) 2).trans rfl⟩
/-- What was told: the one event. -/
structure Told (M : Nat) (a b : Value) (k : Int) (neg : Bool) (d : ByteArray) (x : Int) (B : Nat) (w : World) : Prop where
  t : ∃ g cap, w.heap[M]? = some (mB a b (.slice (some ⟨g, 0, none⟩) 1 cap) 1) ∧ B ≤ g ∧ g < w.heap.size ∧ 1 ≤ cap ∧ (∀ j, j < 7 → w.cell? ⟨g, j, none⟩ = [.int .i64 k, .bool false, .bool neg, .string d, .int .i64 x, .int .u64 0, .string ⟨#[]⟩][j]?)
theorem tell_end {w w1 w2 : World} {M g cap b : Nat} {u v x : Value} {k : Int} {neg : Bool} {d : ByteArray} {y : Int} (hM1 : w1.heap[M]? = some (mB u v x 1)) (K1 : Kp w w1 (fun k => k = M)) (hMl : M < w.heap.size) (hg : g = w1.heap.size + 1) (hlt2 : g < w2.heap.size)
    (hown : w2.ownsRow b 47 7 (.slice (some ⟨g, 0, none⟩) 1 cap) 1 [.int .i64 k, .bool false, .bool neg, .string d, .int .i64 y, .int .u64 0, .string ⟨#[]⟩]) (BW : Below w1.heap.size w1 w2) :
    Told M u v k neg d y w.heap.size (w2.setCell ⟨M, 2, none⟩ (.slice (some ⟨g, 0, none⟩) 1 cap)) ∧ Kp w (w2.setCell ⟨M, 2, none⟩ (.slice (some ⟨g, 0, none⟩) 1 cap)) (fun k => k = M) := by
  have hs := K1.size
  have hl := blk_lt hM1
  have k0 : Kp w2 (w2.setCell ⟨M, 2, none⟩ (.slice (some ⟨g, 0, none⟩) 1 cap)) (fun k => k = M) := kp_set (S := fun k => k = M) (Kp.refl w2 _) M 2 (.inl rfl) _
  refine ⟨⟨g, cap, blk_put (blk_below hM1 BW) 2 _ rfl, by omega, Nat.lt_of_lt_of_le hlt2 k0.size, ?_, ?_⟩, ?_⟩
  · rcases hown.2 with ⟨h, _⟩ | ⟨g', cap', cur, hv, _, _, hn, _⟩
    · cases h
    · cases hv
      exact hn
  · intro j hj
    have h1 := World.ownsRow.cellAt hown j (by omega)
    rw [← h1]
    exact World.cell?_of_block (w := w2) (k0.block g hlt2 (by show ¬ g = M; omega))
  · exact kp_set (S := fun k => k = M) (K1.below BW) M 2 (.inl rfl) _
set_option maxHeartbeats 800000 in
set_option maxRecDepth 100000 in
theorem tell_any (k : Int) (neg : Bool) (d : ByteArray) (x : Int) (M : Nat) (a b : Value) (w : World) (hM : w.heap[M]? = some (mB a b (.slice none 0 0) 0)) :
    Calls Tryz.prog 30 #[.pointer (some ⟨M, 0, none⟩), ev k neg d x] w fun e w' => e = .returned (.tuple #[]) ∧ Told M a b k neg d x w.heap.size w' ∧ Kp w w' (fun k => k = M) := by
  unfold ev
  have hM' := hM
  unfold mB at hM
  obtain ⟨c0, c1, c2, c3, c4, f0, f1, f2, f3, f4⟩ := blk5 hM
  have hlt := blk_lt hM
  replace hM := Lib.hid hM
  replace hM' := Lib.hid hM'
  go_enter Tryz.func30, Tryz.ntmps30
  go_wp2_with (go_at_call 32; (with_reducible refine (is_true _ _).mono ?_); rintro e w' ⟨rfl, rfl⟩)
  generalize hw1 : World.alloc _ _ = w1
  have hs1 : w1.heap.size = w.heap.size + 1 := by subst hw1; simp
  have hM1 : w1.heap[M]? = some (mB a b (.slice none 0 0) 1) := by
    subst hw1
    exact blk_alloc (blk_put hM.out 3 _ rfl) _
  have d0 : w1.heap[w.heap.size]? = some (evB k neg d x) := by
    subst hw1
    have h := heap_alloc_new (w.setCell ⟨M, 3, none⟩ (.int .i64 1)) (evB k neg d x)
    rw [show (w.setCell ⟨M, 3, none⟩ (.int .i64 1)).heap.size = w.heap.size by simp [World.setCell]] at h
    exact h
  have K1 : Kp w w1 (fun k => k = M) := by
    subst hw1
    exact (kp_set (Kp.refl w (fun k => k = M)) M 3 (.inl rfl) _).alloc _
  clear hw1
  unfold evB at d0
  unfold mB at hM1
  obtain ⟨e0, e1, e2, e3, e4, e5, e6, _, _, _, _, _, _, _⟩ := blk7 d0
  obtain ⟨c0, c1, c2, c3, c4, f0, f1, f2, f3, f4⟩ := blk5 hM1
  obtain ⟨i0, hi, hz0, hz1, hz2⟩ := info_parts info47
  have hlt1 := blk_lt hM1
  have hlt3 := blk_lt d0
  have hltA1 : M < w1.heap.size + 1 := by omega
  have hltB1 : w.heap.size < w1.heap.size + 1 := by omega
  have hltA2 : M < w1.heap.size + 2 := by omega
  have hltB2 : w.heap.size < w1.heap.size + 2 := by omega
  replace hM1 := Lib.hid hM1
  replace K1 := Lib.hid K1
  replace d0 := Lib.hid d0
  replace hs1 := Lib.hid hs1
  go_region_law (refine step_append_lies _ (by rfl) _ _ _ (by rfl) w1.heap.size 47 i0 _ 7 72 Tryz.underlying42 hi hz0 hz1 hz2 rfl (by omega) (.slice none 0 0) 0 [] (by rfl) (World.ownsRow_nil _ _ _ _) ⟨w1.heap.size, 0, none⟩ 1 1 [.int .i64 k, .bool false, .bool neg, .string d, .int .i64 x, .int .u64 0, .string ⟨#[]⟩] (by rfl) (by rfl) (World.news_of_block (cs := #[.int .i64 k, .bool false, .bool neg, .string d, .int .i64 x, .int .u64 0, .string ⟨#[]⟩]) (t := 47) (fr := (0, 0)) (new_drew w1 _)) (by simp [Value.oneCell']) (by omega) (by unfold maxLen; omega) (by omega) (by simp) (w1.heap.size + 1) (by simp) ?_; intro g cap w2 hown hgrow hat hlt2; have BW := Lib.hid (tell_grow hgrow); obtain ⟨fz, cz⟩ := tell_frz hM1 BW)
  all_goals (
    have hg := hat.resolve_left (by simp [Value.ownBlock])
    have HG := Lib.hid (tell_end hM1.out K1.out hlt hg hlt2 hown BW.out)
    clear hg hat hown hgrow BW
    go_wp2
    go_end0
    exact ⟨rfl, HG.out⟩)
end Go.Proofs.YtcpgcjmamjjokaaGreatDoor
