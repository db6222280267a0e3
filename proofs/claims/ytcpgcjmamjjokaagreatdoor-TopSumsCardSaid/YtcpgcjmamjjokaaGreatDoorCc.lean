/- The Checker of events: Feed, New, Done. -/
import Derived.Test.YtcpgcjmamjjokaaGreatDoorCb
namespace Go.Proofs.YtcpgcjmamjjokaaGreatDoor
open Go.RowKit Go.Proofs.YtcpgcjmamjjokaaGreatDoorW.PrintWords Go.Proofs.YtcpgcjmamjjokaaGreatDoorW.PrintMore
set_option linter.unusedVariables false
set_option linter.unusedSimpArgs false
set_option maxHeartbeats 800000 in
set_option maxRecDepth 100000 in
theorem feed_ok {k : Int} {neg : Bool} {d : ByteArray} {x : Int} {C : Nat} {Q : World → World → Prop} (w : World) (hb : w.cell? ⟨C, 2, none⟩ = some (.bool false))
    (hm : ∀ w, Calls Tryz.prog 63 #[ev k neg d x] w fun e w' => e = .returned (.bool true) ∧ Below w.heap.size w w')
    (ht : ∀ w2, Below w.heap.size w w2 → Calls Tryz.prog 64 #[.pointer (some ⟨C, 0, none⟩), ev k neg d x] w2 fun e w' => e = .returned (.bool true) ∧ Q w2 w') :
    Calls Tryz.prog 33 #[.pointer (some ⟨C, 0, none⟩), ev k neg d x] w fun e w' => e = .returned (.int .i64 0) ∧ ∃ w2, Below w.heap.size w w2 ∧ Q w2 w' := by
  unfold ev at *
  have hlt := World.block_lt_of_cell? w _ hb
  simp only [] at hlt
  replace ht := Lib.hid ht
  replace hm := Lib.hid hm
  go_enter Tryz.func33, Tryz.ntmps33
  go_wp2_with fail
  generalize hw1 : World.alloc w _ = w1
  obtain ⟨d0', B1⟩ : w1.heap[w.heap.size]? = some (.cells #[.int .i64 k, .bool false, .bool neg, .string d, .int .i64 x, .int .u64 0, .string ⟨#[]⟩] 47 (0, 0)) ∧ Below w.heap.size w w1 := by
    subst hw1
    exact ⟨heap_alloc_new _ _, below_alloc (Below.refl _ _) _⟩
  clear hw1
  refine (hm.out _).mono ?_
  rintro e w2 ⟨rfl, B2⟩
  have d2 := blk_below d0' B2
  have B3 := below_then B1 B1.size B2
  obtain ⟨e0, e1, e2, e3, e4, e5, e6, _, _, _, _, _, _, _⟩ := blk7 d2
  clear d0' d2 B1 B2
  replace B3 := Lib.hid B3
  go_wp2_with fail
  refine (ht.out _ B3.out).mono ?_
  rintro e w3 ⟨rfl, hQ⟩
  replace hQ := Lib.hid hQ
  go_wp2_with fail
  go_ret
  exact ⟨rfl, w2, B3.out, hQ.out⟩
theorem chk_below {B C R F : Nat} {many : Int} {w w' : World} (h : Chk B C R F many w) (k : Below w.heap.size w w') : Chk B C R F many w' := h.kp (Kp.of_below k (fun _ => False)) id id id
theorem kp_pre {w w1 w2 : World} {S : Nat → Prop} (h : Below w.heap.size w w1) (k : Kp w1 w2 S) : Kp w w2 S := (Kp.of_below h S).trans k (fun _ hi => .inl hi)
theorem feed_list (C : Nat) (w : World) (hC : w.heap[C]? = some (.cells #[.slice none 0 0, .bool false, .bool false] 110 (0, 0))) :
    Calls Tryz.prog 33 #[.pointer (some ⟨C, 0, none⟩), ev 7 false ⟨#[]⟩ 0] w fun e w' => e = .returned (.int .i64 0) ∧ (∃ R F, Chk C C R F 0 w' ∧ w.heap.size ≤ R ∧ w.heap.size ≤ F) ∧ Kp w w' (fun k => k = C) :=
  (feed_ok w (blk3 hC).2.2.1 (fun w => may_plain 7 (by decide) w) (fun w2 hB => takes_list C w2 (blk_below hC hB))).mono fun e w' ⟨he, w2, hB, ⟨R, F, h1, h2, h3⟩, h4⟩ =>
    ⟨he, ⟨R, F, h1, Nat.le_trans hB.size h2, Nat.le_trans hB.size h3⟩, kp_pre hB h4⟩
theorem feed_null (B C R F many : Nat) (hm : many < 1000000) (w : World) (hC : Chk B C R F many w) :
    Calls Tryz.prog 33 #[.pointer (some ⟨C, 0, none⟩), ev 1 false ⟨#[]⟩ 0] w fun e w' => e = .returned (.int .i64 0) ∧ Chk B C R F (many + 1 : Nat) w' ∧ Kp w w' (fun k => k = C ∨ k = F) :=
  (feed_ok w (by obtain ⟨cap, hc⟩ := hC.c; exact (blk3 hc).2.2.1) (fun w => may_plain 1 (by decide) w) (fun w2 hB => takes_mid1 false ⟨#[]⟩ 0 B C R F many hm w2 (chk_below hC hB))).mono fun e w' ⟨he, w2, hB, h1, h4⟩ =>
    ⟨he, h1, kp_pre hB h4⟩
theorem feed_num (neg : Bool) (d : ByteArray) (x : Int) (hN : ∀ w, Calls Tryz.prog 90 #[.agg #[.bool neg, .string d, .int .i64 x]] w fun e w' => e = .returned (.int .i64 0) ∧ Below w.heap.size w w')
    (B C R F many : Nat) (hm : many < 1000000) (w : World) (hC : Chk B C R F many w) :
    Calls Tryz.prog 33 #[.pointer (some ⟨C, 0, none⟩), ev 3 neg d x] w fun e w' => e = .returned (.int .i64 0) ∧ Chk B C R F (many + 1 : Nat) w' ∧ Kp w w' (fun k => k = C ∨ k = F) :=
  (feed_ok w (by obtain ⟨cap, hc⟩ := hC.c; exact (blk3 hc).2.2.1) (fun w => may_num neg d x hN w) (fun w2 hB => takes_mid3 neg d x B C R F many hm w2 (chk_below hC hB))).mono fun e w' ⟨he, w2, hB, h1, h4⟩ =>
    ⟨he, h1, kp_pre hB h4⟩
theorem feed_end (B C R F many : Nat) (w : World) (hC : Chk B C R F many w) :
    Calls Tryz.prog 33 #[.pointer (some ⟨C, 0, none⟩), ev 11 false ⟨#[]⟩ 0] w fun e w' => e = .returned (.int .i64 0) ∧ (∃ cap, w'.heap[C]? = some (.cells #[.slice (some ⟨R, 0, none⟩) 0 cap, .bool true, .bool false] 110 (0, 0))) ∧ Kp w w' (fun k => k = C) :=
  (feed_ok w (by obtain ⟨cap, hc⟩ := hC.c; exact (blk3 hc).2.2.1) (fun w => may_plain 11 (by decide) w) (fun w2 hB => takes_end false ⟨#[]⟩ 0 B C R F many w2 (chk_below hC hB))).mono fun e w' ⟨he, w2, hB, h1, h4⟩ =>
    ⟨he, h1, kp_pre hB h4⟩
set_option maxRecDepth 100000 in
theorem new_any (w : World) : Calls Tryz.prog 28 #[] w fun e w' => e = .returned (.pointer (some ⟨w.heap.size, 0, none⟩)) ∧ w' = w.alloc (.cells #[.slice none 0 0, .bool false, .bool false] 110 (0, 0)) := by
  go_enter Tryz.func28, Tryz.ntmps28
  go_wp2_with fail
  go_ret
  exact ⟨rfl, rfl⟩
set_option maxRecDepth 100000 in
theorem done_any (C : Nat) (o : Bool) (w : World) (h : w.cell? ⟨C, 1, none⟩ = some (.bool o)) : Calls Tryz.prog 35 #[.pointer (some ⟨C, 0, none⟩)] w fun e w' => e = .returned (.bool o) ∧ w = w' := by
  go_enter Tryz.func35, Tryz.ntmps35
  cases o with
  | false =>
    go_wp2_with fail
    go_ret
    exact ⟨rfl, rfl⟩
  | true =>
    go_wp2_with fail
    go_ret
    exact ⟨rfl, rfl⟩
end Go.Proofs.YtcpgcjmamjjokaaGreatDoor
