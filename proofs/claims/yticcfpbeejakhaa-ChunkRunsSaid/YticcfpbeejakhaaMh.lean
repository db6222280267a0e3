/- The document's examples hold. -/
import Derived.Test.YticcfpbeejakhaaMg
import Derived.Lib.SlBytesConst
namespace Go.Proofs.Yticcfpbeejakhaa
open Go.RowKit Go.Proofs.YticcfpbeejakhaaW.PrintWords Go.Proofs.YticcfpbeejakhaaW.PrintMore
set_option linter.unusedVariables false
set_option linter.unusedSimpArgs false

/-- Three bytes of a constant, newly laid. -/
theorem const_reads (w : World) (a b c : Int) : ReadsInt (w.alloc (.cells #[.int .u8 a, .int .u8 b, .int .u8 c] 5 (3, 4))) .u8 (some ⟨w.heap.size, 0, none⟩) 3 [a, b, c] := by
  refine ⟨rfl, by omega, fun _ => ⟨_, rfl, fun j hj => ?_⟩⟩
  rw [add_plain]
  have hh : (w.alloc (.cells #[.int .u8 a, .int .u8 b, .int .u8 c] 5 (3, 4))).heap[w.heap.size]? = some (.cells #[.int .u8 a, .int .u8 b, .int .u8 c] 5 (3, 4)) := heap_alloc_new w _
  rw [cell_of_row _ _ j _ _ _ hh]
  match j, hj with
  | 0, _ => rfl
  | 1, _ => rfl
  | 2, _ => rfl

set_option maxHeartbeats 1000000 in
set_option maxRecDepth 100000 in
theorem awake_true (w : World) : Calls Try.prog 9 #[] w fun e w' => e = .returned (.bool true) ∧ Below w.heap.size w w' := by
  have kc := fun (w : World) (C : Array Value) (n c : Nat) => Lib.run_convert_bytes_const (P := Try.prog) w 33 5 C n c Try.underlying33 Try.underlying5
  go_enter Try.func9, Try.ntmps9
  go_wp2_with fail
  refine (new_yes _ 8 (by omega) (by omega)).mono ?_
  rintro e w1 ⟨rfl, H1, B1⟩
  go_wp2_with fail
  -- Feed("abc")
  have hg1 := H1.lt
  have BA1 : Below w.heap.size w (w1.alloc (.cells #[.int .u8 97, .int .u8 98, .int .u8 99] 5 (3, 4))) := B1.alloc B1.size _
  refine (feed_is_yes (H1.below (below_alloc (Below.refl _ _) _)) _ 3 3 [97, 98, 99] (const_reads w1 97 98 99) (fun ad had _ => by injection had with had; subst had; exact ⟨by simp [Value.ownBlock], by show w1.heap.size ≠ w.heap.size; omega⟩) (by simp)).mono ?_
  rintro e w2 ⟨d, v2, rfl, hd, hdd, H3, K3, O3⟩
  obtain rfl : d = 0 := by omega
  replace H3 : SrcIs w2 w.heap.size w.heap.size v2 [97, 98, 99] 0 0 0 8 := by simpa using H3
  have B3 : Below w.heap.size w w2 := K3.toBelow BA1 BA1.size (fun k hk => by
    rcases hk with hk | hk
    · omega
    · simp [Value.ownBlock] at hk)
  clear hd hdd K3 O3 BA1 H1 B1 hg1
  go_wp2_with fail
  -- Take(2)
  refine (take_is_yes H3 2 (by omega) (by simp)).mono ?_
  rintro e w3 ⟨ga, rfl, Oa, H4, K4⟩
  replace Oa : w3.ownsRow w2.heap.size 5 1 (.slice (some ⟨ga, 0, none⟩) 2 2) 2 (nums .u8 [97, 98]) := Oa
  replace H4 : SrcIs w3 w.heap.size w.heap.size v2 [97, 98, 99] 2 2 0 8 := H4
  have B4 : Below w.heap.size w w3 := K4.toBelow B3 B3.size (fun k hk => by omega)
  have na : ga ≠ w.heap.size := fun e => by have := own_base Oa ga rfl; have := H3.lt; omega
  have va : some ga ≠ v2.ownBlock := fun e => by have := own_base Oa ga rfl; have := (H3.vlt ga e.symm).2; omega
  clear K4 B3 H3
  go_wp2_with fail
  -- Take(2), too many
  refine (take_is_no H4 2 (.inr (by simp))).mono ?_
  rintro e w4 ⟨rfl, B5⟩
  have H5 := H4.below B5
  have Oa5 := pw_own_below Oa B5
  have B5' := below_then B4 B4.size B5
  clear Oa H4 B4 B5
  go_wp2_with fail
  -- Feed("def")
  have BA5 : Below w.heap.size w (w4.alloc (.cells #[.int .u8 100, .int .u8 101, .int .u8 102] 5 (3, 4))) := B5'.alloc B5'.size _
  have hg5 := H5.lt
  refine (feed_is_yes (H5.below (below_alloc (Below.refl _ _) _)) _ 3 3 [100, 101, 102] (const_reads w4 100 101 102) (fun ad had _ => by injection had with had; subst had; exact ⟨fun e => by have := (H5.vlt _ e.symm).2; simp at this, by show w4.heap.size ≠ w.heap.size; omega⟩) (by simp)).mono ?_
  rintro e w5 ⟨d, v3, rfl, hd, hdd, H6, K6, O6⟩
  obtain rfl : d = 0 := by omega
  replace H6 : SrcIs w5 w.heap.size w.heap.size v3 [97, 98, 99, 100, 101, 102] 2 2 0 8 := by simpa using H6
  have Oa6 := K6.own (Oa5.alloc _) (fun k hk hs => by injection hk with hk; subst hk; exact hs.elim na (fun h => va h.symm))
  have va6 : some ga ≠ v3.ownBlock := fun e => by
    rcases O6 with h | ⟨b, hb, hle⟩
    · exact va (e.trans h)
    · have h1 := own_lt Oa5 ga rfl
      rw [← e] at hb
      injection hb with hb
      simp at hle
      omega
  have B6 : Below w.heap.size w w5 := K6.toBelow BA5 BA5.size (fun k hk => by
    rcases hk with hk | hk
    · omega
    · exact (H5.vlt k hk).1)
  clear hd hdd K6 O6 BA5 H5 hg5 B5' Oa5 va
  go_wp2_with fail
  -- Take(3)
  refine (take_is_yes H6 3 (by omega) (by simp)).mono ?_
  rintro e w6 ⟨gb, rfl, Ob, H7, K7⟩
  replace Ob : w6.ownsRow w5.heap.size 5 1 (.slice (some ⟨gb, 0, none⟩) 3 3) 3 (nums .u8 [99, 100, 101]) := Ob
  replace H7 : SrcIs w6 w.heap.size w.heap.size v3 [97, 98, 99, 100, 101, 102] 5 5 0 8 := H7
  have Oa7 := K7.own Oa6 (fun k hk hs => by injection hk with hk; exact na (hk.trans hs))
  have B7 : Below w.heap.size w w6 := K7.toBelow B6 B6.size (fun k hk => by omega)
  have nb : gb ≠ w.heap.size := fun e => by have := own_base Ob gb rfl; have := H6.lt; omega
  clear K7 B6 H6 Oa6
  go_wp2_with fail
  -- Back(2)
  refine (back_is_yes H7 2 (by omega) (by omega) (by omega)).mono ?_
  rintro e w7 ⟨rfl, H8, K8⟩
  replace H8 : SrcIs w7 w.heap.size w.heap.size v3 [97, 98, 99, 100, 101, 102] 3 5 0 8 := H8
  have Oa8 := K8.own Oa7 (fun k hk hs => by injection hk with hk; exact na (hk.trans hs))
  have Ob8 := K8.own Ob (fun k hk hs => by injection hk with hk; exact nb (hk.trans hs))
  have B8 : Below w.heap.size w w7 := K8.toBelow B7 B7.size (fun k hk => by omega)
  clear K8 B7 H7 Oa7 Ob
  go_wp2_with fail
  -- Feed("ghi"), too many
  refine (feed_is_no (H8.below (below_alloc (Below.refl _ _) _)) _ 3 3 (by simp)).mono ?_
  rintro e w8 ⟨rfl, B9⟩
  have B9' := below_step (below_alloc (Below.refl _ _) _) B9
  have H9 := H8.below B9'
  have Oa9 := pw_own_below Oa8 B9'
  have Ob9 := pw_own_below Ob8 B9'
  have B9'' := below_then B8 B8.size B9'
  clear B9 B9' B8 H8 Oa8 Ob8
  go_wp2_with fail
  -- Peek(3)
  refine (peek_is_yes H9 3 (by omega) (by simp)).mono ?_
  rintro e w9 ⟨gc, rfl, Oc, B10⟩
  replace Oc : w9.ownsRow w8.heap.size 5 1 (.slice (some ⟨gc, 0, none⟩) 3 3) 3 (nums .u8 [100, 101, 102]) := Oc
  have H10 := H9.below B10
  have Oa10 := pw_own_below Oa9 B10
  have Ob10 := pw_own_below Ob9 B10
  have B10' := below_then B9'' B9''.size B10
  clear B9'' B10 H9 Oa9 Ob9
  have ca : (convert 33 9 (.slice (some ⟨ga, 0, none⟩) 2 2)).run Try.prog w9 = .ok (.string ⟨#[97, 98]⟩) w9 := own_string (P := Try.prog) (src := 33) (dst := 9) (e := 5) Try.underlying33 Try.underlying5 Try.underlying9 Oa10
  have cb : (convert 33 9 (.slice (some ⟨gb, 0, none⟩) 3 3)).run Try.prog w9 = .ok (.string ⟨#[99, 100, 101]⟩) w9 := own_string (P := Try.prog) (src := 33) (dst := 9) (e := 5) Try.underlying33 Try.underlying5 Try.underlying9 Ob10
  clear Oa10 Ob10
  go_wp2_with fail
  refine (total_is H10).mono ?_
  rintro e w10 ⟨rfl, B11⟩
  have H11 := H10.below B11
  have Oc11 := pw_own_below Oc B11
  have B11' := below_then B10' B10'.size B11
  clear B10' B11 H10 Oc ca cb
  go_wp2_with fail
  refine (left_is H11).mono ?_
  rintro e w11 ⟨rfl, B12⟩
  have H12 := H11.below B12
  have Oc12 := pw_own_below Oc11 B12
  have B12' := below_then B11' B11'.size B12
  clear B11' B12 H11 Oc11
  have cc : (convert 33 9 (.slice (some ⟨gc, 0, none⟩) 3 3)).run Try.prog w11 = .ok (.string ⟨#[100, 101, 102]⟩) w11 := own_string (P := Try.prog) (src := 33) (dst := 9) (e := 5) Try.underlying33 Try.underlying5 Try.underlying9 Oc12
  go_wp2_with fail
  refine (back_is_no H12 17 (by omega) (.inl (by omega))).mono ?_
  rintro e w12 ⟨rfl, B13⟩
  have B13' := below_then B12' B12'.size B13
  clear B12' B13 H12 Oc12 cc
  go_wp2_with fail
  go_ret
  exact ⟨rfl, B13'⟩
end Go.Proofs.Yticcfpbeejakhaa
