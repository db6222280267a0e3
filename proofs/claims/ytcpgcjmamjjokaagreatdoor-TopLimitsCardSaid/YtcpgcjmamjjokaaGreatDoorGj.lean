/- pack's writer over the tag. pack's writer over the tag: the whole. -/
import Derived.Test.YtcpgcjmamjjokaaGreatDoorGi
namespace Go.Proofs.YtcpgcjmamjjokaaGreatDoor
open Go.RowKit Go.Maps Go.Proofs.YtcpgcjmamjjokaaGreatDoorW.PrintWords Go.Proofs.YtcpgcjmamjjokaaGreatDoorW.PrintLast Go.Proofs.YtcpgcjmamjjokaaGreatDoorW.PrintMore Go.Proofs.YtcpgcjmamjjokaaGreatDoor.PTopLimits
set_option linter.unusedVariables false
set_option linter.unusedSimpArgs false
theorem wz : Go.RowKit.wrap64 0 = 0 := by decide +kernel
theorem w8a : IntKind.u8.wrap 0 = 0 := by decide +kernel
theorem w8b : IntKind.u8.wrap 196 = 196 := by decide +kernel
/-- All but the row's own block. -/
def But (v : Value) (w w' : World) : Prop := Kp w w' (fun k => some k = v.ownBlock)
theorem Row.grown {B : Nat} {l m : List UInt8} {v v' : Value} {w w' : World} (h : Row B l v w) (hm : l.length + m.length ≤ 1000) (ho : w'.ownsRow B 5 1 v' (l.length + m.length) (Lib.byteCells l ++ Lib.byteCells m)) (hg : w.grownBy w' v.ownBlock) : Row B (l ++ m) v' w' ∧ But v w w' ∧ (v'.ownBlock = v.ownBlock ∨ True) := ⟨(h.grow hm ho hg).1, Kp.grown_ hg, .inr trivial⟩
theorem But.alloc {v : Value} {w w' : World} (o : Obj) (h : But v (w.alloc o) w') : But v w w' := ((Kp.refl w (fun k => some k = v.ownBlock)).alloc o).trans h (fun i hi => .inl hi)
section
variable {P : Program} {ops : Array Oper} {Q : Exit → Act → World → Prop}
/-- append([]byte, s...) in a region that draws. -/
theorem str_ {oi : Oper} {N : Option Tmp} {a : Act} {w : World} {K : Act → World → Prop} (sl x : Operand) (t u : TypeId) (hw : Region.wanted oi (yielded ops a.tmps) = true) (hN : oi.dst = N)
    (ho : oi.op = .call { callee := .builtin .append, args := #[sl, x], argTypes := #[t, u] })
    (base : Nat) (e : TypeId) (i : TypeInfo) (ht : P.underlying t = some (.slice e)) (hu : P.underlying u = some .string) (hi : P.info? e = some i) (hz : i.zero = some (.int .u8 0)) (hsize : i.size = 1) (hby : i.bytes = 1)
    (v : Value) (n : Nat) (xs : List Value) (hs : a.eval sl = v) (hown : w.ownsRow base e 1 v n xs) (s : ByteArray) (hx : a.eval x = .string s)
    (h63 : n + s.size ≤ maxLen) (hbytes : n + s.size ≤ 140737488355328) (hbase : base ≤ w.heap.size)
    (h : ∀ v' w', w'.ownsRow base e 1 v' (n + s.size) (xs ++ Lib.strCells s) → w.grownBy w' v.ownBlock → K (a.put N v') w') : if Region.wanted oi (yielded ops a.tmps) = true then Oper.wp P oi a w K Q else K (a.put N undef) w := by
  rw [if_pos hw]
  subst hN
  obtain ⟨v', w', hr, h2, h3, h4⟩ := Lib.run_append_own_string (P := P) w base t u oi.type e i ht hu hi hz hsize hby v n xs hown s h63 hbytes hbase
  unfold Oper.wp execOp
  simp only [ho, resolve, invoke, builtin, Sem.run_bind, Sem.run_pure, Result.andThen_ok, List.map_toArray, List.map_cons, List.map_nil, hs, hx, hr]
  exact h v' w' h2 h3
end
theorem But.below {B : Nat} {l : List UInt8} {v : Value} {w w' : World} (k : But v w w') (h : Row B l v w) : Below B w w' := Kp.toBelow k (Below.refl B w) h.base (fun i hi => own_base h.own i hi.symm)
theorem Row.ownlt {B : Nat} {l : List UInt8} {v : Value} {w : World} (h : Row B l v w) {k : Nat} (hk : v.ownBlock = some k) : k < w.heap.size := by
  rcases h.own.2 with ⟨rfl, _⟩ | ⟨g, cap, cur, rfl, _, hg, _⟩
  · cases hk
  · have : g = k := by simpa [Value.ownBlock] using hk
    subst this
    exact blk_lt hg
set_option maxHeartbeats 1600000 in
set_option maxRecDepth 100000 in
theorem pwide (B : Nat) (l : List UInt8) (v : Value) (w : World) (h : Row B l v w) (hl : l.length ≤ 100) : Calls Tryz.prog 140 #[v, .int .u64 1, .int .i64 1] w fun e w' => ∃ v', e = .returned v' ∧ Row B (l ++ [1]) v' w' ∧ But v w w' := by
  obtain ⟨i0, hi, hz0, hz1, hz2⟩ := info_parts info5
  go_enter Tryz.func140, Tryz.ntmps140
  go_wp2_with fail
  refine wp_loop_rounds 2 ?_
  rw [rounds_succ]
  go_wp2_with (at_builtin; refine wpList_append_lies _ rfl _ _ 65 rfl B 5 i0 _ 1 1 Tryz.underlying65 hi hz0 hz1 hz2 rfl (by omega) v l.length (Lib.byteCells l) (by rfl) (h.below (below_alloc (Below.refl _ _) _)).own ⟨w.heap.size, 0, none⟩ 1 1 [.int .u8 1] (by rfl) (by rfl) (World.news_of_block (cs := #[.int .u8 1]) (t := 5) (fr := (0, 0)) (heap_alloc_new _ _)) (by simp [Value.oneCell']) (by omega) (by unfold maxLen; omega) (by omega) (h.below (below_alloc (Below.refl _ _) _)).base _ rfl ?_; intro g cap w1 hown hgrow hat hlt; have hr := Lib.hid ((h.below (below_alloc (Below.refl _ _) _)).grown (m := [1]) (by show l.length + 1 ≤ 1000; omega) hown hgrow); clear hown hgrow hat hlt)
  rw [rounds_succ]
  go_wp2_with fail
  go_ret
  exact ⟨_, rfl, hr.out.1, hr.out.2.1.alloc _⟩
set_option maxHeartbeats 1600000 in
set_option maxRecDepth 100000 in
theorem ptxt1 (B : Nat) (l : List UInt8) (v : Value) (w : World) (h : Row B l v w) (hl : l.length ≤ 90) : Calls Tryz.prog 141 #[v, .string ⟨#[116]⟩] w fun e w' => ∃ v', e = .returned v' ∧ Row B (l ++ [161, 116]) v' w' ∧ But v w w' := by
  obtain ⟨i0, hi, hz0, hz1, hz2⟩ := info_parts info5
  have hsz : (⟨#[116]⟩ : ByteArray).size = 1 := by decide
  have hl1 : (l ++ [161]).length = l.length + 1 := by simp
  go_enter Tryz.func141, Tryz.ntmps141
  go_wp2_with (first | (at_builtin; refine wpList_append_lies _ rfl _ _ 65 rfl B 5 i0 _ 1 1 Tryz.underlying65 hi hz0 hz1 hz2 rfl (by omega) v l.length (Lib.byteCells l) (by rfl) (h.below (below_alloc (Below.refl _ _) _)).own ⟨w.heap.size, 0, none⟩ 1 1 [.int .u8 161] (by rfl) (by rfl) (World.news_of_block (cs := #[.int .u8 161]) (t := 5) (fr := (0, 0)) (heap_alloc_new _ _)) (by simp [Value.oneCell']) (by omega) (by unfold maxLen; omega) (by omega) (h.below (below_alloc (Below.refl _ _) _)).base _ rfl ?_; intro g cap w1 hown hgrow hat hlt; have hr := (h.below (below_alloc (Below.refl _ _) _)).grown (m := [161]) (by show l.length + 1 ≤ 1000; omega) hown hgrow; have hat' := Lib.hid hat; clear hown hgrow hat hlt; have hr1 := hr.1; have hr2 := Lib.hid hr.2.1; clear hr) | (at_builtin; refine Lib.wpList_append_own_string _ rfl _ _ 65 9 rfl B 5 i0 Tryz.underlying65 Tryz.underlying9 hi hz0 hz1 hz2 _ (l ++ [161]).length (Lib.byteCells (l ++ [161])) (by rfl) hr1.own ⟨#[116]⟩ (by rfl) (by rw [hsz, hl1]; unfold maxLen; omega) (by rw [hsz, hl1]; omega) hr1.base ?_; intro v2 w2 hown hgrow hnil; have hq := Lib.hid (hr1.grown (m := [116]) (by rw [hl1]; show l.length + 1 + 1 ≤ 1000; omega) hown hgrow); clear hown hgrow hnil))
  go_ret
  have h2 := hq.out.1
  rw [List.append_assoc] at h2
  refine ⟨_, rfl, h2, (hr2.out.alloc _).trans hq.out.2.1 (fun i hi => ?_)⟩
  have e1 : i = g := by simpa [Value.ownBlock] using hi
  subst e1
  rcases hat'.out with e | e
  · exact .inl e.symm
  · refine .inr ?_
    have : (World.alloc w (.cells #[.int .u8 161] 5 (0, 0))).heap.size = w.heap.size + 1 := Array.size_push _
    omega
set_option maxHeartbeats 1600000 in
set_option maxRecDepth 100000 in
theorem ptxt4 (B : Nat) (l : List UInt8) (v : Value) (w : World) (h : Row B l v w) (hl : l.length ≤ 90) : Calls Tryz.prog 141 #[v, .string ⟨#[36, 116, 97, 103]⟩] w fun e w' => ∃ v', e = .returned v' ∧ Row B (l ++ [164, 36, 116, 97, 103]) v' w' ∧ But v w w' := by
  obtain ⟨i0, hi, hz0, hz1, hz2⟩ := info_parts info5
  have hsz : (⟨#[36, 116, 97, 103]⟩ : ByteArray).size = 4 := by decide
  have hl1 : (l ++ [164]).length = l.length + 1 := by simp
  go_enter Tryz.func141, Tryz.ntmps141
  go_wp2_with (first | (at_builtin; refine wpList_append_lies _ rfl _ _ 65 rfl B 5 i0 _ 1 1 Tryz.underlying65 hi hz0 hz1 hz2 rfl (by omega) v l.length (Lib.byteCells l) (by rfl) (h.below (below_alloc (Below.refl _ _) _)).own ⟨w.heap.size, 0, none⟩ 1 1 [.int .u8 164] (by rfl) (by rfl) (World.news_of_block (cs := #[.int .u8 164]) (t := 5) (fr := (0, 0)) (heap_alloc_new _ _)) (by simp [Value.oneCell']) (by omega) (by unfold maxLen; omega) (by omega) (h.below (below_alloc (Below.refl _ _) _)).base _ rfl ?_; intro g cap w1 hown hgrow hat hlt; have hr := (h.below (below_alloc (Below.refl _ _) _)).grown (m := [164]) (by show l.length + 1 ≤ 1000; omega) hown hgrow; have hat' := Lib.hid hat; clear hown hgrow hat hlt; have hr1 := hr.1; have hr2 := Lib.hid hr.2.1; clear hr) | (at_builtin; refine Lib.wpList_append_own_string _ rfl _ _ 65 9 rfl B 5 i0 Tryz.underlying65 Tryz.underlying9 hi hz0 hz1 hz2 _ (l ++ [164]).length (Lib.byteCells (l ++ [164])) (by rfl) hr1.own ⟨#[36, 116, 97, 103]⟩ (by rfl) (by rw [hsz, hl1]; unfold maxLen; omega) (by rw [hsz, hl1]; omega) hr1.base ?_; intro v2 w2 hown hgrow hnil; have hq := Lib.hid (hr1.grown (m := [36, 116, 97, 103]) (by rw [hl1]; show l.length + 1 + 4 ≤ 1000; omega) hown hgrow); clear hown hgrow hnil))
  go_ret
  have h2 := hq.out.1
  rw [List.append_assoc] at h2
  refine ⟨_, rfl, h2, (hr2.out.alloc _).trans hq.out.2.1 (fun i hi => ?_)⟩
  have e1 : i = g := by simpa [Value.ownBlock] using hi
  subst e1
  rcases hat'.out with e | e
  · exact .inl e.symm
  · refine .inr ?_
    have : (World.alloc w (.cells #[.int .u8 164] 5 (0, 0))).heap.size = w.heap.size + 1 := Array.size_push _
    omega
set_option maxHeartbeats 3200000 in
set_option maxRecDepth 100000 in
theorem psized (B : Nat) (l : List UInt8) (v : Value) (w : World) (h : Row B l v w) (hl : l.length ≤ 90) : Calls Tryz.prog 142 #[v, .int .u8 196, .int .i64 1, .int .i64 0] w fun e w' => ∃ v', e = .returned v' ∧ Row B (l ++ [196, 1]) v' w' ∧ But v w w' := by
  obtain ⟨i0, hi, hz0, hz1, hz2⟩ := info_parts info5
  go_enter Tryz.func142, Tryz.ntmps142
  go_wp2_with fail
  refine wp_loop_rounds 1 ?_
  rw [rounds_succ]
  go_upto_region 6 with fail
  refine start_ (n := 15) (S := fun w' => True) (ds := []) #[false, false, false, false, false, false, false, false, false, false, false, false, false, false, false] (by kernel_rfl) rfl rfl trivial (fun hHeld => ?_)
  refine pure_ (i := 0) (N := some 26) (v := ?_) (a' := ?_) #[true, false, false, false, false, false, false, false, false, false, false, false, false, false, false] rfl rfl (by kernel_rfl) (fun _ _ _ h => h) (Or.inl ⟨by rfl, ?_⟩) ?_ ?_
  rotate_left
  · intro w'
    go_simp
    with_reducible rfl
  rotate_left
  · simp only [Act.put, List.setIfInBounds_toArray, List.set_cons_zero, List.set_cons_succ, i64_w, i32_w, wz, w8a, w8b, Int.add_zero, Int.zero_add]
    rfl
  refine pure_ (i := 1) (N := some 27) (v := ?_) (a' := ?_) #[true, true, false, false, false, false, false, false, false, false, false, false, false, false, false] rfl rfl (by kernel_rfl) (fun _ _ _ h => h) (Or.inl ⟨by rfl, ?_⟩) ?_ ?_
  rotate_left
  · intro w'
    go_simp
    with_reducible rfl
  rotate_left
  · simp only [Act.put, List.setIfInBounds_toArray, List.set_cons_zero, List.set_cons_succ, i64_w, i32_w, wz, w8a, w8b, Int.add_zero, Int.zero_add]
    rfl
  refine pure_ (i := 2) (N := some 28) (v := ?_) (a' := ?_) #[true, true, true, false, false, false, false, false, false, false, false, false, false, false, false] rfl rfl (by kernel_rfl) (fun _ _ _ h => h) (Or.inl ⟨by rfl, ?_⟩) ?_ ?_
  rotate_left
  · intro w'
    go_simp
    with_reducible rfl
  rotate_left
  · simp only [Act.put, List.setIfInBounds_toArray, List.set_cons_zero, List.set_cons_succ, i64_w, i32_w, wz, w8a, w8b, Int.add_zero, Int.zero_add]
    rfl
  refine pure_ (i := 3) (N := some 29) (v := ?_) (a' := ?_) #[true, true, true, true, false, false, false, false, false, false, false, false, false, false, false] rfl rfl (by kernel_rfl) (fun _ _ _ h => h) (Or.inl ⟨by rfl, ?_⟩) ?_ ?_
  rotate_left
  · intro w'
    go_simp
    with_reducible rfl
  rotate_left
  · simp only [Act.put, List.setIfInBounds_toArray, List.set_cons_zero, List.set_cons_succ, i64_w, i32_w, wz, w8a, w8b, Int.add_zero, Int.zero_add]
    rfl
  refine pure_ (i := 4) (N := some 30) (v := ?_) (a' := ?_) #[true, true, true, true, true, false, false, false, false, false, false, false, false, false, false] rfl rfl (by kernel_rfl) (fun _ _ _ h => h) (Or.inl ⟨by rfl, ?_⟩) ?_ ?_
  rotate_left
  · intro w'
    go_simp
    with_reducible rfl
  rotate_left
  · simp only [Act.put, List.setIfInBounds_toArray, List.set_cons_zero, List.set_cons_succ, i64_w, i32_w, wz, w8a, w8b, Int.add_zero, Int.zero_add]
    rfl
  refine pure_ (i := 7) (N := some 33) (v := ?_) (a' := ?_) #[true, true, true, true, true, false, false, true, false, false, false, false, false, false, false] rfl rfl (by kernel_rfl) (fun _ _ _ h => h) (Or.inl ⟨by rfl, ?_⟩) ?_ ?_
  rotate_left
  · intro w'
    go_simp
    with_reducible rfl
  rotate_left
  · simp only [Act.put, List.setIfInBounds_toArray, List.set_cons_zero, List.set_cons_succ, i64_w, i32_w, wz, w8a, w8b, Int.add_zero, Int.zero_add]
    rfl
  refine pure_ (i := 8) (N := some 34) (v := ?_) (a' := ?_) #[true, true, true, true, true, false, false, true, true, false, false, false, false, false, false] rfl rfl (by kernel_rfl) (fun _ _ _ h => h) (Or.inl ⟨by rfl, ?_⟩) ?_ ?_
  rotate_left
  · intro w'
    go_simp
    with_reducible rfl
  rotate_left
  · simp only [Act.put, List.setIfInBounds_toArray, List.set_cons_zero, List.set_cons_succ, i64_w, i32_w, wz, w8a, w8b, Int.add_zero, Int.zero_add]
    rfl
  refine pure_ (i := 9) (N := some 35) (v := ?_) (a' := ?_) #[true, true, true, true, true, false, false, true, true, true, false, false, false, false, false] rfl rfl (by kernel_rfl) (fun _ _ _ h => h) (Or.inl ⟨by rfl, ?_⟩) ?_ ?_
  rotate_left
  · intro w'
    go_simp
    with_reducible rfl
  rotate_left
  · simp only [Act.put, List.setIfInBounds_toArray, List.set_cons_zero, List.set_cons_succ, i64_w, i32_w, wz, w8a, w8b, Int.add_zero, Int.zero_add]
    rfl
  refine pure_ (i := 10) (N := some 36) (v := ?_) (a' := ?_) #[true, true, true, true, true, false, false, true, true, true, true, false, false, false, false] rfl rfl (by kernel_rfl) (fun _ _ _ h => h) (Or.inl ⟨by rfl, ?_⟩) ?_ ?_
  rotate_left
  · intro w'
    go_simp
    with_reducible rfl
  rotate_left
  · simp only [Act.put, List.setIfInBounds_toArray, List.set_cons_zero, List.set_cons_succ, i64_w, i32_w, wz, w8a, w8b, Int.add_zero, Int.zero_add]
    rfl
  refine pure_ (i := 11) (N := some 37) (v := ?_) (a' := ?_) #[true, true, true, true, true, false, false, true, true, true, true, true, false, false, false] rfl rfl (by kernel_rfl) (fun _ _ _ h => h) (Or.inl ⟨by rfl, ?_⟩) ?_ ?_
  rotate_left
  · intro w'
    go_simp
    with_reducible rfl
  rotate_left
  · simp only [Act.put, List.setIfInBounds_toArray, List.set_cons_zero, List.set_cons_succ, i64_w, i32_w, wz, w8a, w8b, Int.add_zero, Int.zero_add]
    rfl
  refine pure_ (i := 12) (N := some 38) (v := ?_) (a' := ?_) #[true, true, true, true, true, false, false, true, true, true, true, true, true, false, false] rfl rfl (by kernel_rfl) (fun _ _ _ h => h) (Or.inl ⟨by rfl, ?_⟩) ?_ ?_
  rotate_left
  · intro w'
    go_simp
    with_reducible rfl
  rotate_left
  · simp only [Act.put, List.setIfInBounds_toArray, List.set_cons_zero, List.set_cons_succ, i64_w, i32_w, wz, w8a, w8b, Int.add_zero, Int.zero_add]
    rfl
  refine one_ (i := 5) (N := some 31) #[true, true, true, true, true, true, false, true, true, true, true, true, true, false, false] rfl rfl (by kernel_rfl) (by decide) (fun K hK => ?_)
  refine value_ (v := .slice (some ⟨w.heap.size, 0, none⟩) 1 1) (w1 := w.drew.alloc (.cells #[.int .u8 196] 5 (0, 0))) (by rfl) rfl ?_ ?_
  · go_simp
  have B2 : Below w.heap.size w (w.drew.alloc (.cells #[.int .u8 196] 5 (0, 0))) := below_alloc (Below.refl _ _).drew _
  have h2 := h.below B2
  refine hK.out _ _ trivial (fun hHeld2 => ?_)
  clear hK K
  refine norm_ (a' := ?_) ?_ ?_
  rotate_left
  · show Act.put _ (some 31) _ = _
    simp only [Act.put, List.setIfInBounds_toArray, List.set_cons_zero, List.set_cons_succ, i64_w, i32_w]
    rfl
  refine one_ (i := 6) (N := some 32) #[true, true, true, true, true, true, true, true, true, true, true, true, true, false, false] rfl rfl (by kernel_rfl) (by decide) (fun K hK => ?_)
  refine step_append_lies _ (by rfl) _ _ _ (by rfl) B 5 i0 _ 1 1 Tryz.underlying65 hi hz0 hz1 hz2 rfl (by omega) v l.length (Lib.byteCells l) (by rfl) h2.own ⟨w.heap.size, 0, none⟩ 1 1 [.int .u8 196] (by rfl) (by rfl) (World.news_of_block (cs := #[.int .u8 196]) (t := 5) (fr := (0, 0)) (heap_alloc_new w.drew _)) (by simp [Value.oneCell']) (by omega) (by unfold maxLen; omega) (by omega) h2.base _ rfl ?_
  intro g2 cap2 w2 hown hgrow hat hlt
  obtain ⟨r2, B3, _⟩ := h2.grown (m := [196]) (by show l.length + 1 ≤ 1000; omega) hown hgrow
  replace hat := Lib.hid hat
  clear hown hgrow hlt
  refine hK.out _ _ trivial (fun hHeld3 => ?_)
  clear hK K
  refine norm_ (a' := ?_) ?_ ?_
  rotate_left
  · show Act.put _ (some 32) _ = _
    simp only [Act.put, List.setIfInBounds_toArray, List.set_cons_zero, List.set_cons_succ, i64_w, i32_w]
    rfl
  refine one_ (i := 13) (N := some 39) #[true, true, true, true, true, true, true, true, true, true, true, true, true, true, false] rfl rfl (by kernel_rfl) (by decide) (fun K hK => ?_)
  refine goes_ Tryz.func140 (by kernel_rfl) rfl #[.slice (some ⟨g2, 0, none⟩) (l.length + 1) cap2, .int .u64 1, .int .i64 1] (by rfl) rfl rfl (by simp [Act.eval]; decide +kernel) ?_
  refine (pwide B _ _ w2 r2 (by simp; omega)).mono ?_
  rintro e w3 ⟨v3, rfl, r3, q⟩
  refine ⟨_, rfl, hK.out _ _ trivial (fun hHeld4 => ?_)⟩
  clear hK K
  refine norm_ (a' := ?_) ?_ ?_
  rotate_left
  · show Act.put _ (some 39) _ = _
    simp only [Act.put, List.setIfInBounds_toArray, List.set_cons_zero, List.set_cons_succ, i64_w, i32_w]
    rfl
  refine pure_ (i := 14) (N := some 8) (v := ?_) (a' := ?_) #[true, true, true, true, true, true, true, true, true, true, true, true, true, true, true] rfl rfl (by kernel_rfl) (fun _ _ _ h => h) (Or.inl ⟨by rfl, ?_⟩) ?_ ?_
  rotate_left
  · intro w'
    go_simp
    with_reducible rfl
  rotate_left
  · simp only [Act.put, List.setIfInBounds_toArray, List.set_cons_zero, List.set_cons_succ, i64_w, i32_w]
    rfl
  refine done_ (by kernel_rfl) ?_
  go_wp2_with fail
  go_ret
  rw [List.append_assoc] at r3
  refine ⟨_, rfl, r3, ((Kp.of_below B2 (fun k => some k = v.ownBlock)).trans B3 (fun i hi => .inl hi)).trans q (fun i hi => ?_)⟩
  have e1 : i = g2 := by simpa [Value.ownBlock] using hi
  subst e1
  rcases hat.out with e | e
  · exact .inl e.symm
  · refine .inr ?_
    have : (World.alloc w.drew (.cells #[.int .u8 196] 5 (0, 0))).heap.size = w.heap.size + 1 := Array.size_push _
    omega
theorem Row.ne {B : Nat} {l : List UInt8} {v : Value} {w : World} (h : Row B l v w) {k : Nat} {c : Array Value} {t : TypeId} {f : Nat × Nat} (hk : w.heap[k]? = some (.cells c t f)) (ht : t ≠ 5) : v.ownBlock ≠ some k := by
  rcases h.own.2 with ⟨rfl, _⟩ | ⟨g, cap, cur, rfl, _, hg, _⟩
  · exact fun e => by cases e
  · intro e
    have : g = k := by simpa [Value.ownBlock] using e
    subst this
    rw [hg] at hk
    exact ht (by injection hk with hk; injection hk with _ h2; exact h2.symm)
theorem Row.ne1 {B : Nat} {x : UInt8} {l : List UInt8} {v : Value} {w : World} (h : Row B (x :: l) v w) {k : Nat} {y : Int} {t : TypeId} {f : Nat × Nat} (hk : w.heap[k]? = some (.cells #[.int .u8 y] t f)) (hy : (x.toNat : Int) ≠ y) : v.ownBlock ≠ some k := by
  rcases h.own.2 with ⟨_, h0⟩ | ⟨g, cap, cur, rfl, _, hg, hn, _, hs, ht⟩
  · exact absurd h0 (by simp)
  · intro e
    have : g = k := by simpa [Value.ownBlock] using e
    subst this
    rw [hg] at hk
    injection hk with hk
    injection hk with h1
    subst h1
    have h2 := congrArg List.head? ht
    simp [Lib.byteCells] at h2
    exact hy h2.symm
theorem But.below' {B : Nat} {l : List UInt8} {v : Value} {w w' : World} (k : But v w w') (h : Row B l v w) : Below B w w' := k.below h
theorem Row.drew {B : Nat} {l : List UInt8} {v : Value} {w : World} (h : Row B l v w) : Row B l v w.drew := h.kp ((Kp.refl w _).drew)
set_option maxHeartbeats 3200000 in
set_option maxRecDepth 100000 in
theorem play_kid (B : Nat) (l : List UInt8) (v : Value) (w : World) (h : Row B l v w) (hl : l.length ≤ 90) : Calls Tryz.prog 102 #[v, kidV] w fun e w' => ∃ v', e = .returned v' ∧ Row B (l ++ [196, 1, 0]) v' w' ∧ Below B w w' := by
  obtain ⟨i0, hi, hz0, hz1, hz2⟩ := info_parts info5
  have hsz : (⟨#[0]⟩ : ByteArray).size = 1 := by decide
  unfold kidV
  replace h := Lib.hid h
  go_enter Tryz.func102, Tryz.ntmps102
  go_upto_region 19 with fail
  generalize hw1 : World.alloc w _ = w1
  obtain ⟨x1, B1⟩ := alloc_at hw1
  clear hw1
  have h1 := h.out.below B1
  obtain ⟨X, hX⟩ : ∃ X, w.heap.size = X := ⟨_, rfl⟩
  rw [hX] at x1
  rw [hX]
  replace hX := Lib.hid hX
  obtain ⟨xc0, xc1, xc2, xc3, xc4, xc5, xc6, xc7, xc8, xf0, xf1, xf2, xf3, xf4, xf5, xf6, xf7, xf8⟩ := blk9 x1
  refine start_ (n := 9) (S := fun w' => w'.heap[X]? = some (.cells #[.int .i64 6, .bool false, .bool false, .string ⟨#[]⟩, .int .i64 0, .int .u64 0, .string ⟨#[0]⟩, .slice none 0 0, .slice none 0 0] 36 (0, 0))) (ds := []) #[false, false, false, false, false, false, false, false, false] (by kernel_rfl) rfl rfl x1 (fun hHeld => ?_)
  refine pure_ (i := 0) (N := some 66) (v := ?_) (a' := ?_) #[true, false, false, false, false, false, false, false, false] rfl rfl (by kernel_rfl) (fun _ _ _ h => h) (Or.inl ⟨by rfl, ?_⟩) ?_ ?_
  rotate_left
  · intro w'
    go_simp
    with_reducible rfl
  rotate_left
  · simp only [Act.put, List.setIfInBounds_toArray, List.set_cons_zero, List.set_cons_succ, i64_w, i32_w]
    rfl
  refine pure_ (i := 1) (N := some 67) (v := ?_) (a' := ?_) #[true, true, false, false, false, false, false, false, false] rfl rfl (by kernel_rfl) (fun _ _ _ h => h) (Or.inl ⟨by rfl, ?_⟩) ?_ ?_
  rotate_left
  · intro w'
    go_simp
    with_reducible rfl
  rotate_left
  · simp only [Act.put, List.setIfInBounds_toArray, List.set_cons_zero, List.set_cons_succ, i64_w, i32_w]
    rfl
  refine take_ (i := 2) (N := some 68) (v := ?_) (a' := ?_) #[true, true, true, false, false, false, false, false, false] rfl rfl (by kernel_rfl) (fun _ _ _ h => h) (Or.inl ⟨by rfl, ?_⟩) hHeld ?_ ?_
  rotate_left
  · rintro w' s0
    obtain ⟨kc0, kc1, kc2, kc3, kc4, kc5, kc6, kc7, kc8, _⟩ := blk9 s0
    go_simp
    with_reducible rfl
  rotate_left
  · simp only [Act.put, List.setIfInBounds_toArray, List.set_cons_zero, List.set_cons_succ, i64_w, i32_w]
    rfl
  refine pure_ (i := 3) (N := some 69) (v := ?_) (a' := ?_) #[true, true, true, true, false, false, false, false, false] rfl rfl (by kernel_rfl) (fun _ _ _ h => h) (Or.inl ⟨by rfl, ?_⟩) ?_ ?_
  rotate_left
  · intro w'
    go_simp
    with_reducible rfl
  rotate_left
  · simp only [Act.put, List.setIfInBounds_toArray, List.set_cons_zero, List.set_cons_succ, i64_w, i32_w]
    rfl
  refine pure_ (i := 5) (N := some 71) (v := ?_) (a' := ?_) #[true, true, true, true, false, true, false, false, false] rfl rfl (by kernel_rfl) (fun _ _ _ h => h) (Or.inl ⟨by rfl, ?_⟩) ?_ ?_
  rotate_left
  · intro w'
    go_simp
    with_reducible rfl
  rotate_left
  · simp only [Act.put, List.setIfInBounds_toArray, List.set_cons_zero, List.set_cons_succ, i64_w, i32_w]
    rfl
  refine take_ (i := 6) (N := some 72) (v := ?_) (a' := ?_) #[true, true, true, true, false, true, true, false, false] rfl rfl (by kernel_rfl) (fun _ _ _ h => h) (Or.inl ⟨by rfl, ?_⟩) hHeld ?_ ?_
  rotate_left
  · rintro w' s0
    obtain ⟨kc0, kc1, kc2, kc3, kc4, kc5, kc6, kc7, kc8, _⟩ := blk9 s0
    go_simp
    with_reducible rfl
  rotate_left
  · simp only [Act.put, List.setIfInBounds_toArray, List.set_cons_zero, List.set_cons_succ, i64_w, i32_w]
    rfl
  refine one_ (i := 4) (N := some 70) #[true, true, true, true, true, true, true, false, false] rfl rfl (by kernel_rfl) (by decide) (fun K hK => ?_)
  refine goes_ Tryz.func142 (by kernel_rfl) rfl #[v, .int .u8 196, .int .i64 1, .int .i64 0] (by rfl) rfl rfl (by simp [Act.eval]) ?_
  refine (psized B l v w1.drew h1.drew hl).mono ?_
  rintro e w2 ⟨v2, rfl, r2, q⟩
  have BB := But.below q h1.drew
  refine ⟨_, rfl, hK.out _ _ (q.heap hHeld (fun e => h1.drew.ne hHeld (by decide) e.symm)) (fun hHeld4 => ?_)⟩
  clear hK K
  refine norm_ (a' := ?_) ?_ ?_
  rotate_left
  · show Act.put _ (some 70) _ = _
    simp only [Act.put, List.setIfInBounds_toArray, List.set_cons_zero, List.set_cons_succ, i64_w, i32_w]
    rfl
  refine one_ (i := 7) (N := some 73) #[true, true, true, true, true, true, true, true, false] rfl rfl (by kernel_rfl) (by decide) (fun K hK => ?_)
  have hl2 : (l ++ [196, 1]).length = l.length + 2 := by simp
  refine str_ _ _ 65 9 (by rfl) rfl rfl B 5 i0 Tryz.underlying65 Tryz.underlying9 hi hz0 hz1 hz2 v2 (l ++ [196, 1]).length (Lib.byteCells (l ++ [196, 1])) (by rfl) r2.own ⟨#[0]⟩ (by rfl) (by rw [hsz, hl2]; unfold maxLen; omega) (by rw [hsz, hl2]; omega) r2.base ?_
  intro v3 w3 hown hgrow
  obtain ⟨r3, B3⟩ := r2.grow (m := [0]) (by rw [hl2]; show l.length + 2 + 1 ≤ 1000; omega) hown hgrow
  refine hK.out _ _ (row_grow hHeld4 hgrow (fun e => r2.ne hHeld4 (by decide) e.symm)) (fun hHeld5 => ?_)
  clear hK K
  refine norm_ (a' := ?_) ?_ ?_
  rotate_left
  · show Act.put _ (some 73) _ = _
    simp only [Act.put, List.setIfInBounds_toArray, List.set_cons_zero, List.set_cons_succ, i64_w, i32_w]
    rfl
  refine pure_ (i := 8) (N := some 4) (v := ?_) (a' := ?_) #[true, true, true, true, true, true, true, true, true] rfl rfl (by kernel_rfl) (fun _ _ _ h => h) (Or.inl ⟨by rfl, ?_⟩) ?_ ?_
  rotate_left
  · intro w'
    go_simp
    with_reducible rfl
  rotate_left
  · simp only [Act.put, List.setIfInBounds_toArray, List.set_cons_zero, List.set_cons_succ, i64_w, i32_w]
    rfl
  refine done_ (by kernel_rfl) ?_
  go_wp2_with fail
  go_ret
  rw [List.append_assoc] at r3
  exact ⟨_, rfl, r3, ((B1.mono h.out.base).trans (show Below B w1 w2 from ⟨BB.os, BB.tape, BB.output, BB.size, BB.block⟩)).trans B3⟩
end Go.Proofs.YtcpgcjmamjjokaaGreatDoor
namespace Go.Proofs.YtcpgcjmamjjokaaGreatDoor
open Go.RowKit Go.Maps Go.Proofs.YtcpgcjmamjjokaaGreatDoorW.PrintWords Go.Proofs.YtcpgcjmamjjokaaGreatDoorW.PrintLast Go.Proofs.YtcpgcjmamjjokaaGreatDoorW.PrintMore Go.Proofs.YtcpgcjmamjjokaaGreatDoor.PTopLimits
set_option linter.unusedVariables false
set_option linter.unusedSimpArgs false
def packL : List UInt8 := [129, 164, 36, 116, 97, 103, 146, 161, 116, 196, 1, 0]
set_option maxHeartbeats 6400000 in
set_option maxRecDepth 100000 in
theorem play_top (w : World) (g : Nat) (hg : Kid g w) : Calls Tryz.prog 102 #[.slice none 0 0, topV g] w fun e w' => ∃ v', e = .returned v' ∧ Row w.heap.size packL v' w' ∧ Below w.heap.size w w' := by
  obtain ⟨i0, hi, hz0, hz1, hz2⟩ := info_parts info5
  unfold topV
  have hgl := blk_lt hg
  replace hg := Lib.hid hg
  go_enter Tryz.func102, Tryz.ntmps102
  go_upto_region 21 with fail
  generalize hw1 : World.alloc w _ = w1
  obtain ⟨x1, B1⟩ := alloc_at hw1
  clear hw1
  have k1 := hg.out.below B1
  obtain ⟨X, hX⟩ : ∃ X, w.heap.size = X := ⟨_, rfl⟩
  rw [hX] at x1 B1
  rw [hX]
  have hgX : g < X := by rw [← hX]; exact hgl
  obtain ⟨Y, hY⟩ : ∃ Y, w1.heap.size = Y := ⟨_, rfl⟩
  have hXY : X < Y := by rw [← hY]; exact blk_lt x1
  have hYd : w1.drew.heap.size = Y := hY
  have hS : ∀ W W', Below Y W W' → (W.heap[X]? = some (.cells #[.int .i64 9, .bool false, .bool false, .string ⟨#[]⟩, .int .i64 0, .int .u64 0, .string ⟨#[116]⟩, .slice none 0 0, .slice (some ⟨g, 0, none⟩) 1 1] 36 (0, 0)) ∧ Kid g W) → (W'.heap[X]? = some (.cells #[.int .i64 9, .bool false, .bool false, .string ⟨#[]⟩, .int .i64 0, .int .u64 0, .string ⟨#[116]⟩, .slice none 0 0, .slice (some ⟨g, 0, none⟩) 1 1] 36 (0, 0)) ∧ Kid g W') := fun W W' b h => ⟨(b.block X hXY).trans h.1, (b.block g (by omega)).trans h.2⟩
  have hBA : ∀ W o, Below Y w1 W → Below Y W (World.alloc W o) := fun W o b => (below_alloc (Below.refl _ _) _).mono (by have := b.size; omega)
  obtain ⟨xc0, xc1, xc2, xc3, xc4, xc5, xc6, xc7, xc8, xf0, xf1, xf2, xf3, xf4, xf5, xf6, xf7, xf8⟩ := blk9 x1
  have W0 : Below Y w1 w1.drew := (Below.refl Y w1).drew
  refine start_ (n := 15) (S := fun w' => w'.heap[X]? = some (.cells #[.int .i64 9, .bool false, .bool false, .string ⟨#[]⟩, .int .i64 0, .int .u64 0, .string ⟨#[116]⟩, .slice none 0 0, .slice (some ⟨g, 0, none⟩) 1 1] 36 (0, 0)) ∧ Kid g w') (ds := []) #[false, false, false, false, false, false, false, false, false, false, false, false, false, false, false] (by kernel_rfl) rfl rfl ⟨x1, k1⟩ (fun hHeld => ?_)
  refine pure_ (i := 0) (N := some 76) (v := ?_) (a' := ?_) #[true, false, false, false, false, false, false, false, false, false, false, false, false, false, false] rfl rfl (by kernel_rfl) (fun _ _ _ h => h) (Or.inl ⟨by rfl, ?_⟩) ?_ ?_
  rotate_left
  · intro w'
    go_simp
    with_reducible rfl
  rotate_left
  · simp only [Act.put, List.setIfInBounds_toArray, List.set_cons_zero, List.set_cons_succ, i64_w, i32_w]
    rfl
  refine pure_ (i := 6) (N := some 82) (v := ?_) (a' := ?_) #[true, false, false, false, false, false, true, false, false, false, false, false, false, false, false] rfl rfl (by kernel_rfl) (fun _ _ _ h => h) (Or.inl ⟨by rfl, ?_⟩) ?_ ?_
  rotate_left
  · intro w'
    go_simp
    with_reducible rfl
  rotate_left
  · simp only [Act.put, List.setIfInBounds_toArray, List.set_cons_zero, List.set_cons_succ, i64_w, i32_w]
    rfl
  refine take_ (i := 7) (N := some 83) (v := ?_) (a' := ?_) #[true, false, false, false, false, false, true, true, false, false, false, false, false, false, false] rfl rfl (by kernel_rfl) (fun _ _ _ h => h) (Or.inl ⟨by rfl, ?_⟩) hHeld ?_ ?_
  rotate_left
  · rintro w' ⟨s0, s1⟩
    obtain ⟨kc0, kc1, kc2, kc3, kc4, kc5, kc6, kc7, kc8, _⟩ := blk9 s0
    obtain ⟨jc0, jc1, jc2, jc3, jc4, jc5, jc6, jc7, jc8, _⟩ := blk9 s1
    go_simp
    with_reducible rfl
  rotate_left
  · simp only [Act.put, List.setIfInBounds_toArray, List.set_cons_zero, List.set_cons_succ, i64_w, i32_w]
    rfl
  refine pure_ (i := 9) (N := some 85) (v := ?_) (a' := ?_) #[true, false, false, false, false, false, true, true, false, true, false, false, false, false, false] rfl rfl (by kernel_rfl) (fun _ _ _ h => h) (Or.inl ⟨by rfl, ?_⟩) ?_ ?_
  rotate_left
  · intro w'
    go_simp
    with_reducible rfl
  rotate_left
  · simp only [Act.put, List.setIfInBounds_toArray, List.set_cons_zero, List.set_cons_succ, i64_w, i32_w]
    rfl
  refine take_ (i := 10) (N := some 86) (v := ?_) (a' := ?_) #[true, false, false, false, false, false, true, true, false, true, true, false, false, false, false] rfl rfl (by kernel_rfl) (fun _ _ _ h => h) (Or.inl ⟨by rfl, ?_⟩) hHeld ?_ ?_
  rotate_left
  · rintro w' ⟨s0, s1⟩
    obtain ⟨kc0, kc1, kc2, kc3, kc4, kc5, kc6, kc7, kc8, _⟩ := blk9 s0
    obtain ⟨jc0, jc1, jc2, jc3, jc4, jc5, jc6, jc7, jc8, _⟩ := blk9 s1
    go_simp
    with_reducible rfl
  rotate_left
  · simp only [Act.put, List.setIfInBounds_toArray, List.set_cons_zero, List.set_cons_succ, i64_w, i32_w]
    rfl
  refine pure_ (i := 11) (N := some 87) (v := ?_) (a' := ?_) #[true, false, false, false, false, false, true, true, false, true, true, true, false, false, false] rfl rfl (by kernel_rfl) (fun _ _ _ h => h) (Or.inl ⟨by rfl, ?_⟩) ?_ ?_
  rotate_left
  · intro w'
    go_simp
    with_reducible rfl
  rotate_left
  · simp only [Act.put, List.setIfInBounds_toArray, List.set_cons_zero, List.set_cons_succ, i64_w, i32_w]
    rfl
  refine take_ (i := 12) (N := some 88) (v := ?_) (a' := ?_) #[true, false, false, false, false, false, true, true, false, true, true, true, true, false, false] rfl rfl (by kernel_rfl) (fun _ _ _ h => h) (Or.inl ⟨by rfl, ?_⟩) hHeld ?_ ?_
  rotate_left
  · rintro w' ⟨s0, s1⟩
    obtain ⟨kc0, kc1, kc2, kc3, kc4, kc5, kc6, kc7, kc8, _⟩ := blk9 s0
    obtain ⟨jc0, jc1, jc2, jc3, jc4, jc5, jc6, jc7, jc8, _⟩ := blk9 s1
    go_simp
    with_reducible rfl
  rotate_left
  · simp only [Act.put, List.setIfInBounds_toArray, List.set_cons_zero, List.set_cons_succ, i64_w, i32_w]
    rfl
  refine join_ (σ := Nat × Value × Value × Nat) 4 #[true, true, true, true, true, false, true, true, false, true, true, true, true, false, false] (fun s => [(77, .slice (some ⟨s.1, 0, none⟩) 1 1), (78, s.2.1), (79, s.2.2.1), (80, .slice (some ⟨s.2.2.2, 0, none⟩) 1 1)]) (fun s w' => Row Y [129, 164, 36, 116, 97, 103] s.2.2.1 w' ∧ w'.heap[s.2.2.2]? = some (.cells #[.int .u8 146] 5 (0, 0)) ∧ Below Y w1 w' ∧ (w'.heap[X]? = some (.cells #[.int .i64 9, .bool false, .bool false, .string ⟨#[]⟩, .int .i64 0, .int .u64 0, .string ⟨#[116]⟩, .slice none 0 0, .slice (some ⟨g, 0, none⟩) 1 1] 36 (0, 0)) ∧ Kid g w')) ?cont (fun hcont => ?_)
  case cont =>
    rintro ⟨sl, va, v3, h⟩ w5 ⟨r5, hb, b5, hHeld⟩
    replace r5 : Row Y [129, 164, 36, 116, 97, 103] v3 w5 := r5
    replace hb : w5.heap[h]? = some (.cells #[.int .u8 146] 5 (0, 0)) := hb
    refine norm_ (a' := ?_) ?_ ?_
    rotate_left
    · show putAll _ _ = _
      simp only [putAll, Act.put, List.setIfInBounds_toArray, List.set_cons_zero, List.set_cons_succ, i64_w, i32_w]
      rfl
    refine one_ (i := 5) (N := some 81) #[true, true, true, true, true, true, true, true, false, true, true, true, true, false, false] rfl rfl (by kernel_rfl) (by decide) (fun K hK => ?_)
    refine step_append_lies _ (by rfl) _ _ _ (by rfl) Y 5 i0 _ 1 1 Tryz.underlying65 hi hz0 hz1 hz2 rfl (by omega) v3 6 _ (by rfl) r5.own ⟨h, 0, none⟩ 1 1 [.int .u8 146] (by rfl) (by rfl) (World.news_of_block (cs := #[.int .u8 146]) (t := 5) (fr := (0, 0)) hb) (by simp [Value.oneCell']) (by omega) (by unfold maxLen; omega) (by omega) r5.base _ rfl ?_
    intro g6 cap6 w6 hown hgrow hat hlt
    obtain ⟨r6, B6⟩ := r5.grow (m := [146]) (by decide) hown hgrow
    clear hown hgrow hat hlt r5 hb
    have b6 := b5.trans B6
    refine hK.out _ _ (hS _ _ B6 hHeld) (fun hHeld6 => ?_)
    clear hK K
    refine norm_ (a' := ?_) ?_ ?_
    rotate_left
    · show Act.put _ (some 81) _ = _
      simp only [Act.put, List.setIfInBounds_toArray, List.set_cons_zero, List.set_cons_succ, i64_w, i32_w]
      rfl
    refine one_ (i := 8) (N := some 84) #[true, true, true, true, true, true, true, true, true, true, true, true, true, false, false] rfl rfl (by kernel_rfl) (by decide) (fun K hK => ?_)
    refine goes_ Tryz.func141 (by kernel_rfl) rfl #[.slice (some ⟨g6, 0, none⟩) (6 + 1) cap6, .string ⟨#[116]⟩] (by rfl) rfl rfl (by simp [Act.eval]) ?_
    refine (ptxt1 Y _ _ w6 r6 (by decide)).mono ?_
    rintro e w7 ⟨v7, rfl, r7, q⟩
    have B7 := But.below q r6
    have b7 := b6.trans B7
    refine ⟨_, rfl, hK.out _ _ (hS _ _ B7 hHeld6) (fun hHeld7 => ?_)⟩
    clear hK K
    refine norm_ (a' := ?_) ?_ ?_
    rotate_left
    · show Act.put _ (some 84) _ = _
      simp only [Act.put, List.setIfInBounds_toArray, List.set_cons_zero, List.set_cons_succ, i64_w, i32_w]
      rfl
    refine one_ (i := 13) (N := some 89) #[true, true, true, true, true, true, true, true, true, true, true, true, true, true, false] rfl rfl (by kernel_rfl) (by decide) (fun K hK => ?_)
    refine goes_ Tryz.func102 (by kernel_rfl) rfl #[v7, kidV] (by rfl) rfl rfl (by simp [Act.eval, kidV]) ?_
    refine (play_kid Y _ _ w7 r7 (by decide)).mono ?_
    rintro e w8 ⟨v8, rfl, r8, B8⟩
    have b8 := b7.trans B8
    refine ⟨_, rfl, hK.out _ _ (hS _ _ B8 hHeld7) (fun hHeld8 => ?_)⟩
    clear hK K
    refine norm_ (a' := ?_) ?_ ?_
    rotate_left
    · show Act.put _ (some 89) _ = _
      simp only [Act.put, List.setIfInBounds_toArray, List.set_cons_zero, List.set_cons_succ, i64_w, i32_w]
      rfl
    refine pure_ (i := 14) (N := some 4) (v := ?_) (a' := ?_) #[true, true, true, true, true, true, true, true, true, true, true, true, true, true, true] rfl rfl (by kernel_rfl) (fun _ _ _ h => h) (Or.inl ⟨by rfl, ?_⟩) ?_ ?_
    rotate_left
    · intro w'
      go_simp
      with_reducible rfl
    rotate_left
    · simp only [Act.put, List.setIfInBounds_toArray, List.set_cons_zero, List.set_cons_succ, i64_w, i32_w]
      rfl
    refine done_ (by kernel_rfl) ?_
    go_wp2_with fail
    go_ret
    exact ⟨_, rfl, r8.down (by omega), by rw [hX]; exact B1.trans (b8.mono (Nat.le_of_lt hXY))⟩
  refine two_ (i := 1) (j := 4) (Ni := some 77) (Nj := some 80) #[true, true, false, false, false, false, true, true, false, true, true, true, true, false, false] #[true, false, false, false, true, false, true, true, false, true, true, true, true, false, false] rfl rfl rfl rfl (by kernel_rfl) (by decide) (by decide) (fun K hK => ?_) (fun K hK => ?_)
  · refine value_ (v := .slice (some ⟨w1.drew.heap.size, 0, none⟩) 1 1) (w1 := w1.drew.alloc (.cells #[.int .u8 129] 5 (0, 0))) (by rfl) rfl ?_ ?_
    · go_simp
    have B1_ := hBA w1.drew (.cells #[.int .u8 129] 5 (0, 0)) W0
    have b1_ := W0.trans B1_
    have s1_ := alloc1 w1.drew (.cells #[.int .u8 129] 5 (0, 0))
    refine hK.out _ _ (hS _ _ B1_ hHeld) (fun hHeld1_ => ?_)
    clear hK K
    refine norm_ (a' := ?_) ?_ ?_
    rotate_left
    · show Act.put _ (some 77) _ = _
      simp only [Act.put, List.setIfInBounds_toArray, List.set_cons_zero, List.set_cons_succ, i64_w, i32_w]
      rfl
    generalize hWq1 : (w1.drew.alloc (.cells #[.int .u8 129] 5 (0, 0))) = W1_ at *
    refine two_ (i := 2) (j := 4) (Ni := some 78) (Nj := some 80) #[true, true, true, false, false, false, true, true, false, true, true, true, true, false, false] #[true, true, false, false, true, false, true, true, false, true, true, true, true, false, false] rfl rfl rfl rfl (by kernel_rfl) (by decide) (by decide) (fun K hK => ?_) (fun K hK => ?_)
    · refine step_append_lies _ (by rfl) _ _ _ (by rfl) Y 5 i0 _ 1 1 Tryz.underlying65 hi hz0 hz1 hz2 rfl (by omega) (.slice none 0 0) 0 [] (by rfl) (World.ownsRow_nil _ _ _ _) ⟨w1.drew.heap.size, 0, none⟩ 1 1 [.int .u8 129] (by rfl) (by rfl) (World.news_of_block (cs := #[.int .u8 129]) (t := 5) (fr := (0, 0)) s1_) (by simp [Value.oneCell']) (by omega) (by unfold maxLen; omega) (by omega) (by rw [← hY]; exact b1_.size) _ rfl ?_
      intro g2_ c2_ W2_ hown hgrow hat hlt
      obtain ⟨r2_, B2_⟩ := (show Row Y [] (.slice none 0 0) W1_ from ⟨World.ownsRow_nil _ _ _ _, by rw [← hY]; exact b1_.size, by decide⟩).grow (m := [129]) (by decide) hown hgrow
      have b2_ := b1_.trans B2_
      clear hown hgrow hat hlt
      refine hK.out _ _ (hS _ _ B2_ hHeld1_) (fun hHeld2_ => ?_)
      clear hK K
      refine norm_ (a' := ?_) ?_ ?_
      rotate_left
      · show Act.put _ (some 78) _ = _
        simp only [Act.put, List.setIfInBounds_toArray, List.set_cons_zero, List.set_cons_succ, i64_w, i32_w]
        rfl
      refine two_ (i := 3) (j := 4) (Ni := some 79) (Nj := some 80) #[true, true, true, true, false, false, true, true, false, true, true, true, true, false, false] #[true, true, true, false, true, false, true, true, false, true, true, true, true, false, false] rfl rfl rfl rfl (by kernel_rfl) (by decide) (by decide) (fun K hK => ?_) (fun K hK => ?_)
      · refine goes_ Tryz.func141 (by kernel_rfl) rfl #[.slice (some ⟨g2_, 0, none⟩) (0 + 1) c2_, .string ⟨#[36, 116, 97, 103]⟩] (by rfl) rfl rfl (by simp [Act.eval, Act.put]) ?_
        refine (ptxt4 Y _ _ W2_ r2_ (by decide)).mono ?_
        rintro e W3_ ⟨v3_, rfl, r3_, q⟩
        have B3_ := But.below q r2_
        have b3_ := b2_.trans B3_
        refine ⟨_, rfl, hK.out _ _ (hS _ _ B3_ hHeld2_) (fun hHeld3_ => ?_)⟩
        clear hK K
        refine norm_ (a' := ?_) ?_ ?_
        rotate_left
        · show Act.put _ (some 79) _ = _
          simp only [Act.put, List.setIfInBounds_toArray, List.set_cons_zero, List.set_cons_succ, i64_w, i32_w]
          rfl
        refine one_ (i := 4) (N := some 80) #[true, true, true, true, true, false, true, true, false, true, true, true, true, false, false] rfl rfl (by kernel_rfl) (by decide) (fun K hK => ?_)
        refine value_ (v := .slice (some ⟨W3_.heap.size, 0, none⟩) 1 1) (w1 := W3_.alloc (.cells #[.int .u8 146] 5 (0, 0))) (by rfl) rfl ?_ ?_
        · go_simp
        have B4_ := hBA W3_ (.cells #[.int .u8 146] 5 (0, 0)) b3_
        have b4_ := b3_.trans B4_
        have h4_ := alloc1 W3_ (.cells #[.int .u8 146] 5 (0, 0))
        have r4_ := r3_.below (below_alloc (Below.refl _ _) (.cells #[.int .u8 146] 5 (0, 0)))
        refine hK.out _ _ (hS _ _ B4_ hHeld3_) (fun hHeld4_ => ?_)
        clear hK K
        refine norm_ (a' := ?_) ?_ ?_
        rotate_left
        · show Act.put _ (some 80) _ = _
          simp only [Act.put, List.setIfInBounds_toArray, List.set_cons_zero, List.set_cons_succ, i64_w, i32_w]
          rfl
        generalize hWq4 : (W3_.alloc (.cells #[.int .u8 146] 5 (0, 0))) = W4_ at *
        refine norm_ ?_ (hcont (w1.drew.heap.size, (.slice (some ⟨g2_, 0, none⟩) (0 + 1) c2_), v3_, W3_.heap.size) W4_ ⟨r4_, h4_, b4_, hHeld4_⟩)
        simp only [putAll, Act.put, List.setIfInBounds_toArray, List.set_cons_zero, List.set_cons_succ, i64_w, i32_w]
      · refine value_ (v := .slice (some ⟨W2_.heap.size, 0, none⟩) 1 1) (w1 := W2_.alloc (.cells #[.int .u8 146] 5 (0, 0))) (by rfl) rfl ?_ ?_
        · go_simp
        have B5_ := hBA W2_ (.cells #[.int .u8 146] 5 (0, 0)) b2_
        have b5_ := b2_.trans B5_
        have h5_ := alloc1 W2_ (.cells #[.int .u8 146] 5 (0, 0))
        have r5_ := r2_.below (below_alloc (Below.refl _ _) (.cells #[.int .u8 146] 5 (0, 0)))
        refine hK.out _ _ (hS _ _ B5_ hHeld2_) (fun hHeld5_ => ?_)
        clear hK K
        refine norm_ (a' := ?_) ?_ ?_
        rotate_left
        · show Act.put _ (some 80) _ = _
          simp only [Act.put, List.setIfInBounds_toArray, List.set_cons_zero, List.set_cons_succ, i64_w, i32_w]
          rfl
        generalize hWq5 : (W2_.alloc (.cells #[.int .u8 146] 5 (0, 0))) = W5_ at *
        refine one_ (i := 3) (N := some 79) #[true, true, true, true, true, false, true, true, false, true, true, true, true, false, false] rfl rfl (by kernel_rfl) (by decide) (fun K hK => ?_)
        refine goes_ Tryz.func141 (by kernel_rfl) rfl #[.slice (some ⟨g2_, 0, none⟩) (0 + 1) c2_, .string ⟨#[36, 116, 97, 103]⟩] (by rfl) rfl rfl (by simp [Act.eval, Act.put]) ?_
        refine (ptxt4 Y _ _ W5_ r5_ (by decide)).mono ?_
        rintro e W6_ ⟨v6_, rfl, r6_, q⟩
        have B6_ := But.below q r5_
        have b6_ := b5_.trans B6_
        have h6_ := q.heap h5_ (fun e => r5_.ne1 h5_ (by decide) e.symm)
        refine ⟨_, rfl, hK.out _ _ (hS _ _ B6_ hHeld5_) (fun hHeld6_ => ?_)⟩
        clear hK K
        refine norm_ (a' := ?_) ?_ ?_
        rotate_left
        · show Act.put _ (some 79) _ = _
          simp only [Act.put, List.setIfInBounds_toArray, List.set_cons_zero, List.set_cons_succ, i64_w, i32_w]
          rfl
        refine norm_ ?_ (hcont (w1.drew.heap.size, (.slice (some ⟨g2_, 0, none⟩) (0 + 1) c2_), v6_, W2_.heap.size) W6_ ⟨r6_, h6_, b6_, hHeld6_⟩)
        simp only [putAll, Act.put, List.setIfInBounds_toArray, List.set_cons_zero, List.set_cons_succ, i64_w, i32_w]
    · refine value_ (v := .slice (some ⟨W1_.heap.size, 0, none⟩) 1 1) (w1 := W1_.alloc (.cells #[.int .u8 146] 5 (0, 0))) (by rfl) rfl ?_ ?_
      · go_simp
      have B7_ := hBA W1_ (.cells #[.int .u8 146] 5 (0, 0)) b1_
      have b7_ := b1_.trans B7_
      have h7_ := alloc1 W1_ (.cells #[.int .u8 146] 5 (0, 0))
      have s7_ := blk_alloc s1_ (.cells #[.int .u8 146] 5 (0, 0))
      refine hK.out _ _ (hS _ _ B7_ hHeld1_) (fun hHeld7_ => ?_)
      clear hK K
      refine norm_ (a' := ?_) ?_ ?_
      rotate_left
      · show Act.put _ (some 80) _ = _
        simp only [Act.put, List.setIfInBounds_toArray, List.set_cons_zero, List.set_cons_succ, i64_w, i32_w]
        rfl
      generalize hWq7 : (W1_.alloc (.cells #[.int .u8 146] 5 (0, 0))) = W7_ at *
      refine one_ (i := 2) (N := some 78) #[true, true, true, false, true, false, true, true, false, true, true, true, true, false, false] rfl rfl (by kernel_rfl) (by decide) (fun K hK => ?_)
      refine step_append_lies _ (by rfl) _ _ _ (by rfl) Y 5 i0 _ 1 1 Tryz.underlying65 hi hz0 hz1 hz2 rfl (by omega) (.slice none 0 0) 0 [] (by rfl) (World.ownsRow_nil _ _ _ _) ⟨w1.drew.heap.size, 0, none⟩ 1 1 [.int .u8 129] (by rfl) (by rfl) (World.news_of_block (cs := #[.int .u8 129]) (t := 5) (fr := (0, 0)) s7_) (by simp [Value.oneCell']) (by omega) (by unfold maxLen; omega) (by omega) (by rw [← hY]; exact b7_.size) _ rfl ?_
      intro g8_ c8_ W8_ hown hgrow hat hlt
      obtain ⟨r8_, B8_⟩ := (show Row Y [] (.slice none 0 0) W7_ from ⟨World.ownsRow_nil _ _ _ _, by rw [← hY]; exact b7_.size, by decide⟩).grow (m := [129]) (by decide) hown hgrow
      have b8_ := b7_.trans B8_
      have h8_ := row_grow h7_ hgrow (fun e => by cases e)
      clear hown hgrow hat hlt
      refine hK.out _ _ (hS _ _ B8_ hHeld7_) (fun hHeld8_ => ?_)
      clear hK K
      refine norm_ (a' := ?_) ?_ ?_
      rotate_left
      · show Act.put _ (some 78) _ = _
        simp only [Act.put, List.setIfInBounds_toArray, List.set_cons_zero, List.set_cons_succ, i64_w, i32_w]
        rfl
      refine one_ (i := 3) (N := some 79) #[true, true, true, true, true, false, true, true, false, true, true, true, true, false, false] rfl rfl (by kernel_rfl) (by decide) (fun K hK => ?_)
      refine goes_ Tryz.func141 (by kernel_rfl) rfl #[.slice (some ⟨g8_, 0, none⟩) (0 + 1) c8_, .string ⟨#[36, 116, 97, 103]⟩] (by rfl) rfl rfl (by simp [Act.eval, Act.put]) ?_
      refine (ptxt4 Y _ _ W8_ r8_ (by decide)).mono ?_
      rintro e W9_ ⟨v9_, rfl, r9_, q⟩
      have B9_ := But.below q r8_
      have b9_ := b8_.trans B9_
      have h9_ := q.heap h8_ (fun e => r8_.ne1 h8_ (by decide) e.symm)
      refine ⟨_, rfl, hK.out _ _ (hS _ _ B9_ hHeld8_) (fun hHeld9_ => ?_)⟩
      clear hK K
      refine norm_ (a' := ?_) ?_ ?_
      rotate_left
      · show Act.put _ (some 79) _ = _
        simp only [Act.put, List.setIfInBounds_toArray, List.set_cons_zero, List.set_cons_succ, i64_w, i32_w]
        rfl
      refine norm_ ?_ (hcont (w1.drew.heap.size, (.slice (some ⟨g8_, 0, none⟩) (0 + 1) c8_), v9_, W1_.heap.size) W9_ ⟨r9_, h9_, b9_, hHeld9_⟩)
      simp only [putAll, Act.put, List.setIfInBounds_toArray, List.set_cons_zero, List.set_cons_succ, i64_w, i32_w]
  · refine value_ (v := .slice (some ⟨w1.drew.heap.size, 0, none⟩) 1 1) (w1 := w1.drew.alloc (.cells #[.int .u8 146] 5 (0, 0))) (by rfl) rfl ?_ ?_
    · go_simp
    have B10_ := hBA w1.drew (.cells #[.int .u8 146] 5 (0, 0)) W0
    have b10_ := W0.trans B10_
    have h10_ := alloc1 w1.drew (.cells #[.int .u8 146] 5 (0, 0))
    refine hK.out _ _ (hS _ _ B10_ hHeld) (fun hHeld10_ => ?_)
    clear hK K
    refine norm_ (a' := ?_) ?_ ?_
    rotate_left
    · show Act.put _ (some 80) _ = _
      simp only [Act.put, List.setIfInBounds_toArray, List.set_cons_zero, List.set_cons_succ, i64_w, i32_w]
      rfl
    generalize hWq10 : (w1.drew.alloc (.cells #[.int .u8 146] 5 (0, 0))) = W10_ at *
    refine one_ (i := 1) (N := some 77) #[true, true, false, false, true, false, true, true, false, true, true, true, true, false, false] rfl rfl (by kernel_rfl) (by decide) (fun K hK => ?_)
    refine value_ (v := .slice (some ⟨W10_.heap.size, 0, none⟩) 1 1) (w1 := W10_.alloc (.cells #[.int .u8 129] 5 (0, 0))) (by rfl) rfl ?_ ?_
    · go_simp
    have B11_ := hBA W10_ (.cells #[.int .u8 129] 5 (0, 0)) b10_
    have b11_ := b10_.trans B11_
    have s11_ := alloc1 W10_ (.cells #[.int .u8 129] 5 (0, 0))
    have h11_ := blk_alloc h10_ (.cells #[.int .u8 129] 5 (0, 0))
    refine hK.out _ _ (hS _ _ B11_ hHeld10_) (fun hHeld11_ => ?_)
    clear hK K
    refine norm_ (a' := ?_) ?_ ?_
    rotate_left
    · show Act.put _ (some 77) _ = _
      simp only [Act.put, List.setIfInBounds_toArray, List.set_cons_zero, List.set_cons_succ, i64_w, i32_w]
      rfl
    generalize hWq11 : (W10_.alloc (.cells #[.int .u8 129] 5 (0, 0))) = W11_ at *
    refine one_ (i := 2) (N := some 78) #[true, true, true, false, true, false, true, true, false, true, true, true, true, false, false] rfl rfl (by kernel_rfl) (by decide) (fun K hK => ?_)
    refine step_append_lies _ (by rfl) _ _ _ (by rfl) Y 5 i0 _ 1 1 Tryz.underlying65 hi hz0 hz1 hz2 rfl (by omega) (.slice none 0 0) 0 [] (by rfl) (World.ownsRow_nil _ _ _ _) ⟨W10_.heap.size, 0, none⟩ 1 1 [.int .u8 129] (by rfl) (by rfl) (World.news_of_block (cs := #[.int .u8 129]) (t := 5) (fr := (0, 0)) s11_) (by simp [Value.oneCell']) (by omega) (by unfold maxLen; omega) (by omega) (by rw [← hY]; exact b11_.size) _ rfl ?_
    intro g12_ c12_ W12_ hown hgrow hat hlt
    obtain ⟨r12_, B12_⟩ := (show Row Y [] (.slice none 0 0) W11_ from ⟨World.ownsRow_nil _ _ _ _, by rw [← hY]; exact b11_.size, by decide⟩).grow (m := [129]) (by decide) hown hgrow
    have b12_ := b11_.trans B12_
    have h12_ := row_grow h11_ hgrow (fun e => by cases e)
    clear hown hgrow hat hlt
    refine hK.out _ _ (hS _ _ B12_ hHeld11_) (fun hHeld12_ => ?_)
    clear hK K
    refine norm_ (a' := ?_) ?_ ?_
    rotate_left
    · show Act.put _ (some 78) _ = _
      simp only [Act.put, List.setIfInBounds_toArray, List.set_cons_zero, List.set_cons_succ, i64_w, i32_w]
      rfl
    refine one_ (i := 3) (N := some 79) #[true, true, true, true, true, false, true, true, false, true, true, true, true, false, false] rfl rfl (by kernel_rfl) (by decide) (fun K hK => ?_)
    refine goes_ Tryz.func141 (by kernel_rfl) rfl #[.slice (some ⟨g12_, 0, none⟩) (0 + 1) c12_, .string ⟨#[36, 116, 97, 103]⟩] (by rfl) rfl rfl (by simp [Act.eval, Act.put]) ?_
    refine (ptxt4 Y _ _ W12_ r12_ (by decide)).mono ?_
    rintro e W13_ ⟨v13_, rfl, r13_, q⟩
    have B13_ := But.below q r12_
    have b13_ := b12_.trans B13_
    have h13_ := q.heap h12_ (fun e => r12_.ne1 h12_ (by decide) e.symm)
    refine ⟨_, rfl, hK.out _ _ (hS _ _ B13_ hHeld12_) (fun hHeld13_ => ?_)⟩
    clear hK K
    refine norm_ (a' := ?_) ?_ ?_
    rotate_left
    · show Act.put _ (some 79) _ = _
      simp only [Act.put, List.setIfInBounds_toArray, List.set_cons_zero, List.set_cons_succ, i64_w, i32_w]
      rfl
    refine norm_ ?_ (hcont (W10_.heap.size, (.slice (some ⟨g12_, 0, none⟩) (0 + 1) c12_), v13_, w1.drew.heap.size) W13_ ⟨r13_, h13_, b13_, hHeld13_⟩)
    simp only [putAll, Act.put, List.setIfInBounds_toArray, List.set_cons_zero, List.set_cons_succ, i64_w, i32_w]
set_option maxHeartbeats 3200000 in
set_option maxRecDepth 100000 in
theorem pwrite (w : World) (g : Nat) (hg : Kid g w) (hT : Lib.Utf8Tabs 0 1 w) :
    Calls Tryz.prog 52 #[topV g] w fun e w' => ∃ (A c : Nat), e = .returned (.tuple #[.slice (some ⟨A, 0, none⟩) 12 c, .int .i64 0]) ∧ BytesAt w' (some ⟨A, 0, none⟩) packL ∧ 12 ≤ c ∧ Below w.heap.size w w' := by
  have hC := Lib.hid (fun X (hb : Below w.heap.size w X) => top_check (hg.below hb) (Utf8Tabs_below hT hb))
  have hLay := Lib.hid (fun w h => play_top w g h)
  have hgl := blk_lt hg
  unfold topV at *
  replace hg := Lib.hid hg
  clear hT
  go_enter Tryz.func52, Tryz.ntmps52
  go_wp2_with fail
  generalize hw1 : World.alloc w _ = w1
  obtain ⟨b1, B1⟩ := alloc_at hw1
  clear hw1
  obtain ⟨X, hX⟩ : ∃ X, w.heap.size = X := ⟨_, rfl⟩
  rw [hX] at b1
  rw [hX]
  replace hX := Lib.hid hX
  refine (hC.out _ B1).mono ?_
  rintro e w2 ⟨rfl, B2⟩
  have b2 := blk_below b1 B2
  have B3 := below_then B1 B1.size B2
  clear b1 B1 B2
  obtain ⟨c0, c1, c2, c3, c4, c5, c6, c7, c8, f0, f1, f2, f3, f4, f5, f6, f7, f8⟩ := blk9 b2
  have l2 := blk_lt b2
  have k2 := Lib.hid (hg.out.below B3)
  replace b2 := Lib.hid b2
  replace B3 := Lib.hid B3
  go_wp2_with fail
  refine (hLay.out w2 k2.out).mono ?_
  rintro e w4 ⟨v, rfl, r4, B4⟩
  obtain ⟨g4, cap4, rfl, hg4, hl4⟩ := r4.own.form (by decide)
  have hB5 := Lib.hid (below_then B3.out B3.out.size B4)
  have hby := Lib.hid (BytesAt.own (l := packL) r4.own (by decide))
  have hcap : 12 ≤ cap4 := row_cap r4.own
  replace hcap := Lib.hid hcap
  replace r4 := Lib.hid r4
  clear B4
  have hd : decide ((65536 : Int) < (packL.length : Int)) = false := by decide
  go_wp2_with fail
  go_ret2
  exact ⟨_, _, rfl, hby.out, hcap.out, hB5.out⟩
end Go.Proofs.YtcpgcjmamjjokaaGreatDoor
