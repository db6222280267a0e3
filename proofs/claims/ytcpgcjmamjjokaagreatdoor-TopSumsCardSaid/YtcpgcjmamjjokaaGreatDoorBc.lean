/- The closure in code.Compile, at a mapping that is but one word. Written by gen_bc.py. -/
import Derived.Test.YtcpgcjmamjjokaaGreatDoorBb
namespace Go.Proofs.YtcpgcjmamjjokaaGreatDoor
open Go.RowKit Go.Proofs.YtcpgcjmamjjokaaGreatDoorW.PrintWords Go.Proofs.YtcpgcjmamjjokaaGreatDoorW.PrintMore
set_option linter.unusedVariables false
set_option linter.unusedSimpArgs false
/-- One node is in the list. -/
def nodeC (op : Int) : List Value := [.int .i64 op, .string ⟨#[]⟩, .slice none 0 0, .slice none 0 0, .int .i64 0, .bool false, .bool false, .string ⟨#[]⟩, .int .i64 0, .int .u64 0, .string ⟨#[]⟩, .slice none 0 0, .slice none 0 0]
def LayPost (op : Int) (L : Nat) (w : World) (e : Ending) (w' : World) : Prop := e = .returned (.tuple #[]) ∧ ∃ g cap, g ≠ L ∧ w.heap.size ≤ g ∧ w'.heap[L]? = some (.cells #[.slice (some ⟨g, 0, none⟩) 1 cap] 23 (0, 0)) ∧ w'.ownsRow w.heap.size 73 13 (.slice (some ⟨g, 0, none⟩) 1 cap) 1 (nodeC op) ∧ Kp w w' (fun k => k = L)
set_option maxHeartbeats 4000000 in
set_option maxRecDepth 100000 in
theorem lay_ex (op : Int) (L Y : Nat) (w : World) (hL : w.heap[L]? = some (.cells #[.slice none 0 0] 23 (0, 0))) :
    Calls Tryz.prog 24 #[exV op, .pointer (some ⟨L, 0, none⟩), .pointer (some ⟨Y, 0, none⟩)] w (LayPost op L w) := by
  have hO := fun w => own_zero w
  unfold v0 at hO
  unfold exV
  obtain ⟨x0, y0⟩ := blk1 hL
  have hlt := blk_lt hL
  replace hL := Lib.hid hL
  obtain ⟨i0, hi, hz0, hz1, hz2⟩ := info_parts info73
  replace hO := Lib.hid hO
  go_enter Tryz.func24, Tryz.ntmps24
  go_wp2_with fail
  generalize hw1 : World.alloc w _ = w1
  obtain ⟨G, hG⟩ : ∃ G, G = w.heap.size := ⟨_, rfl⟩
  obtain ⟨b1, B1⟩ : w1.heap[G]? = some (.cells (exC op) 38 (0, 0)) ∧ Below w.heap.size w w1 := by
    subst hw1 hG
    exact ⟨heap_alloc_new _ _, below_alloc (Below.refl _ _) _⟩
  clear hw1
  rw [← hG]
  replace hG := Lib.hid hG
  have hL1 := blk_below hL.out B1
  have hS1 := Lib.hid (lay_keep hL1 b1)
  replace hL1 := Lib.hid hL1
  replace b1 := Lib.hid b1
  replace B1 := Lib.hid B1
  have hne : L ≠ G := by have := hG.out; omega
  clear x0 y0
  obtain ⟨x0, y0⟩ := blk1 hL1.out
  go_wp2_with fail
  clear x0 y0
  refine region_last (fun x => x.cell? ⟨L, 0, none⟩ = some (.slice none 0 0) ∧ x.frozen? ⟨L, 0, none⟩ = false ∧ x.cell? ⟨G, 0, none⟩ = some (.int .i64 op) ∧ x.cell? ⟨G, 1, none⟩ = some (.string ⟨#[]⟩) ∧ x.cell? ⟨G, 2, none⟩ = some (.slice none 0 0) ∧ x.cell? ⟨G, 3, none⟩ = some (.slice none 0 0) ∧ x.cell? ⟨G, 4, none⟩ = some (.int .i64 0) ∧ x.cell? ⟨G, 5, none⟩ = some (.bool false) ∧ x.cell? ⟨G, 6, none⟩ = some (.bool false) ∧ x.cell? ⟨G, 7, none⟩ = some (.string ⟨#[]⟩) ∧ x.cell? ⟨G, 8, none⟩ = some (.int .i64 0) ∧ x.cell? ⟨G, 9, none⟩ = some (.int .u64 0) ∧ x.cell? ⟨G, 10, none⟩ = some (.string ⟨#[]⟩) ∧ x.cell? ⟨G, 11, none⟩ = some (.slice none 0 0) ∧ x.cell? ⟨G, 12, none⟩ = some (.slice none 0 0)) 14 (by kernel_rfl) hS1.out (fun hH => ?_)
  refine anyL_take (i := 0) (oi := { dst := some 9, op := Op.load 23 (Operand.tmp 1), type := 23, pos := "code.go:27", after := #[], guard := none }) (v := .slice none 0 0) rfl rfl (by kernel_rfl) (by kernel_rfl) (by kernel_rfl) (by kernel_rfl) (fun _ _ _ h => h) (Or.inl ⟨by rfl, ?hy0⟩) hH ?rest0
  case hy0 =>
    intro w hSw
    (try dsimp only at hSw)
    go_simp
  try simp only [Act.put, List.setIfInBounds_toArray, List.set_cons_zero, List.set_cons_succ]
  refine anyL_take (i := 1) (oi := { dst := some 10, op := Op.fieldAddr 38 (Operand.tmp 3) 0, type := 0, pos := "code.go:27", after := #[], guard := none }) (v := .pointer (some ⟨G, 0, none⟩)) rfl rfl (by kernel_rfl) (by kernel_rfl) (by kernel_rfl) (by kernel_rfl) (fun _ _ _ h => h) (Or.inl ⟨by rfl, ?hy1⟩) hH ?rest1
  case hy1 =>
    intro w hSw
    (try dsimp only at hSw)
    go_simp
  try simp only [Act.put, List.setIfInBounds_toArray, List.set_cons_zero, List.set_cons_succ]
  refine anyL_take (i := 2) (oi := { dst := some 11, op := Op.load 27 (Operand.tmp 10), type := 27, pos := "code.go:27", after := #[{ on := 1, ground := Ground.data }], guard := none }) (v := .int .i64 op) rfl rfl (by kernel_rfl) (by kernel_rfl) (by kernel_rfl) (by kernel_rfl) (fun _ _ _ h => h) (Or.inl ⟨by rfl, ?hy2⟩) hH ?rest2
  case hy2 =>
    intro w hSw
    (try dsimp only at hSw)
    go_simp
  try simp only [Act.put, List.setIfInBounds_toArray, List.set_cons_zero, List.set_cons_succ]
  refine anyL_take (i := 3) (oi := { dst := some 12, op := Op.fieldAddr 38 (Operand.tmp 3) 1, type := 0, pos := "code.go:27", after := #[], guard := none }) (v := .pointer (some ⟨G, 1, none⟩)) rfl rfl (by kernel_rfl) (by kernel_rfl) (by kernel_rfl) (by kernel_rfl) (fun _ _ _ h => h) (Or.inl ⟨by rfl, ?hy3⟩) hH ?rest3
  case hy3 =>
    intro w hSw
    (try dsimp only at hSw)
    go_simp
  try simp only [Act.put, List.setIfInBounds_toArray, List.set_cons_zero, List.set_cons_succ]
  refine anyL_take (i := 4) (oi := { dst := some 13, op := Op.load 9 (Operand.tmp 12), type := 9, pos := "code.go:27", after := #[{ on := 3, ground := Ground.data }], guard := none }) (v := .string ⟨#[]⟩) rfl rfl (by kernel_rfl) (by kernel_rfl) (by kernel_rfl) (by kernel_rfl) (fun _ _ _ h => h) (Or.inl ⟨by rfl, ?hy4⟩) hH ?rest4
  case hy4 =>
    intro w hSw
    (try dsimp only at hSw)
    go_simp
  try simp only [Act.put, List.setIfInBounds_toArray, List.set_cons_zero, List.set_cons_succ]
  refine anyL_take (i := 5) (oi := { dst := some 14, op := Op.fieldAddr 38 (Operand.tmp 3) 2, type := 0, pos := "code.go:27", after := #[], guard := none }) (v := .pointer (some ⟨G, 2, none⟩)) rfl rfl (by kernel_rfl) (by kernel_rfl) (by kernel_rfl) (by kernel_rfl) (fun _ _ _ h => h) (Or.inl ⟨by rfl, ?hy5⟩) hH ?rest5
  case hy5 =>
    intro w hSw
    (try dsimp only at hSw)
    go_simp
  try simp only [Act.put, List.setIfInBounds_toArray, List.set_cons_zero, List.set_cons_succ]
  refine anyL_take (i := 6) (oi := { dst := some 15, op := Op.load 28 (Operand.tmp 14), type := 28, pos := "code.go:27", after := #[{ on := 5, ground := Ground.data }], guard := none }) (v := .slice none 0 0) rfl rfl (by kernel_rfl) (by kernel_rfl) (by kernel_rfl) (by kernel_rfl) (fun _ _ _ h => h) (Or.inl ⟨by rfl, ?hy6⟩) hH ?rest6
  case hy6 =>
    intro w hSw
    (try dsimp only at hSw)
    go_simp
  try simp only [Act.put, List.setIfInBounds_toArray, List.set_cons_zero, List.set_cons_succ]
  refine anyL_take (i := 8) (oi := { dst := some 17, op := Op.fieldAddr 38 (Operand.tmp 3) 4, type := 0, pos := "code.go:27", after := #[], guard := none }) (v := .pointer (some ⟨G, 4, none⟩)) rfl rfl (by kernel_rfl) (by kernel_rfl) (by kernel_rfl) (by kernel_rfl) (fun _ _ _ h => h) (Or.inl ⟨by rfl, ?hy8⟩) hH ?rest8
  case hy8 =>
    intro w hSw
    (try dsimp only at hSw)
    go_simp
  try simp only [Act.put, List.setIfInBounds_toArray, List.set_cons_zero, List.set_cons_succ]
  refine anyL_take (i := 9) (oi := { dst := some 18, op := Op.load 36 (Operand.tmp 17), type := 36, pos := "code.go:27", after := #[{ on := 8, ground := Ground.data }], guard := none }) (v := .agg #[.int .i64 0, .bool false, .bool false, .string ⟨#[]⟩, .int .i64 0, .int .u64 0, .string ⟨#[]⟩, .slice none 0 0, .slice none 0 0]) rfl rfl (by kernel_rfl) (by kernel_rfl) (by kernel_rfl) (by kernel_rfl) (fun _ _ _ h => h) (Or.inl ⟨by rfl, ?hy9⟩) hH ?rest9
  case hy9 =>
    intro w hSw
    (try dsimp only at hSw)
    go_simp
  try simp only [Act.put, List.setIfInBounds_toArray, List.set_cons_zero, List.set_cons_succ]
  refine anyL_one (i := 7) (o := { dst := some 16, op := Op.call { callee := Callee.value (Operand.func 25), args := #[Operand.tmp 15], argTypes := #[28] }, type := 28, pos := "code.go:27", after := #[{ on := 6, ground := Ground.data }], guard := none }) (by kernel_rfl) rfl (fun K hK => ?_)
  go_simp
  (with_reducible refine (clone_strs _).mono ?_)
  rintro e w' ⟨rfl, rfl⟩
  go_wp2_with fail
  refine hK.out _ _ hH (fun hH => ?_)
  clear hK K
  try simp only [Act.put, List.setIfInBounds_toArray, List.set_cons_zero, List.set_cons_succ]
  refine anyL_one (i := 10) (o := { dst := some 19, op := Op.call { callee := Callee.value (Operand.func 26), args := #[Operand.tmp 18], argTypes := #[36] }, type := 36, pos := "code.go:27", after := #[{ on := 9, ground := Ground.data }, { on := 7, ground := Ground.chain }], guard := none }) (by kernel_rfl) rfl (fun K hK => ?_)
  go_simp
  (with_reducible refine (hO.out _).mono ?_)
  rintro e w3 ⟨rfl, B3⟩
  have hL3 := blk_below (w := w1.drew) hL1.out B3
  have b3 := blk_below (w := w1.drew) b1.out B3
  have B3' := Lib.hid (num_drew1' B3)
  clear B3
  have hlL3 := blk_lt hL3
  have hS3 := Lib.hid (lay_keep hL3 b3)
  replace hL3 := Lib.hid hL3
  replace b3 := Lib.hid b3
  go_wp2_with fail
  refine hK.out _ _ hS3.out (fun hH => ?_)
  clear hK K
  try simp only [Act.put, List.setIfInBounds_toArray, List.set_cons_zero, List.set_cons_succ]
  refine anyL_take (i := 11) (oi := { dst := some 20, op := Op.build 73 #[(0, Operand.tmp 11), (1, Operand.tmp 13), (2, Operand.tmp 16), (4, Operand.tmp 19)], type := 73, pos := "code.go:27", after := #[{ on := 2, ground := Ground.data }, { on := 4, ground := Ground.data }, { on := 7, ground := Ground.data }, { on := 10, ground := Ground.data }], guard := none }) (v := .agg #[.int .i64 op, .string ⟨#[]⟩, .slice none 0 0, .slice none 0 0, .int .i64 0, .bool false, .bool false, .string ⟨#[]⟩, .int .i64 0, .int .u64 0, .string ⟨#[]⟩, .slice none 0 0, .slice none 0 0]) rfl rfl (by kernel_rfl) (by kernel_rfl) (by kernel_rfl) (by kernel_rfl) (fun _ _ _ h => h) (Or.inl ⟨by rfl, ?hy11⟩) hH ?rest11
  case hy11 =>
    intro w hSw
    (try dsimp only at hSw)
    go_simp
  try simp only [Act.put, List.setIfInBounds_toArray, List.set_cons_zero, List.set_cons_succ]
  refine anyL_one (i := 12) (o := { dst := some 21, op := Op.buildSlice 23 1 #[(0, Operand.tmp 20)], type := 23, pos := "code.go:27", after := #[{ on := 11, ground := Ground.data }], guard := none }) (by kernel_rfl) rfl (fun K hK => ?_)
  go_simp
  refine hK.out _ _ (lay_keep (blk_alloc hL3.out _) (blk_alloc b3.out _)) (fun hH => ?_)
  clear hK K
  try simp only [Act.put, List.setIfInBounds_toArray, List.set_cons_zero, List.set_cons_succ]
  refine anyL_one (i := 13) (o := { dst := some 22, op := Op.call { callee := Callee.builtin Builtin.append, args := #[Operand.tmp 9, Operand.tmp 21], argTypes := #[23, 23] }, type := 23, pos := "code.go:27", after := #[{ on := 0, ground := Ground.data }, { on := 12, ground := Ground.data }, { on := 10, ground := Ground.chain }], guard := none }) (by kernel_rfl) rfl (fun K hK => ?_)
  refine step_append_lies _ (by rfl) _ _ _ (by rfl) w.heap.size 73 i0 _ 13 192 Tryz.underlying23 hi hz0 hz1 hz2 rfl (by omega) (.slice none 0 0) 0 [] (by rfl) (World.ownsRow_nil _ _ _ _) _ 1 1 [.int .i64 op, .string ⟨#[]⟩, .slice none 0 0, .slice none 0 0, .int .i64 0, .bool false, .bool false, .string ⟨#[]⟩, .int .i64 0, .int .u64 0, .string ⟨#[]⟩, .slice none 0 0, .slice none 0 0] (by rfl) (by rfl) (World.news_of_block (cs := #[.int .i64 op, .string ⟨#[]⟩, .slice none 0 0, .slice none 0 0, .int .i64 0, .bool false, .bool false, .string ⟨#[]⟩, .int .i64 0, .int .u64 0, .string ⟨#[]⟩, .slice none 0 0, .slice none 0 0]) (t := 73) (fr := (0, 0)) (heap_alloc_new _ _)) (by simp [Value.oneCell']) (by omega) (by unfold maxLen; omega) (by omega) (Nat.le_trans B1.out.size (Nat.le_trans B3'.out.size (Nat.le_of_lt (Nat.lt_of_lt_of_eq (Nat.lt_succ_self _) (Array.size_push _).symm)))) _ rfl ?app
  intro g cap w4 hown hgrow hat hlt4
  have hL4 := row_grow (blk_alloc hL3.out _) hgrow
  have b4 := row_grow (blk_alloc b3.out _) hgrow
  have hS4 := Lib.hid (lay_keep hL4 b4)
  obtain ⟨xx, yy⟩ := blk1 hL4
  replace hL4 := Lib.hid hL4
  replace b4 := Lib.hid b4
  have hgG : G < g ∧ L < g := by
    have h1 := hG.out
    have h2 := B1.out.size
    have h3 := B3'.out.size
    have h4 := blk_lt b1.out
    have h5 : g = _ := hat.elim (fun h => by simp [Value.ownBlock] at h) id
    have h6 : g = w3.heap.size + 1 := h5.trans (Array.size_push _)
    omega
  have K4 := Lib.hid (((Kp.of_below (below_then B1.out B1.out.size B3'.out) (fun k => k = L)).alloc _).grown hgrow (fun k hk => by simp [Value.ownBlock] at hk))
  replace hown := Lib.hid hown
  clear hat hgrow
  refine hK.out _ _ hS4.out (fun hH => ?_)
  clear hK K
  try simp only [Act.put, List.setIfInBounds_toArray, List.set_cons_zero, List.set_cons_succ]
  refine anyL_last (o := { dst := none, op := Op.store 23 (Operand.tmp 1) (Operand.tmp 22), type := 0, pos := "code.go:27", after := #[{ on := 13, ground := Ground.data }, { on := 13, ground := Ground.chain }, { on := 0, ground := Ground.phase }, { on := 1, ground := Ground.phase }, { on := 2, ground := Ground.phase }, { on := 3, ground := Ground.phase }, { on := 4, ground := Ground.phase }, { on := 5, ground := Ground.phase }, { on := 6, ground := Ground.phase }, { on := 7, ground := Ground.phase }, { on := 8, ground := Ground.phase }, { on := 9, ground := Ground.phase }, { on := 10, ground := Ground.phase }, { on := 11, ground := Ground.phase }, { on := 12, ground := Ground.phase }, { on := 13, ground := Ground.phase }], guard := none }) (by kernel_rfl) rfl (fun K hK => ?_)
  go_simp
  refine hK.out _ _ ?_
  clear hK K
  try simp only [Act.put, List.setIfInBounds_toArray, List.set_cons_zero, List.set_cons_succ]
  refine anyL_done (by kernel_rfl) ?_ _
  generalize hw5 : World.setCell w4 _ _ = w5
  have K5 := K4.out.set_ (p := ⟨L, 0, none⟩) (.inl rfl) (.slice (some ⟨g, 0, none⟩) 1 cap)
  have hL5 := blk_put hL4.out 0 (.slice (some ⟨g, 0, none⟩) 1 cap) (cs' := #[.slice (some ⟨g, 0, none⟩) 1 cap]) rfl
  have b5 := blk_far (p := ⟨L, 0, none⟩) b4.out (fun h => hne h.symm) (.slice (some ⟨g, 0, none⟩) 1 cap)
  have ho5 := ((Kp.refl w4 (fun k => k = L)).set_ (p := ⟨L, 0, none⟩) (.inl rfl) (.slice (some ⟨g, 0, none⟩) 1 cap)).own hown.out (fun k hk (h : k = L) => by have h1 : g = k := Option.some.inj hk; omega)
  have hw5' : w4.setCell ⟨L, 0, none⟩ (.slice (some ⟨g, 0, none⟩) 1 cap) = w5 := hw5
  rw [hw5'] at K5 hL5 b5 ho5
  clear hw5 hw5' K4 hL4 b4 hown hS4 hS3 hS1 hH xx yy hL3 b3 B3' hL1 b1 hlL3 hlt4
  replace K5 := Lib.hid K5
  replace hL5 := Lib.hid hL5
  replace ho5 := Lib.hid ho5
  obtain ⟨c0, c1, c2, c3, c4, c5, c6, c7, c8, c9, c10, c11, c12⟩ := ex_cells b5
  replace b5 := Lib.hid b5
  clear hi hz0 hz1 hz2
  replace hgG := Lib.hid hgG
  go_wp2_with fail
  go_loop [26] (fun v => v = .int .i64 0) (fun _ => 0)
  case atStart => rfl
  case round =>
    obtain rfl := hrel
    go_wp2_with fail
    refine bodyPost_end (v := .tuple #[]) (by simp [results, Tryz.results24]) rfl ?_
    exact ⟨rfl, g, cap, by have := hgG.out; omega, by have := hgG.out; have := hG.out; omega, hL5.out, ho5.out, K5.out⟩
end Go.Proofs.YtcpgcjmamjjokaaGreatDoor
