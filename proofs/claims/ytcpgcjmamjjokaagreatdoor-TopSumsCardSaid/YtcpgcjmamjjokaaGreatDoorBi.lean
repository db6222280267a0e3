/- Itoa of 1, and num.Parse of its text. -/
import Derived.Test.YtcpgcjmamjjokaaGreatDoorAf
namespace Go.Proofs.YtcpgcjmamjjokaaGreatDoor
open Go.RowKit Go.Proofs.YtcpgcjmamjjokaaGreatDoorW.PrintWords Go.Proofs.YtcpgcjmamjjokaaGreatDoorW.PrintMore
set_option linter.unusedVariables false
set_option linter.unusedSimpArgs false
theorem itoa_one (w : World) : Calls Tryz.prog 84 #[.int .i64 1] w fun e w' => e = .returned (.string ⟨#[49]⟩) ∧ Below w.heap.size w w' := by
  have h := Tryz.strconv_Itoa_small 1 (by decide) w
  have e : Lib.decDigits 1 = [49] := by decide +kernel
  rw [e] at h
  refine h.mono ?_
  rintro e w' ⟨rfl, rfl⟩
  exact ⟨rfl, Below.refl _ _⟩
theorem tl_one (w : World) : Calls Tryz.prog 120 #[.string ⟨#[49]⟩, .string ⟨#[48, 49, 50, 51, 52, 53, 54, 55, 56, 57]⟩] w fun e w' => e = .returned (.string ⟨#[]⟩) ∧ Below w.heap.size w w' := by
  have h := Any.strings_TrimLeft_laid Tryz.lays161 set225 ⟨#[49]⟩ ⟨#[48, 49, 50, 51, 52, 53, 54, 55, 56, 57]⟩ w (by decide) (ascii_of_all (by decide))
  refine h.mono ?_
  rintro e w' ⟨rfl, hB⟩
  exact ⟨rfl, hB⟩
set_option maxRecDepth 100000 in
theorem front_one (w : World) : Calls Tryz.prog 117 #[.string ⟨#[49]⟩] w fun e w' => e = .returned (.tuple #[.string ⟨#[49]⟩, .string ⟨#[]⟩]) ∧ Below w.heap.size w w' := by
  have hx : (⟨#[49]⟩ : ByteArray).extract 0 1 = ⟨#[49]⟩ := by decide
  go_enter Tryz.func117, Tryz.ntmps117
  go_wp2_with fail
  refine (tl_one _).mono ?_
  rintro e w1 ⟨rfl, B1⟩
  go_wp2_with fail
  refine bodyPost_ret (results_tmp2 rfl _ _ _) rfl ?_
  first | exact ⟨rfl, B1⟩ | (refine ⟨?_, B1⟩; simp [hx])
theorem cut_minus (w : World) : Calls Tryz.prog 116 #[.string ⟨#[49]⟩, .string ⟨#[45]⟩] w fun e w' => e = .returned (.tuple #[.string ⟨#[49]⟩, .bool false]) ∧ w' = w := Tryz.strings_CutPrefix ⟨#[49]⟩ ⟨#[45]⟩ w
theorem cut_point (w : World) : Calls Tryz.prog 116 #[.string ⟨#[]⟩, .string ⟨#[46]⟩] w fun e w' => e = .returned (.tuple #[.string ⟨#[]⟩, .bool false]) ∧ w' = w := Tryz.strings_CutPrefix ⟨#[]⟩ ⟨#[46]⟩ w
theorem cz_one : cz 1 = (1, 0) := cz_stop (.inr (by decide))
theorem dgs_one : dgs 1 = [49] := by rw [dgs_pos (by decide), show 1 / 10 = 0 from rfl, dgs_zero]; rfl
theorem numV_one : numV 1 = .agg #[.bool false, .string ⟨#[49]⟩, .int .i64 0] := by
  unfold numV
  rw [ND_pos (by decide), show NE 1 = (cz 1).2 from rfl, show (1 : Int).natAbs = 1 from rfl, cz_one, dgs_one]
  rfl
theorem made_one (w : World) : Calls Tryz.prog 115 #[.bool false, .string ⟨#[49]⟩, .int .i64 0] w fun e w' => e = .returned (.tuple #[.agg #[.bool false, .string ⟨#[49]⟩, .int .i64 0], .int .i64 0]) ∧ Below w.heap.size w w' := by
  have h := made_num false [49] 0 1 (by intro c hc; rw [List.mem_singleton.1 hc]; decide) (by decide) (by decide) (by decide) (by intro h; exact absurd h (by decide)) (fun _ => by
    rw [show val [49] = 1 from rfl]
    exact ⟨ND_pos (by decide), rfl, rfl⟩) w
  rw [numV_one] at h
  exact h
set_option maxHeartbeats 1600000 in
set_option maxRecDepth 100000 in
theorem parse_one (w : World) : Calls Tryz.prog 83 #[.string ⟨#[49]⟩] w fun e w' => e = .returned (.tuple #[.agg #[.bool false, .string ⟨#[49]⟩, .int .i64 0], .int .i64 0]) ∧ Below w.heap.size w w' := by
  have hx : (⟨#[49]⟩ : ByteArray) ++ ⟨#[]⟩ = ⟨#[49]⟩ := by decide
  have hM := fun w => made_one w
  replace hM := Lib.hid hM
  go_enter Tryz.func83, Tryz.ntmps83
  obtain ⟨G, hG⟩ : ∃ G, w.heap.size = G := ⟨_, rfl⟩
  go_wp2_with fail
  generalize hw1 : World.alloc w _ = w1
  obtain ⟨b1, B1⟩ : w1.heap[G]? = some (.cells #[.bool false, .string ⟨#[]⟩, .int .i64 0] 32 (0, 0)) ∧ Below w.heap.size w w1 := by
    subst hw1 hG
    exact ⟨heap_alloc_new _ _, below_alloc (Below.refl _ _) _⟩
  clear hw1
  refine (cut_minus _).mono ?_
  rintro e w2 ⟨rfl, rfl⟩
  go_wp2_with fail
  refine (front_one _).mono ?_
  rintro e w3 ⟨rfl, B3⟩
  replace b1 := Lib.hid (blk_below b1 B3)
  replace B1 := Lib.hid (below_then B1 B1.size B3)
  clear B3
  replace hG := Lib.hid hG
  go_wp2_with fail
  refine (cut_point _).mono ?_
  rintro e w4 ⟨rfl, rfl⟩
  go_wp2_with fail
  refine (hM.out _).mono ?_
  rintro e w5 ⟨rfl, B5⟩
  have b5 := blk_below b1.out B5
  replace B5 := below_then B1.out B1.out.size B5
  clear b1 B1
  obtain ⟨c0, c1, c2, f0, f1, f2⟩ := blk3 b5
  replace b5 := Lib.hid b5
  replace B5 := Lib.hid B5
  go_wp2_with fail
  generalize hw3 : World.setCell _ _ _ = w7
  have b7 : w7.heap[G]? = some (.cells #[.bool false, .string ⟨#[49]⟩, .int .i64 0] 32 (0, 0)) := by
    subst hw3
    exact blk_put (blk_put (cs' := #[.bool false, .string ⟨#[49]⟩, .int .i64 0]) (blk_put (cs' := #[.bool false, .string ⟨#[]⟩, .int .i64 0]) b5.out 0 _ rfl) 1 _ rfl) 2 _ rfl
  have B8 : Below w.heap.size w w7 := by
    subst hw3
    have hg := hG.out
    exact below_set (below_set (below_set B5.out (by omega)) (by omega)) (by omega)
  obtain ⟨z0, z1, z2, _, _, _⟩ := blk3 b7
  clear hw3
  exact bodyPost_ret (v := .tuple #[.agg #[.bool false, .string ⟨#[49]⟩, .int .i64 0], .int .i64 0]) (by simp [results, Tryz.results83, go_sem, z0, z1, z2]) rfl ⟨rfl, B8⟩
end Go.Proofs.YtcpgcjmamjjokaaGreatDoor
