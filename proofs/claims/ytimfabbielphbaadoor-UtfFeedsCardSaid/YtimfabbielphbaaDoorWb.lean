/- utf's own functions: Valid, Count, Encode, Decode. -/
import Derived.Test.YtimfabbielphbaaDoorSh
import Derived.Test.YtimfabbielphbaaDoorPb
import Derived.Test.YtimfabbielphbaaDoorWMore
import Derived.Laws.RangeString
import Derived.Laws.RangeAny
import Derived.LoopTactic
namespace Go.Proofs.YtimfabbielphbaaDoor
open Go.RowKit Go.Lib Go.Proofs.YtimfabbielphbaaDoorW.PrintWords Go.Proofs.YtimfabbielphbaaDoorW.PrintMore
set_option linter.unusedVariables false
set_option linter.unusedSimpArgs false

set_option maxHeartbeats 4000000 in
set_option maxRecDepth 1000000 in
theorem valid_any (s : ByteArray) (w : World) (hT : Lib.Utf8Tabs 0 1 w) (hs : s.size ≤ 9223372036854775807) :
    Calls Tryd.prog 13 #[.string s] w fun e w' => e = .returned (.bool (decide ((Pl.cnt s.data.toList).2 = 0))) ∧ Below w.heap.size w w' := by
  rw [← Pl.valid_cnt']
  go_enter Tryd.func13, Tryd.ntmps13
  go_wp2_with fail
  refine (Tryd.utf8_ValidString s w hs hT).mono ?_
  rintro e w1 ⟨rfl, B1⟩
  go_wp2
  go_ret
  exact ⟨rfl, B1⟩

set_option maxHeartbeats 4000000 in
set_option maxRecDepth 1000000 in
theorem count_any (s : ByteArray) (w : World) (hT : Lib.Utf8Tabs 0 1 w) (hs : s.size ≤ 9223372036854775806) :
    Calls Tryd.prog 10 #[.string s] w fun e w' => e = .returned (.tuple #[.int .i64 (Pl.cnt s.data.toList).1, .int .i64 (if (Pl.cnt s.data.toList).2 = 0 then 0 else 30)]) ∧ Below w.heap.size w w' := by
  by_cases hv : (Pl.cnt s.data.toList).2 = 0
  · rw [if_pos hv]
    go_enter Tryd.func10, Tryd.ntmps10
    go_wp2_with fail
    refine (valid_any s w hT (by omega)).mono ?_
    rintro e w1 ⟨rfl, B1⟩
    rw [decide_eq_true hv]
    go_wp2_with fail
    go_loopw [4] (fun n w' => ∃ (pos acc : Nat), w' = w1.iter s pos ∧ n = .int .i64 acc ∧ acc ≤ pos ∧ pos ≤ s.size ∧ acc + (Pl.cnt (s.data.toList.drop pos)).1 = (Pl.cnt s.data.toList).1 ∧ (Pl.cnt (s.data.toList.drop pos)).2 = 0) (fun _ w' => s.size - w'.iterPos w1.heap.size)
    case atStart => exact ⟨0, 0, rfl, rfl, by omega, by omega, by simp, by simpa using hv⟩
    case round =>
      obtain ⟨pos, acc, rfl, rfl, ha, hps, hc, he⟩ := hrel
      have hl : s.data.toList.length = s.size := Array.length_toList
      by_cases hp : pos < s.size
      · have hnx : ∀ ty, (Instr.next (.pointer (some ⟨w1.heap.size, 0, none⟩)) true ty).run Tryd.prog (w1.iter s pos) = _ := fun ty => run_next_any w1 s pos ty hp
        have hne : s.data.toList.drop pos ≠ [] := by intro h; have := congrArg List.length h; simp at this; omega
        have he0 : Pl.erL (s.data.toList.drop pos) = 0 := by
          apply Decidable.byContradiction
          intro hx; rw [Pl.cnt_bad _ hne hx] at he; exact hx he
        have hwd := Pl.wdL_pos _ hne he0
        have hg := Pl.cnt_good _ hne he0
        have hg2 := Pl.cnt_good2 _ hne he0
        have hw : (Utf8.decode s pos).2 = Pl.wdL (s.data.toList.drop pos) := by
          rw [← decodeL_drop, Pl.wdL, Pl.dec_good _ hne he0]
        rw [List.drop_drop] at hg hg2
        rw [← hg2, if_pos he] at hg
        simp only [List.length_drop, hl] at hwd
        go_wp2
        go_roundw
        case rel =>
          refine ⟨pos + Pl.wdL (s.data.toList.drop pos), acc + 1, rfl, by go_num, by omega, by omega, ?_, ?_⟩
          · rw [← hc, hg]; simp only []; omega
          · rw [← hg2]; exact he
        case measure =>
          simp
          omega
      · have hnx : ∀ ty, (Instr.next (.pointer (some ⟨w1.heap.size, 0, none⟩)) true ty).run Tryd.prog (w1.iter s pos) = _ := fun ty => run_next_end w1 s pos ty hp
        go_wp2
        go_ret2
        rw [List.drop_of_length_le (by omega)] at hc
        refine ⟨?_, B1.alloc B1.size _⟩
        rw [← hc]; rfl
  · have hz : (Pl.cnt s.data.toList).1 = 0 := Pl.cnt_zero _ hv
    rw [hz, if_neg hv]
    go_enter Tryd.func10, Tryd.ntmps10
    go_wp2_with fail
    refine (valid_any s w hT (by omega)).mono ?_
    rintro e w1 ⟨rfl, B1⟩
    rw [decide_eq_false hv]
    go_wp2
    go_ret2
    exact ⟨rfl, B1⟩

set_option maxHeartbeats 4000000 in
set_option maxRecDepth 1000000 in
theorem encode_any (r : Int) (w : World) (hr : -9223372036854775808 ≤ r ∧ r ≤ 9223372036854775807) :
    Calls Tryd.prog 14 #[.int .i64 r] w fun e w' => e = .returned (if Pl.isCh r then .tuple #[.string (Utf8.encode r), .int .i64 0] else .tuple #[.string ⟨#[]⟩, .int .i64 1]) ∧ w' = w := by
  by_cases c1 : r < 0
  · rw [show Pl.isCh r = false by unfold Pl.isCh; simp; omega]
    go_enter Tryd.func14, Tryd.ntmps14
    go_wp2
    go_ret2
    exact ⟨rfl, rfl⟩
  have c1' : ¬ r < 0 := c1
  by_cases c2 : 1114111 < r
  · rw [show Pl.isCh r = false by unfold Pl.isCh; simp; omega]
    go_enter Tryd.func14, Tryd.ntmps14
    go_wp2
    go_ret2
    exact ⟨rfl, rfl⟩
  have hw : IntKind.i32.wrap r = r := IntWalk.i32_in _ (by omega)
  by_cases hc : Pl.isCh r = true
  · rw [hc]
    have hv : Lib.validRune r = true := by
      unfold Pl.isCh at hc; unfold Lib.validRune
      simp at hc ⊢; omega
    go_enter Tryd.func14, Tryd.ntmps14
    go_wp2_with (refine (Tryd.utf8_ValidRune _ _).mono ?_; rintro e w1 ⟨rfl, rfl⟩)
    go_ret2
    exact ⟨rfl, rfl⟩
  · have hc' : Pl.isCh r = false := by simpa using hc
    rw [hc']
    have hv : Lib.validRune r = false := by
      unfold Pl.isCh at hc'; unfold Lib.validRune
      simp at hc' ⊢; omega
    go_enter Tryd.func14, Tryd.ntmps14
    go_wp2_with (refine (Tryd.utf8_ValidRune _ _).mono ?_; rintro e w1 ⟨rfl, rfl⟩)
    go_ret2
    exact ⟨rfl, rfl⟩
end Go.Proofs.YtimfabbielphbaaDoor
