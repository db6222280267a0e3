/- The machine: Done, Held. -/
import Derived.Test.YtcpgcjmamjjokaaGreatDoorDc
namespace Go.Proofs.YtcpgcjmamjjokaaGreatDoor
open Go.RowKit Go.Proofs.YtcpgcjmamjjokaaGreatDoorW.PrintWords Go.Proofs.YtcpgcjmamjjokaaGreatDoorW.PrintMore
set_option linter.unusedVariables false
set_option linter.unusedSimpArgs false
set_option maxRecDepth 100000 in
theorem done_m (M C : Nat) (o : Bool) (a t : Value) (k : Int) (w : World) (hM : w.heap[M]? = some (mB a (.pointer (some ⟨C, 0, none⟩)) t k)) (hC : w.cell? ⟨C, 1, none⟩ = some (.bool o)) :
    Calls Tryz.prog 11 #[.pointer (some ⟨M, 0, none⟩)] w fun e w' => e = .returned (.bool o) ∧ w = w' := by
  unfold mB at hM
  obtain ⟨c0, c1, c2, c3, c4, f0, f1, f2, f3, f4⟩ := blk5 hM
  replace hM := Lib.hid hM
  go_enter Tryz.func11, Tryz.ntmps11
  go_wp2_with fail
  refine (done_any C o w hC).mono ?_
  rintro e w1 ⟨rfl, rfl⟩
  cases o with
  | false =>
    go_wp2_with fail
    go_ret
    exact ⟨rfl, rfl⟩
  | true =>
    go_wp2_with fail
    go_ret
    exact ⟨rfl, rfl⟩
theorem meth_held (a : Addr) (w : World) : (method 473 125 (.pointer (some a)) "calamus/run.held").run Tryz.prog w = .ok (319, .pointer (some a)) w := by kernel_rfl
set_option maxRecDepth 100000 in
theorem held_c (a : Addr) (w : World) : Calls Tryz.prog 319 #[.pointer (some a)] w fun e w' => e = .returned (.int .i64 0) ∧ w = w' := by
  go_enter Tryz.func319, Tryz.ntmps319
  go_wp2_with fail
  go_ret
  exact ⟨rfl, rfl⟩
set_option maxRecDepth 100000 in
theorem held_m (M C F : Nat) (o : Bool) (t : Value) (k : Int) (w : World) (hM : w.heap[M]? = some (mB (.iface 125 (.pointer (some ⟨F, 0, none⟩))) (.pointer (some ⟨C, 0, none⟩)) t k)) (hC : w.cell? ⟨C, 1, none⟩ = some (.bool o)) :
    Calls Tryz.prog 10 #[.pointer (some ⟨M, 0, none⟩)] w fun e w' => e = .returned (.int .i64 0) ∧ w = w' := by
  have hD := done_m M C o _ t k w hM hC
  unfold mB at hM
  obtain ⟨c0, c1, c2, c3, c4, f0, f1, f2, f3, f4⟩ := blk5 hM
  replace hM := Lib.hid hM
  replace hD := Lib.hid hD
  have hmth := meth_held
  go_enter Tryz.func10, Tryz.ntmps10
  go_wp2_with fail
  refine hD.out.mono ?_
  rintro e w1 ⟨rfl, rfl⟩
  cases o with
  | false =>
    go_wp2_with fail
    refine (held_c _ _).mono ?_
    rintro e w1 ⟨rfl, rfl⟩
    go_wp2_with fail
    go_ret
    exact ⟨rfl, rfl⟩
  | true =>
    go_wp2_with fail
    go_ret
    exact ⟨rfl, rfl⟩
end Go.Proofs.YtcpgcjmamjjokaaGreatDoor
