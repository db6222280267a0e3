/- The reference: bits, Class of a word, Widen. -/
import Derived.Test.YtocmmdheegkbaaaDoorRc
namespace Go.Proofs.YtocmmdheegkbaaaDoor
open Go.RowKit Go.Proofs.YtocmmdheegkbaaaDoorW.PrintWords Go.Proofs.YtocmmdheegkbaaaDoorW.PrintMore
set_option linter.unusedVariables false
set_option linter.unusedSimpArgs false

set_option maxHeartbeats 500000 in
set_option maxRecDepth 100000 in
theorem bits_ref (s : Bool) (e f : Nat) (he : e < 2048) (hf : f < 4503599627370496) (w : World) :
    Calls Tryd.prog 39 #[.bool s, .int .i64 (e : Int), .int .u64 (f : Int)] w fun r w' => r = .returned (.int .u64 (wd s (e * 4503599627370496 + f) : Nat)) ∧ Drawn0 w w' := by
  have hw0 : IntKind.u64.wrap (e : Int) = (e : Int) := u64_small _ (by omega)
  obtain ⟨v, hv⟩ : ∃ v, e * 4503599627370496 + f = v := ⟨_, rfl⟩
  obtain ⟨u, hu⟩ : ∃ u, e * 4503599627370496 = u := ⟨_, rfl⟩
  have hw1 : IntKind.u64.wrap ((e : Int) * 4503599627370496) = (u : Int) := by rw [IntKind.wrap_u64]; omega
  have hw2 : IntKind.u64.wrap ((u : Int) + (f : Int)) = (v : Int) := by rw [IntKind.wrap_u64]; omega
  have hw3 : IntKind.u64.wrap ((v : Int) + 9223372036854775808) = ((9223372036854775808 + v : Nat) : Int) := by rw [IntKind.wrap_u64]; omega
  rw [hv]
  replace hv := Lib.hid hv
  replace hu := Lib.hid hu
  clear he hf
  obtain ⟨r, hr⟩ : ∃ r, wd s v = r := ⟨_, rfl⟩
  rw [hr]
  unfold wd at hr
  have hp52 := fun w => power_any 52 4503599627370496 (by decide) (by decide) w
  have hp63 := fun w => power_any 63 9223372036854775808 (by decide) (by decide) w
  go_enter Tryd.func39, Tryd.ntmps39
  go_wp2_with fail
  refine (hp52 _).mono ?_
  rintro r' w1 ⟨rfl, ⟨m, rfl⟩⟩
  cases s with
  | false =>
    rw [if_neg (by decide)] at hr
    subst hr
    go_wp2_with fail
    go_ret
    exact ⟨rfl, _, rfl⟩
  | true =>
    rw [if_pos rfl] at hr
    subst hr
    go_wp2_with fail
    refine (hp63 _).mono ?_
    rintro r' w1 ⟨rfl, ⟨m, rfl⟩⟩
    go_wp2_with fail
    go_ret
    exact ⟨rfl, _, rfl⟩

set_option maxHeartbeats 500000 in
set_option maxRecDepth 100000 in
theorem refClass_any (b : Nat) (hb : b < 18446744073709551616) (w : World) :
    Calls Tryd.prog 17 #[.int .u64 (b : Int)] w fun r w' => r = .returned (.int .i64 (clsF 2048 (b / 4503599627370496 % 2048) (b % 4503599627370496) : Nat)) ∧ Below w.heap.size w w' := by
  have hO := fun w => Of_any b 11 52 2048 4503599627370496 hb (by decide) (by decide) (by decide) (by decide) w
  have hC := fun s w => Class_ref s (b / 4503599627370496 % 2048) (b % 4503599627370496) 11 52 2048 (by decide) (by decide) (by omega) w
  unfold flt at hC
  generalize clsF 2048 (b / 4503599627370496 % 2048) (b % 4503599627370496) = c at hC ⊢
  generalize b / 4503599627370496 % 2048 = e at hC hO
  generalize b % 4503599627370496 = f at hC hO
  generalize (b / 4503599627370496 / 2048 % 2 == 1) = s at hO
  go_enter Tryd.func17, Tryd.ntmps17
  go_wp2_with fail
  refine (hO _).mono ?_
  rintro r' w1 ⟨rfl, hB1⟩
  go_wp2_with fail
  refine (hC _ _).mono ?_
  rintro r' w2 ⟨rfl, hB2⟩
  go_wp2_with fail
  go_ret
  exact ⟨rfl, below_then hB1 hB1.size hB2⟩

end Go.Proofs.YtocmmdheegkbaaaDoor
