/- strconv.ParseUint at base 16; fbits.Unhex. -/
import Derived.Test.YtocmmdheegkbaaaDoorHd
namespace Go.Proofs.YtocmmdheegkbaaaDoor
open Go.RowKit Go.Proofs.YtocmmdheegkbaaaDoorW.PrintWords Go.Proofs.YtocmmdheegkbaaaDoorW.PrintMore
set_option linter.unusedVariables false
set_option linter.unusedSimpArgs false

/-- What the laid variables hold, as far as fbits reads them. -/
structure ErrsL (w : World) : Prop where
  syn : ∃ ev, w.cell? ⟨3, 0, none⟩ = some ev ∧ (ev = .nilIface ∨ ∃ te pe, ev = .iface te pe)
  rng : ∃ ev, w.cell? ⟨4, 0, none⟩ = some ev ∧ (ev = .nilIface ∨ ∃ te pe, ev = .iface te pe)
  tab : w.cell? ⟨7, 15, none⟩ = some (.int .u8 4)
theorem ErrsL.below {w w' : World} (h : ErrsL w) (hB : Below w.heap.size w w') : ErrsL w' := by
  have k : ∀ {p : Addr} {v : Value}, w.cell? p = some v → w'.cell? p = some v := fun {p v} hp => (hB.cell (Lib.lt_of_cell hp)).trans hp
  obtain ⟨⟨e1, a, b⟩, ⟨e2, c, d⟩, t⟩ := h
  exact ⟨⟨e1, k a, b⟩, ⟨e2, k c, d⟩, k t⟩
theorem p16_lt : ∀ (cs : List UInt8) (acc n : Nat), acc < 18446744073709551616 → p16 acc cs = .ok n → n < 18446744073709551616
  | [], acc, n, h, e => by rw [p16] at e; injection e with e; omega
  | c :: cs, acc, n, h, e => by
    rw [p16] at e
    cases hd : dv c with
    | none => rw [hd] at e; cases e
    | some d =>
      rw [hd] at e
      simp only [] at e
      split at e
      · cases e
      · rename_i hh
        have hd16 : d < 16 := by
          unfold dv at hd
          split at hd
          · injection hd; omega
          · split at hd
            · injection hd; omega
            · cases hd
        exact p16_lt cs _ n (by omega) e
/-- What ParseUint answers: the number and whether there is an error. -/
def PRok (s : ByteArray) (r : PR) (v : Value) : Prop :=
  match r with
  | .ok n => v = .tuple #[.int .u64 (n : Int), .nilIface]
  | _ => ∃ (x : Int) (N : Nat), v = .tuple #[.int .u64 x, .iface 72 (.pointer (some ⟨N, 0, none⟩))]
def pr (s : ByteArray) : PR := if s.size = 0 then PR.syn else p16 0 s.data.toList
theorem pr_lt (s : ByteArray) (n : Nat) (h : pr s = .ok n) : n < 18446744073709551616 := by
  unfold pr at h
  split at h
  · cases h
  · exact p16_lt _ _ _ (by omega) h
set_option maxHeartbeats 4000000 in
set_option maxRecDepth 100000 in
theorem parse_16 (s : ByteArray) (hmax : s.size ≤ 281474976710656) (w : World) (hw : ErrsL w) :
    Calls Tryd.prog 33 #[.string s, .int .i64 16, .int .i64 64] w fun e w' => ∃ v, e = .returned v ∧ PRok s (pr s) v ∧ Below w.heap.size w w' := by
  obtain ⟨r, hr⟩ : ∃ r, r = pr s := ⟨_, rfl⟩
  rw [← hr]
  go_enter Tryd.func33, Tryd.ntmps33
  go_wp2_with fail
  refine (iparse_16 s hmax _).mono ?_
  rintro e w1 ⟨rfl, hB⟩
  rw [show (if s.size = 0 then PR.syn else p16 0 s.data.toList) = pr s from rfl, ← hr]
  have hw1 := hw.below hB
  obtain ⟨⟨e1, s1, s2⟩, ⟨e2, r1, r2⟩, _⟩ := hw1
  clear hr
  cases r with
  | ok n =>
    unfold PR.tup
    go_wp2_with fail
    go_ret2
    exact ⟨_, rfl, rfl, hB⟩
  | syn =>
    unfold PR.tup
    go_wp2_with fail
    refine (toError_2 _ s _ _ e1 _ hmax s1 s2).mono ?_
    rintro e w2 ⟨N, rfl, hB2⟩
    go_wp2_with fail
    go_ret2
    exact ⟨_, rfl, ⟨_, N, rfl⟩, hB.trans (hB2.mono hB.size)⟩
  | rng =>
    unfold PR.tup
    go_wp2_with fail
    refine (toError_1 _ s _ _ e2 _ hmax r1 r2).mono ?_
    rintro e w2 ⟨N, rfl, hB2⟩
    go_wp2_with fail
    go_ret2
    exact ⟨_, rfl, ⟨_, N, rfl⟩, hB.trans (hB2.mono hB.size)⟩

/-- Unhex's answer. -/
def uh (s : ByteArray) : Nat × Nat :=
  match pr s with
  | .ok n => if s.size = 16 ∧ hexS n = s then (n, 0) else (0, 20)
  | _ => (0, 20)
set_option maxHeartbeats 4000000 in
set_option maxRecDepth 100000 in
theorem Unhex_any (s : ByteArray) (hmax : s.size ≤ 281474976710656) (w : World) (hw : ErrsL w) :
    Calls Tryd.prog 18 #[.string s] w fun e w' => e = .returned (.tuple #[.int .u64 ((uh s).1 : Int), .int .i64 ((uh s).2 : Int)]) ∧ Below w.heap.size w w' := by
  obtain ⟨u, hu⟩ : ∃ u, u = uh s := ⟨_, rfl⟩
  rw [← hu]
  unfold uh at hu
  replace hu := Lib.hid hu
  go_enter Tryd.func18, Tryd.ntmps18
  go_wp2_with fail
  refine (parse_16 s hmax _ hw).mono ?_
  rintro e w1 ⟨v, rfl, hv, hB⟩
  have hw1 := hw.below hB
  have hlt := pr_lt s
  replace hu := hu.out
  generalize pr s = r at hv hlt hu
  cases r with
  | ok n =>
    replace hlt := hlt n rfl
    cases hv
    by_cases h16 : s.size = 16
    · replace hu := Lib.hid hu
      go_wp2_with fail
      refine (Hex_any n hlt _ hw1.tab).mono ?_
      rintro e w2 ⟨rfl, hB2⟩
      replace hu := hu.out
      by_cases hs : hexS n = s
      · simp only [h16, hs, and_self, if_true] at hu
        subst hu
        go_wp2_with fail
        go_ret2
        exact ⟨rfl, hB.trans (hB2.mono hB.size)⟩
      · simp only [h16, hs, and_false, if_false] at hu
        subst hu
        have hse : ((hexS n).toList == s.toList) = false := by
          rw [beq_eq_false_iff_ne, Lib.toList_data, Lib.toList_data]
          intro h
          exact hs (ByteArray.ext (Array.ext' h))
        go_wp2_with fail
        go_ret2
        exact ⟨rfl, hB.trans (hB2.mono hB.size)⟩
    · simp only [h16, false_and, if_false] at hu
      subst hu
      go_wp2_with fail
      go_ret2
      exact ⟨rfl, hB⟩
  | syn =>
    obtain ⟨x, N, rfl⟩ := hv
    simp only [] at hu
    subst hu
    go_wp2_with fail
    go_ret2
    exact ⟨rfl, hB⟩
  | rng =>
    obtain ⟨x, N, rfl⟩ := hv
    simp only [] at hu
    subst hu
    go_wp2_with fail
    go_ret2
    exact ⟨rfl, hB⟩
end Go.Proofs.YtocmmdheegkbaaaDoor
