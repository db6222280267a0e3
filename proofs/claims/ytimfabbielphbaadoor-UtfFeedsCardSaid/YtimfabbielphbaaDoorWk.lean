/- The laws UtfTexts, UtfChars, UtfNil, UtfJoins, walked. -/
import Derived.Test.YtimfabbielphbaaDoorWj
namespace Go.Proofs.YtimfabbielphbaaDoor
open Go.RowKit Go.Lib Go.Proofs.YtimfabbielphbaaDoorW.PrintWords Go.Proofs.YtimfabbielphbaaDoorW.PrintMore
set_option linter.unusedVariables false
set_option linter.unusedSimpArgs false

theorem tabs_size {w : World} (hT : Lib.Utf8Tabs 0 1 w) : 2 ≤ w.heap.size :=
  World.block_lt_of_cell? _ _ (hT.2 0 (by omega)).1
theorem aw (w : World) (hT : Lib.Utf8Tabs 0 1 w) : Calls Tryd.prog 12 #[] w fun e w' => e = .returned (.bool true) ∧ Below w.heap.size w w' := awake_any w hT (tabs_size hT)
theorem count_is (s : ByteArray) (w : World) (hT : Lib.Utf8Tabs 0 1 w) (hs : s.size ≤ 9223372036854775806) (k x y : Nat) (hc : Pl.cnt s.data.toList = (k, x)) (hy : (if x = 0 then 0 else 30) = y) :
    Calls Tryd.prog 10 #[.string s] w fun e w' => e = .returned (.tuple #[.int .i64 k, .int .i64 y]) ∧ Below w.heap.size w w' := by
  refine (count_any s w hT hs).mono fun e w' h => ⟨h.1.trans ?_, h.2⟩
  rw [hc, ← hy]
  by_cases hx : x = 0
  · rw [if_pos hx, if_pos hx]; rfl
  · rw [if_neg hx, if_neg hx]; rfl
theorem refCount_is (s : ByteArray) (w : World) (hs : s.size ≤ 1000000000) (k x : Nat) (hc : Pl.cnt s.data.toList = (k, x)) :
    Calls Tryd.prog 11 #[.string s] w fun e w' => e = .returned (.tuple #[.int .i64 k, .int .i64 x]) ∧ Below w.heap.size w w' := by
  have := refCount_any s w hs
  rw [hc] at this; exact this
theorem valid_is (s : ByteArray) (w : World) (hT : Lib.Utf8Tabs 0 1 w) (hs : s.size ≤ 9223372036854775807) (k x : Nat) (b : Bool) (hc : Pl.cnt s.data.toList = (k, x)) (hb : decide (x = 0) = b) :
    Calls Tryd.prog 13 #[.string s] w fun e w' => e = .returned (.bool b) ∧ Below w.heap.size w w' := by
  have := valid_any s w hT hs
  rw [hc, hb] at this; exact this

set_option maxHeartbeats 4000000 in
set_option maxRecDepth 1000000 in
theorem texts_walk (w : World) (hT : Lib.Utf8Tabs 0 1 w) (s : ByteArray) (hs : s.size ≤ 140737488351232) :
    Calls Tryd.prog 3 #[.string s] w fun e w' => e = .returned (.bool true) ∧ Below w.heap.size w w' := by
  replace hT := Aside0.mk hT
  by_cases hlong : (s.size : Int) > 16384
  · go_enter Tryd.func3, Tryd.ntmps3
    go_wp2
    go_ret
    exact ⟨rfl, Below.refl _ _⟩
  obtain ⟨k, x, hc⟩ : ∃ k x, Pl.cnt s.data.toList = (k, x) := ⟨_, _, rfl⟩
  replace hc := Aside0.mk hc
  by_cases hx : x = 0
  · subst hx
    go_enter Tryd.func3, Tryd.ntmps3
    go_wp2_with fail
    refine (count_is s _ hT.out (by omega) k 0 0 hc.out rfl).mono ?_
    rintro e w1 ⟨rfl, B1⟩
    have hT1 := Aside0.mk (Utf8Tabs_below hT.out B1)
    go_wp2_with fail
    refine (refCount_is s _ (by omega) k 0 hc.out).mono ?_
    rintro e w2 ⟨rfl, B2⟩
    have hT2 := Aside0.mk (Utf8Tabs_below hT1.out B2)
    replace B2 := below_then B1 B1.size B2
    clear B1 hT1
    go_wp2_with fail
    refine (aw _ hT2.out).mono ?_
    rintro e w3 ⟨rfl, B3⟩
    have hT3 := Aside0.mk (Utf8Tabs_below hT2.out B3)
    replace B3 := below_then B2 B2.size B3
    clear B2 hT2
    go_wp2_with fail
    refine (valid_is s _ hT3.out (by omega) k 0 true hc.out rfl).mono ?_
    rintro e w4 ⟨rfl, B4⟩
    replace B4 := below_then B3 B3.size B4
    clear B3 hT3
    go_wp2
    go_ret
    exact ⟨rfl, B4⟩
  · have hk : k = 0 := by have := Pl.cnt_zero s.data.toList (by rw [hc.out]; exact hx); rw [hc.out] at this; exact this
    subst hk
    have hx1 : ((x : Int) != 0) = true := bne_iff_ne.2 (by omega)
    go_enter Tryd.func3, Tryd.ntmps3
    go_wp2_with fail
    refine (count_is s _ hT.out (by omega) 0 x 30 hc.out (by rw [if_neg hx])).mono ?_
    rintro e w1 ⟨rfl, B1⟩
    have hT1 := Aside0.mk (Utf8Tabs_below hT.out B1)
    go_wp2_with fail
    refine (refCount_is s _ (by omega) 0 x hc.out).mono ?_
    rintro e w2 ⟨rfl, B2⟩
    have hT2 := Aside0.mk (Utf8Tabs_below hT1.out B2)
    replace B2 := below_then B1 B1.size B2
    clear B1 hT1
    go_wp2_with fail
    refine (aw _ hT2.out).mono ?_
    rintro e w3 ⟨rfl, B3⟩
    have hT3 := Aside0.mk (Utf8Tabs_below hT2.out B3)
    replace B3 := below_then B2 B2.size B3
    clear B2 hT2
    go_wp2_with fail
    refine (valid_is s _ hT3.out (by omega) 0 x false hc.out (decide_eq_false hx)).mono ?_
    rintro e w4 ⟨rfl, B4⟩
    replace B4 := below_then B3 B3.size B4
    clear B3 hT3
    go_wp2
    go_ret
    exact ⟨rfl, B4⟩

set_option maxHeartbeats 4000000 in
set_option maxRecDepth 1000000 in
theorem nil_walk (w : World) (hT : Lib.Utf8Tabs 0 1 w) (A : Option Addr) (len cap : Nat) (l : List Int) (hr : ReadsInt w .u8 A len l) (hy : len * 1 ≤ 140737488351232) (hc : len ≤ cap) (hw : ∀ n ∈ l, (Lit.int .u8 n).wf = true) :
    Calls Tryd.prog 8 #[.slice A len cap] w fun e w' => e = .returned (.bool true) ∧ Below w.heap.size w w' := by
  replace hT := Aside0.mk hT
  clear hr hw
  by_cases hlong : (len : Int) > 16384
  · go_enter Tryd.func8, Tryd.ntmps8
    go_wp2
    go_ret
    exact ⟨rfl, Below.refl _ _⟩
  go_enter Tryd.func8, Tryd.ntmps8
  go_wp2_with fail
  refine (aw _ hT.out).mono ?_
  rintro e w1 ⟨rfl, B1⟩
  go_wp2_with fail
  refine ((feed_nil _ _).mono fun e w' h => ⟨h.1, h.2.symm⟩ : Calls Tryd.prog 19 _ _ fun e w' => e = .returned (.int .i64 3) ∧ w1 = w').mono ?_
  rintro e w2 ⟨rfl, rfl⟩
  go_wp2_with fail
  refine ((end_nil _).mono fun e w' h => ⟨h.1, h.2.symm⟩ : Calls Tryd.prog 21 _ _ fun e w' => e = .returned (.int .i64 3) ∧ w1 = w').mono ?_
  rintro e w2 ⟨rfl, rfl⟩
  go_wp2
  go_ret
  exact ⟨rfl, B1⟩
end Go.Proofs.YtimfabbielphbaaDoor
