/- The law FbitsRound. -/
import Derived.Test.YtocmmdheegkbaaaDoorLa
namespace Go.Proofs.YtocmmdheegkbaaaDoor
open Go.RowKit Go.Proofs.YtocmmdheegkbaaaDoorW.PrintWords Go.Proofs.YtocmmdheegkbaaaDoorW.PrintMore
set_option linter.unusedVariables false
set_option linter.unusedSimpArgs false

theorem u64_small' (n : Nat) (h : n < 18446744073709551616) : IntKind.u64.wrap (n : Int) = (n : Int) := by rw [IntKind.wrap_u64]; omega
def backL (n x : Nat) : Nat := if n = 16 then W16 (x % 65536) else if n = 32 then W32 (x % 4294967296) else x
theorem back_nar (b : Nat) : backL (Nar b).1 (Nar b).2 = b := by
  unfold Nar backL
  by_cases c : W16 (I16 b) = b
  · rw [if_pos c]
    simp only [if_true]
    rw [Nat.mod_eq_of_lt (I16_lt b), c]
  · rw [if_neg c]
    by_cases d : W32 (I32 b) = b
    · rw [if_pos d]
      show (if (32 : Nat) = 16 then _ else if (32 : Nat) = 32 then W32 (I32 b % 4294967296) else _) = b
      rw [if_neg (by decide), if_pos rfl, Nat.mod_eq_of_lt (I32_lt b), d]
    · rw [if_neg d]
      show (if (64 : Nat) = 16 then _ else if (64 : Nat) = 32 then _ else b) = b
      rw [if_neg (by decide), if_neg (by decide)]
theorem nar_w (b : Nat) : (Nar b).1 = 16 ∨ (Nar b).1 = 32 ∨ (Nar b).1 = 64 := by
  unfold Nar
  split
  · exact .inl rfl
  · split
    · exact .inr (.inl rfl)
    · exact .inr (.inr rfl)
theorem nar_lt (b : Nat) (hb : b < 18446744073709551616) : (Nar b).2 < 18446744073709551616 := by
  unfold Nar
  split
  · have := I16_lt b; show I16 b < _; omega
  · split
    · have := I32_lt b; show I32 b < _; omega
    · exact hb
theorem nar_w16 (h : Nat) (hh : h < 65536) : Nar (W16 h) = (16, h) := by
  unfold Nar
  rw [I16_W16 h hh, if_pos rfl]
theorem nar_w32 (s : Nat) (hs : s < 4294967296) : (Nar (W32 s)).1 = 16 ∨ (Nar (W32 s)).1 = 32 ∧ (Nar (W32 s)).2 = s := by
  unfold Nar
  rw [I32_W32 s hs]
  split
  · exact .inl rfl
  · rw [if_pos rfl]; exact .inr ⟨rfl, rfl⟩

set_option maxHeartbeats 1000000 in
set_option maxRecDepth 100000 in
theorem back_any (n x : Nat) (hx : x < 18446744073709551616) (hn : n = 16 ∨ n = 32 ∨ n = 64) (w : World) (hS : Shapes w) :
    Calls Tryd.prog 22 #[.int .i64 (n : Int), .int .u64 (x : Int)] w fun e w' => e = .returned (.int .u64 (backL n x : Nat)) ∧ Below w.heap.size w w' := by
  obtain ⟨v, hv⟩ : ∃ v, backL n x = v := ⟨_, rfl⟩
  rw [hv]
  unfold backL at hv
  replace hS := Lib.hid hS
  rcases hn with rfl | rfl | rfl
  · rw [if_pos rfl] at hv
    obtain ⟨y, hy⟩ : ∃ y, x % 65536 = y := ⟨_, rfl⟩
    have hyl : y < 65536 := by omega
    rw [hy] at hv
    have hw : IntKind.u16.wrap (x : Int) = (y : Int) := by rw [IntKind.wrap_u16]; omega
    have k := fun (w : World) (h : Shapes w) => Widen16_any y hyl w h
    rw [hv] at k
    clear hy hv hyl hx
    go_enter Tryd.func22, Tryd.ntmps22
    go_wp2_with fail
    refine (k _ hS.out).mono ?_
    rintro e w1 ⟨rfl, B1⟩
    go_wp2_with fail
    go_ret
    exact ⟨rfl, B1⟩
  · rw [if_neg (by decide), if_pos rfl] at hv
    obtain ⟨y, hy⟩ : ∃ y, x % 4294967296 = y := ⟨_, rfl⟩
    have hyl : y < 4294967296 := by omega
    rw [hy] at hv
    have hw : IntKind.u32.wrap (x : Int) = (y : Int) := by rw [IntKind.wrap_u32]; omega
    have k := fun (w : World) (h : Shapes w) => Widen32_any y hyl w h
    rw [hv] at k
    clear hy hv hyl hx
    go_enter Tryd.func22, Tryd.ntmps22
    go_wp2_with fail
    refine (k _ hS.out).mono ?_
    rintro e w1 ⟨rfl, B1⟩
    go_wp2_with fail
    go_ret
    exact ⟨rfl, B1⟩
  · rw [if_neg (by decide), if_neg (by decide)] at hv
    subst hv
    go_enter Tryd.func22, Tryd.ntmps22
    go_wp2_with fail
    go_ret
    exact ⟨rfl, Below.refl _ _⟩

set_option maxHeartbeats 1000000 in
set_option maxRecDepth 100000 in
theorem round_any (b h s : Nat) (hb : b < 18446744073709551616) (hh : h < 65536) (hs : s < 4294967296) (w : World) (hL : Laid w) :
    Calls Tryd.prog 6 #[.int .u64 (b : Int), .int .u16 (h : Int), .int .u32 (s : Int)] w fun e w' => e = .returned (.bool true) ∧ Below w.heap.size w w' := by
  obtain ⟨N, hN⟩ : ∃ N, Nar b = N := ⟨_, rfl⟩
  have k1 := fun (w : World) (h : Laid w) => Narrow_any b hb w h.sh N hN
  have k2 := fun (w : World) (h : Laid w) => back_any N.1 N.2 (hN ▸ nar_lt b hb) (hN ▸ nar_w b) w h.sh
  have e2 : backL N.1 N.2 = b := hN ▸ back_nar b
  rw [e2] at k2
  have hNw := hN ▸ nar_w b
  obtain ⟨n, x⟩ := N
  have k3 := fun (w : World) (hl : Laid w) => Widen16_any h hh w hl.sh
  have k4 := fun (w : World) (hl : Laid w) => Narrow_any (W16 h) (W16_lt h) w hl.sh _ (nar_w16 h hh)
  have k5 := fun (w : World) (hl : Laid w) => Widen32_any s hs w hl.sh
  obtain ⟨M, hM⟩ : ∃ M, Nar (W32 s) = M := ⟨_, rfl⟩
  have k6 := fun (w : World) (hl : Laid w) => Narrow_any (W32 s) (W32_lt s) w hl.sh M hM
  have k7 := fun (w : World) (hl : Laid w) => back_any M.1 M.2 (hM ▸ nar_lt _ (W32_lt s)) (hM ▸ nar_w _) w hl.sh
  have e7 : backL M.1 M.2 = W32 s := hM ▸ back_nar _
  rw [e7] at k7
  have h32 := hM ▸ nar_w32 s hs
  obtain ⟨m, y⟩ := M
  have hW : W32 s < 18446744073709551616 := W32_lt s
  have hV : W16 h < 18446744073709551616 := W16_lt h
  have hwh : IntKind.u64.wrap (h : Int) = (h : Int) := u64_small' h (by omega)
  have hws : IntKind.u64.wrap (s : Int) = (s : Int) := u64_small' s (by omega)
  generalize W32 s = V at *
  generalize W16 h = U at *
  simp only [] at k1 k2 k7 hNw h32
  clear hN hM e2 e7
  replace hL := Lib.hid hL
  have hn16 : ((n : Int) != 16 && (n : Int) != 32 && (n : Int) != 64) = false := by
    rcases hNw with rfl | rfl | rfl <;> decide
  go_enter Tryd.func6, Tryd.ntmps6
  go_wp2_with fail
  refine (k1 _ hL.out).mono ?_
  rintro e w1 ⟨rfl, B1⟩
  have hL1 := Lib.hid (hL.out.below B1)
  replace B1 := Lib.hid B1
  go_wp2_with fail
  refine (k2 _ hL1.out).mono ?_
  rintro e w2 ⟨rfl, B2⟩
  have hL2 := Lib.hid (hL1.out.below B2)
  replace B2 := Lib.hid (below_then B1.out B1.out.size B2)
  rcases hNw with rfl | rfl | rfl
  all_goals (
    go_wp2_with fail
    refine (k3 _ hL2.out).mono ?_
    rintro e w3 ⟨rfl, B3⟩
    have hL3 := Lib.hid (hL2.out.below B3)
    replace B3 := Lib.hid (below_then B2.out B2.out.size B3)
    go_wp2_with fail
    refine (k4 _ hL3.out).mono ?_
    rintro e w4 ⟨rfl, B4⟩
    have hL4 := Lib.hid (hL3.out.below B4)
    replace B4 := Lib.hid (below_then B3.out B3.out.size B4)
    go_wp2_with fail
    refine (k5 _ hL4.out).mono ?_
    rintro e w5 ⟨rfl, B5⟩
    have hL5 := Lib.hid (hL4.out.below B5)
    replace B5 := Lib.hid (below_then B4.out B4.out.size B5)
    go_wp2_with fail
    refine (k6 _ hL5.out).mono ?_
    rintro e w6 ⟨rfl, B6⟩
    have hL6 := Lib.hid (hL5.out.below B6)
    replace B6 := Lib.hid (below_then B5.out B5.out.size B6)
    go_wp2_with fail
    refine (awake_any _ hL6.out).mono ?_
    rintro e w7 ⟨rfl, B7⟩
    have hL7 := Lib.hid (hL6.out.below B7)
    replace B7 := Lib.hid (below_then B6.out B6.out.size B7)
    rcases h32 with rfl | ⟨rfl, rfl⟩
    all_goals (
      go_wp2_with fail
      refine (k7 _ hL7.out).mono ?_
      rintro e w8 ⟨rfl, B8⟩
      have hL8 := Lib.hid (hL7.out.below B8)
      replace B8 := Lib.hid (below_then B7.out B7.out.size B8)
      go_wp2_with fail
      refine (k5 _ hL8.out).mono ?_
      rintro e w9 ⟨rfl, B9⟩
      replace B9 := Lib.hid (below_then B8.out B8.out.size B9)
      go_wp2_with fail
      go_ret
      exact ⟨rfl, B9.out⟩))
end Go.Proofs.YtocmmdheegkbaaaDoor
