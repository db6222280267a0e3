/- ChunkRuns, walked. -/
import Derived.Test.YticcfpbeejakhaaMl
import Derived.Test.YticcfpbeejakhaaMo
namespace Go.Proofs.Yticcfpbeejakhaa
open Go.RowKit Go.Proofs.YticcfpbeejakhaaW.PrintWords Go.Proofs.YticcfpbeejakhaaW.PrintMore
set_option linter.unusedVariables false
set_option linter.unusedSimpArgs false

theorem step_any (w : World) (B gs gm : Nat) (v : Value) (all : List Int) (pos once gone limit : Int) (H : RunRel w B gs gm v all pos once gone limit)
    (kd n : Int) (A : Option Addr) (m c : Nat) (ys : List Int) (HR : ReadsInt w .u8 A m ys) (hA : ∀ ad, A = some ad → 0 < m → ad.block < B) (hm : m ≤ 1000000) :
    Calls Try.prog 10 #[.pointer (some ⟨gs, 0, none⟩), .pointer (some ⟨gm, 0, none⟩), .agg #[.int .i64 kd, .int .i64 n, .slice A m c]] w fun e w' => e = .returned (.bool true) ∧ Stepped w w' B gs gm limit := by
  by_cases h1 : kd = 1
  · subst h1; exact step_feed w B gs gm v all pos once gone limit H n A m c ys HR hA hm
  by_cases h2 : kd = 2
  · subst h2; exact step_take w B gs gm v all pos once gone limit H n _ A m c rfl
  by_cases h3 : kd = 3
  · subst h3; exact step_peek w B gs gm v all pos once gone limit H n _ A m c rfl
  by_cases h4 : kd = 4
  · subst h4; exact step_back w B gs gm v all pos once gone limit H n _ A m c rfl
  exact step_other w B gs gm v all pos once gone limit H kd h1 h2 h3 h4 n _ A m c rfl

theorem reads_lt {w : World} {k : IntKind} {A : Option Addr} {n : Nat} {xs : List Int} (h : ReadsInt w k A n xs) : ∀ ad, A = some ad → 0 < n → ad.block < w.heap.size := by
  intro ad e hn
  obtain ⟨ad', e', hc⟩ := h.2.2 hn
  rw [e] at e'
  injection e' with e'
  subst e'
  have := World.block_lt_of_cell? w _ (hc 0 hn)
  rwa [add_block] at this

/-- What holds at a round's head. -/
def RunsRel (w wr : World) (gm : Nat) (limit : Int) : Prop := ∃ (v : Value) (all : List Int) (pos once gone : Int), RunRel wr w.heap.size w.heap.size gm v all pos once gone limit ∧ Below w.heap.size w wr
theorem RunsRel.step {w wr w2 : World} {gm : Nat} {limit : Int} (h : Stepped wr w2 w.heap.size w.heap.size gm limit) (hb : Below w.heap.size w wr) : RunsRel w w2 gm limit := by
  obtain ⟨v, all, pos, once, gone, h1, h2⟩ := h
  exact ⟨v, all, pos, once, gone, h1, h2.toBelow hb hb.size (fun k hk => hk)⟩

set_option maxHeartbeats 1000000 in
set_option maxRecDepth 100000 in
theorem runs_walk (w : World) (limit : Int) (A : Option Addr) (n c : Nat) (os : Nat → OpV) (HR : OpsRead w A n os) (hn : n ≤ 140737488351232) :
    Calls Try.prog 3 #[.int .i64 limit, .slice A n c] w fun e w' => e = .returned (.bool true) ∧ Below w.heap.size w w' := by
  have HRh := Lib.hid HR
  clear HR
  go_enter Try.func3, Try.ntmps3
  go_wp2_with fail
  refine (large_any _ A n c os HRh.out hn).mono ?_
  rintro e w1 ⟨⟨r, rfl, hr⟩, rfl⟩
  cases r with
  | true =>
    clear hr
    go_wp2_with fail
    go_ret
    exact ⟨rfl, Below.refl _ _⟩
  | false =>
    obtain ⟨hn2, hos⟩ := hr rfl
    clear hr
    have HOS := Lib.hid hos
    clear hos
    go_wp2_with fail
    by_cases hbad : limit < 0 ∨ 65536 < limit
    · refine (new_no _ limit hbad).mono ?_
      rintro e w1 ⟨rfl, rfl⟩
      by_cases h0 : limit < 0
      · have hd : decide (limit < 0) = true := decide_eq_true h0
        clear hbad
        go_wp2_with fail
        refine (awake_true _).mono ?_
        rintro e w2 ⟨rfl, B2⟩
        go_wp2_with fail
        go_ret
        exact ⟨rfl, B2⟩
      · have hd : decide (limit < 0) = false := decide_eq_false h0
        have hd1 : decide (65536 < limit) = true := decide_eq_true (by omega)
        clear hbad
        go_wp2_with fail
        refine (awake_true _).mono ?_
        rintro e w2 ⟨rfl, B2⟩
        go_wp2_with fail
        go_ret
        exact ⟨rfl, B2⟩
    · refine (new_yes _ limit (by omega) (by omega)).mono ?_
      rintro e w1 ⟨rfl, H1, B1⟩
      have hd : decide (limit < 0) = false := decide_eq_false (by omega)
      have hd1 : decide (65536 < limit) = false := decide_eq_false (by omega)
      have R0 : RunsRel w (w1.alloc (.cells #[.int .i64 limit, .int .i64 0, .int .i64 0, .string ⟨#[]⟩] 31)) w1.heap.size limit := by
        have BB := box_below w1 (.cells #[.int .i64 limit, .int .i64 0, .int .i64 0, .string ⟨#[]⟩] 31)
        exact ⟨_, [], 0, 0, 0, ⟨by simpa using H1.below BB, heap_alloc_new w1 _, B1.size, by simp, .inl rfl⟩, below_then B1 B1.size BB⟩
      clear H1 B1 hbad
      go_wp2
      go_loopw [8] (fun i wr => ∃ k : Nat, i = .int .i64 k ∧ RunsRel w wr w1.heap.size limit) (fun i _ => n - (intOf i).toNat)
      case atStart => exact ⟨0, rfl, R0⟩
      case round =>
        obtain ⟨k, rfl, v, all, pos, once, gone, HH, HB⟩ := hrel
        clear R0
        by_cases hk : k < n
        · obtain ⟨ad, rfl, q0, q1, q2, hrd, hf⟩ := HRh.out k hk
          have hlt := reads_lt hrd
          have hle := HOS.out k hk
          have g0 := (HB.cell (World.block_lt_of_cell? w _ q0)).trans q0
          have g1 := (HB.cell (World.block_lt_of_cell? w _ q1)).trans q1
          have g2 := (HB.cell (World.block_lt_of_cell? w _ q2)).trans q2
          have hrd2 := hrd.below HB
          clear q0 q1 q2 hrd
          have hkz : (k : Int) < (n : Int) := by omega
          go_wp2_with fail
          refine (step_any wr _ _ _ v all pos once gone limit HH (os k).kind (os k).n (os k).A (os k).len (os k).cap (os k).l hrd2 hlt (by omega)).mono ?_
          rintro e w2 ⟨rfl, HS⟩
          have R2 := RunsRel.step HS HB
          clear HS HB HH g0 g1 g2 hrd2 hlt hle hf
          go_wp2_with fail
          go_roundw
          case rel => exact ⟨k + 1, by go_num, R2⟩
          case measure => simp [intOf]; omega
        · have hkz : ¬ (k : Int) < (n : Int) := by omega
          clear HRh HOS
          go_wp2_with fail
          refine (awake_true _).mono ?_
          rintro e w2 ⟨rfl, B2⟩
          have H2 := HH.below B2
          have HB2 := below_then HB HB.size B2
          clear HH HB B2
          go_wp2_with fail
          refine (step_other w2 _ _ _ v all pos once gone limit H2 0 (by omega) (by omega) (by omega) (by omega) 0 _ none 0 0 rfl).mono ?_
          rintro e w3 ⟨rfl, HS⟩
          obtain ⟨_, _, _, _, _, _, HB3⟩ := RunsRel.step HS HB2
          clear HS HB2 H2
          go_wp2_with fail
          go_ret
          exact ⟨rfl, HB3⟩

theorem ChunkRuns_walk (w : World) (limit : Int) (_wl : (Lit.int .i64 limit).wf = true) (A : Option Addr) (n c : Nat) (os : Nat → OpV) (HR : OpsRead w A n os) (hn : n ≤ 140737488351232) :
    Calls Try.prog 3 #[.int .i64 limit, .slice A n c] w fun e w' => e = .returned (.bool true) ∧ Below w.heap.size w w' := runs_walk w limit A n c os HR hn
end Go.Proofs.Yticcfpbeejakhaa
