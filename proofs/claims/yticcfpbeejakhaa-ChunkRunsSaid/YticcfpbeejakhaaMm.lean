/- The calls of a script as data that came in; large, walked. -/
import Derived.Test.YticcfpbeejakhaaMi
import Derived.ProofKit
import Derived.OpenShut
import Derived.SizedLaws
import Derived.Deep.Slices
import Derived.Deep.Strs
import Derived.Lib.SmallJoins
namespace Go.Proofs.Yticcfpbeejakhaa
open Go.ChangeShapes Go.WideShapes Go.ChangeAt Go.RowKit Go.Proofs.YticcfpbeejakhaaW.PrintWords Go.Proofs.YticcfpbeejakhaaW.PrintMore
set_option linter.unusedVariables false
set_option linter.unusedSimpArgs false

/-- A call of a script. -/
structure OpV where
  kind : Int
  n : Int
  A : Option Addr
  len : Nat
  cap : Nat
  l : List Int

/-- Its three cells, and what its bytes read as. -/
structure OpIs (w : World) (cs : List Value) (o : OpV) : Prop where
  cells : cs = [.int .i64 o.kind, .int .i64 o.n, .slice o.A o.len o.cap]
  reads : ReadsInt w .u8 o.A o.len o.l
  room : o.len ≤ o.cap
  fits : o.len ≤ 140737488351232

theorem Try.cells35 : Try.prog.cellsOf 35 = 3 := by kernel_rfl
theorem Try.cells3 : Try.prog.cellsOf 3 = 1 := by kernel_rfl
theorem Try.cells33 : Try.prog.cellsOf 33 = 1 := by kernel_rfl
theorem Try.cells5 : Try.prog.cellsOf 5 = 1 := by kernel_rfl
theorem Try.bytes5 : Try.prog.bytesOf 5 = 1 := by kernel_rfl

section
variable {H : Type} {enc : TypeId × Value → H} {W : World}

/-- A slice of bytes that came in. -/
theorem open_bytes {fuel : Nat} {u : Value} {y : DataW H × List MemPlace} (h : DataW.trod enc Try.prog W 0 (fun _ => true) true fuel 33 [u] = some y) (hw : ∀ q ∈ y.1.weights Try.prog 33, q ≤ reachBytes) :
    ∃ (A : Option Addr) (len cap : Nat) (l : List Int), u = .slice A len cap ∧ ReadsInt W .u8 A len l ∧ len ≤ cap ∧ len ≤ 140737488351232 := by
  rcases open_ints Try.underlying33 Try.underlying5 Try.cells5 h with ⟨hcs, _⟩ | ⟨a, len, cap, zs, hcs, _, hl, hm, hz, rfl, hcell, _⟩
  · injection hcs with hcs
    subst hcs
    exact ⟨none, 0, 0, [], rfl, ReadsInt.nil _ _, Nat.le_refl _, by omega⟩
  · injection hcs with hcs
    subst hcs
    simp only [if_true] at hz
    have hq := hw ((lits (H := H) .u8 (zs.take len)).length + (lits (H := H) .u8 (zs.drop len)).length) (by simp [DataW.weights, Try.underlying33, Try.bytes5])
    have hlen : (lits (H := H) .u8 (zs.take len)).length + (lits (H := H) .u8 (zs.drop len)).length = zs.length := by simp [lits]; omega
    rw [hlen, hz] at hq
    have hr : reachBytes = 140737488351232 := rfl
    refine ⟨some a, len, cap, zs.take len, rfl, ⟨by rw [List.length_take]; omega, by simp only [maxLen] at hm; omega, fun _ => ⟨a, rfl, fun j hj => ?_⟩⟩, hl, by omega⟩
    rw [hcell j (by omega)]
    simp [List.getD_eq_getElem?_getD, List.getElem?_take, hj]

/-- A call that came in. -/
theorem open_op {fuel : Nat} {cs : List Value} {y : DataW H × List MemPlace} (h : DataW.trod enc Try.prog W 0 (fun _ => true) true fuel 35 cs = some y) (hw : ∀ q ∈ y.1.weights Try.prog 35, q ≤ reachBytes) :
    ∃ o : OpV, OpIs W cs o := by
  obtain ⟨y0, y1, y2, n, rfl, hlen, h0, h1, h2⟩ := Deep.trod_struct3 Try.underlying35 h
  rw [Try.cells35] at hlen
  match cs, hlen with
  | [c0, c1, c2], _ =>
    have e0 : DataW.trod enc Try.prog W 0 (fun _ => true) true n 3 [c0] = some y0 := by simpa [Try.cells3] using h0
    have e1 : DataW.trod enc Try.prog W 0 (fun _ => true) true n 3 [c1] = some y1 := by simpa [Try.cells3] using h1
    have e2 : DataW.trod enc Try.prog W 0 (fun _ => true) true n 33 [c2] = some y2 := by simpa [Try.cells33] using h2
    obtain ⟨k, hk, _, _⟩ := DataW.trod_int Try.underlying3 e0
    obtain ⟨m, hm, _, _⟩ := DataW.trod_int Try.underlying3 e1
    injection hk with hk
    injection hm with hm
    obtain ⟨A, len, cap, l, hc, hr, hl, hf⟩ := open_bytes e2 (fun q hq => hw q (by
      simp [DataW.weights, Try.underlying35, DataW.weightsEach]
      exact .inr (.inr hq)))
    exact ⟨⟨k, m, A, len, cap, l⟩, by rw [hk, hm, hc], hr, hl, hf⟩

/-- A script: where its calls lie, and what they read as. -/
def OpsRead (w : World) (A : Option Addr) (n : Nat) (os : Nat → OpV) : Prop :=
  ∀ i, i < n → ∃ ad, A = some ad ∧ w.cell? (ad.add (i * 3)) = some (.int .i64 (os i).kind) ∧ w.cell? ⟨(ad.add (i * 3)).block, (ad.add (i * 3)).off + 1, none⟩ = some (.int .i64 (os i).n) ∧
    w.cell? ⟨(ad.add (i * 3)).block, (ad.add (i * 3)).off + 2, none⟩ = some (.slice (os i).A (os i).len (os i).cap) ∧ ReadsInt w .u8 (os i).A (os i).len (os i).l ∧ (os i).len ≤ 140737488351232

theorem open_ops {a : Option Addr} {len cap : Nat} {d : DataW H} {ps : List MemPlace} (h : DataW.Trod enc Try.prog W 0 (fun _ => true) true 22 (.slice a len cap) d ps) (hw : ∀ q ∈ d.weights Try.prog 22, q ≤ reachBytes) :
    ∃ os : Nat → OpV, OpsRead W a len os ∧ len ≤ 140737488351232 := by
  obtain ⟨fuel, hf⟩ := h
  rcases Deep.open_slice Try.underlying22 hf with ⟨hcs, _⟩ | ⟨ad, l, c, m, n, D, Pl, hcs, _, hl, hm, hmm, hx, hel⟩
  · simp [Value.cells] at hcs
    obtain ⟨rfl, rfl, rfl⟩ := hcs
    exact ⟨fun _ => ⟨0, 0, none, 0, 0, []⟩, fun i hi => by omega, by omega⟩
  · simp [Value.cells] at hcs
    obtain ⟨rfl, rfl, rfl⟩ := hcs
    obtain ⟨hx, _⟩ := Prod.mk.inj hx
    subst hx
    simp only [if_true] at hmm
    subst hmm
    have hr : reachBytes = 140737488351232 := rfl
    have hq : len ≤ 140737488351232 := by
      have := hw ((((List.range len).map D).length + ((List.range (m - len)).map fun j => D (len + j)).length) * Try.prog.bytesOf 35) (by simp [DataW.weights, Try.underlying22])
      have hb : Try.prog.bytesOf 35 = 40 := by kernel_rfl
      rw [hb] at this
      simp at this
      omega
    have hop : ∀ i, i < len → ∃ o : OpV, ∃ cs, W.cells? 0 (ad.add (i * 3)) 3 = some cs ∧ OpIs W cs o := by
      intro i hi
      obtain ⟨cs, h1, h2⟩ := hel i (by omega)
      rw [Try.cells35] at h1
      obtain ⟨o, ho⟩ := open_op h2 (fun q hq => hw q (by
        simp only [DataW.weights, Try.underlying22, List.mem_cons, List.mem_append]
        refine .inr (.inl ?_)
        have : ∀ (l : List (DataW H)) (d : DataW H), d ∈ l → ∀ q ∈ d.weights Try.prog 35, q ∈ DataW.weightsAll Try.prog 35 l := by
          intro l d hd q hq
          induction l with
          | nil => simp at hd
          | cons x r ih =>
            simp only [DataW.weightsAll, List.mem_append]
            rcases List.mem_cons.1 hd with rfl | hd
            · exact .inl hq
            · exact .inr (ih hd)
        exact this _ (D i) (by simp; exact ⟨i, hi, rfl⟩) q hq))
      exact ⟨o, cs, h1, ho⟩
    refine ⟨fun i => if hi : i < len then (hop i hi).choose else ⟨0, 0, none, 0, 0, []⟩, fun i hi => ?_, hq⟩
    simp only [hi, dif_pos]
    obtain ⟨cs, h1, h2⟩ := (hop i hi).choose_spec
    generalize (hop i hi).choose = o at h2
    obtain ⟨_, hlen, hc⟩ := World.cells?_some h1
    have hcs := h2.cells
    subst hcs
    have q0 := hc 0 (by omega)
    have q1 := hc 1 (by omega)
    have q2 := hc 2 (by omega)
    have ea : ∀ j, 0 < j → (ad.add (i * 3)).add j = ⟨(ad.add (i * 3)).block, (ad.add (i * 3)).off + j, none⟩ := fun j hj => by
      unfold Addr.add
      simp [Nat.ne_of_gt hj]
    rw [ea 1 (by omega)] at q1
    rw [ea 2 (by omega)] at q2
    exact ⟨ad, rfl, by simpa [Addr.add] using q0, q1, q2, h2.reads, h2.fits⟩
end

def LargeSaid (n : Nat) (os : Nat → OpV) (e : Ending) : Prop := ∃ r : Bool, e = .returned (.bool r) ∧ (r = false → n ≤ 2000 ∧ ∀ i, i < n → (os i).len ≤ 131072)

def LargeRel (n : Nat) (os : Nat → OpV) (k s : Nat) : Prop := k ≤ n ∧ n ≤ s ∧ s ≤ 1000000000000000 ∧ ∀ i, i < k → (os i).len ≤ s
theorem LargeRel.step {n k s : Nat} {os : Nat → OpV} (h : LargeRel n os k s) (hk : k < n) (hs : s ≤ 131072) (hl : (os k).len ≤ 140737488351232) : LargeRel n os (k + 1) (s + (os k).len) := by
  obtain ⟨h1, h2, h3, h4⟩ := h
  refine ⟨hk, by omega, by omega, fun i hi => ?_⟩
  by_cases e : i = k
  · subst e; omega
  · have := h4 i (by omega); omega
theorem LargeRel.done {n k s : Nat} {os : Nat → OpV} (h : LargeRel n os k s) (hk : ¬ k < n) (hs : s ≤ 131072) (hn : n ≤ 2000) : n ≤ 2000 ∧ ∀ i, i < n → (os i).len ≤ 131072 := by
  obtain ⟨h1, h2, h3, h4⟩ := h
  exact ⟨hn, fun i hi => Nat.le_trans (h4 i (by omega)) hs⟩

set_option maxHeartbeats 400000 in
set_option maxRecDepth 100000 in
theorem large_any (w : World) (A : Option Addr) (n c : Nat) (os : Nat → OpV) (HR : OpsRead w A n os) (hn : n ≤ 140737488351232) :
    Calls Try.prog 7 #[.slice A n c] w fun e w' => LargeSaid n os e ∧ w = w' := by
  have R0 : LargeRel n os 0 n := ⟨by omega, by omega, by omega, fun i hi => by omega⟩
  have HRh := Lib.hid HR
  clear HR
  go_enter Try.func7, Try.ntmps7
  go_wp2
  go_loop [3, 4] (fun s i => ∃ (k s' : Nat), i = .int .i64 k ∧ s = .int .i64 s' ∧ LargeRel n os k s') (fun _ i => n - (intOf i).toNat)
  case atStart => exact ⟨0, n, rfl, rfl, R0⟩
  case round =>
    obtain ⟨k, s, rfl, rfl, R⟩ := hrel
    clear R0
    have hsb := R.2.2.1
    by_cases hk : k < n
    · have hkz : (k : Int) < (n : Int) := by omega
      by_cases hs : s ≤ 131072
      · have hd : decide ((s : Int) ≤ 131072) = true := decide_eq_true (by omega)
        obtain ⟨ad, rfl, _, _, hc, _, hl⟩ := HRh.out k hk
        have R2 := R.step hk hs hl
        generalize (os k).A = A2 at hc
        generalize (os k).cap = c2 at hc
        obtain ⟨l2, hl2⟩ : ∃ l2, (os k).len = l2 := ⟨_, rfl⟩
        rw [hl2] at hc R2 hl
        clear hl2
        go_wp2
        go_round
        case rel => exact ⟨k + 1, s + l2, by go_num, by go_num, R2⟩
        case measure => simp [intOf]; omega
      · have hd : decide ((s : Int) ≤ 131072) = false := decide_eq_false (by omega)
        have hd2 : decide ((131072 : Int) < (s : Int)) = true := decide_eq_true (by omega)
        go_wp2
        go_ret
        exact ⟨⟨true, rfl, fun h => by cases h⟩, rfl⟩
    · have hkz : ¬ (k : Int) < (n : Int) := by omega
      by_cases hs : s ≤ 131072
      · have hd2 : decide ((131072 : Int) < (s : Int)) = false := decide_eq_false (by omega)
        by_cases hn2 : n ≤ 2000
        · have hd3 : decide ((2000 : Int) < (n : Int)) = false := decide_eq_false (by omega)
          go_wp2
          go_ret
          exact ⟨⟨false, rfl, fun _ => R.done hk hs hn2⟩, rfl⟩
        · have hd3 : decide ((2000 : Int) < (n : Int)) = true := decide_eq_true (by omega)
          go_wp2
          go_ret
          exact ⟨⟨true, rfl, fun h => by cases h⟩, rfl⟩
      · have hd2 : decide ((131072 : Int) < (s : Int)) = true := decide_eq_true (by omega)
        go_wp2
        go_ret
        exact ⟨⟨true, rfl, fun h => by cases h⟩, rfl⟩
end Go.Proofs.Yticcfpbeejakhaa
