/- A slice of slices of bytes that came in. -/
import Derived.Test.YtimfabbielphbaaDoorWo
import Derived.ProofKit
import Derived.OpenShut
import Derived.SizedLaws
import Derived.Deep.Slices
namespace Go.Proofs.YtimfabbielphbaaDoor
open Go.ChangeShapes Go.WideShapes Go.ChangeAt Go.RowKit Go.Proofs.YtimfabbielphbaaDoorW.PrintWords Go.Proofs.YtimfabbielphbaaDoorW.PrintMore
set_option linter.unusedVariables false
set_option linter.unusedSimpArgs false

theorem Tryd.cells5 : Tryd.prog.cellsOf 5 = 1 := by kernel_rfl
theorem Tryd.cells35 : Tryd.prog.cellsOf 35 = 1 := by kernel_rfl
theorem Tryd.bytes5 : Tryd.prog.bytesOf 5 = 1 := by kernel_rfl
theorem bytes_eq (l : List Int) (h : ∀ n ∈ l, (Lit.int .u8 n).wf = true) : l = (l.map fun n => UInt8.ofNat n.toNat).map fun x => (x.toNat : Int) := by
  rw [List.map_map]
  conv => lhs; rw [← List.map_id l]
  apply List.map_congr_left
  intro n hn
  have := h n hn
  have hb : 0 ≤ n ∧ n ≤ 255 := by simpa [Lit.wf, IntKind.min, IntKind.max, IntKind.signed, IntKind.bits] using this
  simp; omega

section
variable {H : Type} {enc : TypeId × Value → H} {W : World}

/-- A slice of bytes that came in. -/
theorem open_bytes {fuel : Nat} {u : Value} {y : DataW H × List MemPlace} (h : DataW.trod enc Tryd.prog W 0 (fun _ => true) true fuel 35 [u] = some y) (hw : ∀ q ∈ y.1.weights Tryd.prog 35, q ≤ reachBytes) :
    ∃ r : Option Addr × Nat × Nat × List UInt8, u = .slice r.1 r.2.1 r.2.2.1 ∧ ReadsInt W .u8 r.1 r.2.1 (r.2.2.2.map fun x => (x.toNat : Int)) ∧ r.2.1 ≤ r.2.2.1 ∧ r.2.1 ≤ 281474976710656 := by
  rcases open_ints Tryd.underlying35 Tryd.underlying5 Tryd.cells5 h with ⟨hcs, _⟩ | ⟨a, len, cap, zs, hcs, _, hl, hm, hz, rfl, hcell, hwz⟩
  · injection hcs with hcs
    subst hcs
    exact ⟨(none, 0, 0, []), rfl, ReadsInt.nil _ _, Nat.le_refl _, Nat.zero_le _⟩
  · injection hcs with hcs
    subst hcs
    simp only [if_true] at hz
    have hq := hw ((lits (H := H) .u8 (zs.take len)).length + (lits (H := H) .u8 (zs.drop len)).length) (by simp [DataW.weights, Tryd.underlying35, Tryd.bytes5])
    have hlen : (lits (H := H) .u8 (zs.take len)).length + (lits (H := H) .u8 (zs.drop len)).length = zs.length := by simp [lits]; omega
    rw [hlen, hz] at hq
    have hr : reachBytes = 140737488351232 := rfl
    refine ⟨(some a, len, cap, (zs.take len).map fun n => UInt8.ofNat n.toNat), rfl, ?_, hl, by simp only []; omega⟩
    rw [← bytes_eq _ (fun n hn => hwz n (List.mem_of_mem_take hn))]
    refine ⟨by rw [List.length_take]; simp only []; omega, by simp only [maxLen] at hm; simp only []; omega, fun _ => ⟨a, rfl, fun j hj => ?_⟩⟩
    simp only at hj
    rw [hcell j (by omega)]
    simp [List.getD_eq_getElem?_getD, List.getElem?_take, hj]

theorem open_rows {a : Option Addr} {len cap : Nat} {d : DataW H} {ps : List MemPlace} (h : DataW.Trod enc Tryd.prog W 0 (fun _ => true) true 32 (.slice a len cap) d ps) (hw : ∀ q ∈ d.weights Tryd.prog 32, q ≤ reachBytes) :
    ∃ (B : Nat → Option Addr) (L C : Nat → Nat) (X : Nat → List UInt8), RowsRead W a len B L C X := by
  obtain ⟨fuel, hf⟩ := h
  rcases Deep.open_slice Tryd.underlying32 hf with ⟨hcs, _⟩ | ⟨ad, l, c, m, n, D, Pl, hcs, _, hl, hm, hmm, hx, hel⟩
  · simp [Value.cells] at hcs
    obtain ⟨rfl, rfl, rfl⟩ := hcs
    exact ⟨fun _ => none, fun _ => 0, fun _ => 0, fun _ => [], fun i hi => by omega⟩
  · simp [Value.cells] at hcs
    obtain ⟨rfl, rfl, rfl⟩ := hcs
    obtain ⟨hx, _⟩ := Prod.mk.inj hx
    subst hx
    simp only [if_true] at hmm
    subst hmm
    have hop : ∀ i, i < len → ∃ r : Option Addr × Nat × Nat × List UInt8, W.cell? (ad.add i) = some (.slice r.1 r.2.1 r.2.2.1) ∧ ReadsInt W .u8 r.1 r.2.1 (r.2.2.2.map fun x => (x.toNat : Int)) ∧ r.2.1 ≤ r.2.2.1 ∧ r.2.1 ≤ 281474976710656 := by
      intro i hi
      obtain ⟨cs, h1, h2⟩ := hel i (by omega)
      rw [Tryd.cells35, Nat.mul_one] at h1
      obtain ⟨_, hlen, hc⟩ := World.cells?_some h1
      match cs, hlen with
      | [u], _ =>
        obtain ⟨r, hu, hr, hlc, hb⟩ := open_bytes h2 (fun q hq => hw q (by
          simp only [DataW.weights, Tryd.underlying32, List.mem_cons, List.mem_append]
          refine .inr (.inl ?_)
          have : ∀ (l : List (DataW H)) (d : DataW H), d ∈ l → ∀ q ∈ d.weights Tryd.prog 35, q ∈ DataW.weightsAll Tryd.prog 35 l := by
            intro l d hd q hq
            induction l with
            | nil => simp at hd
            | cons x r ih =>
              simp only [DataW.weightsAll, List.mem_append]
              rcases List.mem_cons.1 hd with rfl | hd
              · exact .inl hq
              · exact .inr (ih hd)
          exact this _ (D i) (by simp; exact ⟨i, hi, rfl⟩) q hq))
        have q0 := hc 0 (by omega)
        subst hu
        exact ⟨r, by simpa [Addr.add] using q0, hr, hlc, hb⟩
    let F : Nat → Option Addr × Nat × Nat × List UInt8 := fun i => if hi : i < len then (hop i hi).choose else (none, 0, 0, [])
    refine ⟨fun i => (F i).1, fun i => (F i).2.1, fun i => (F i).2.2.1, fun i => (F i).2.2.2, fun i hi => ?_⟩
    have e : F i = (hop i hi).choose := by simp only [F, hi, dif_pos]
    obtain ⟨h1, h2, h3, h4⟩ := (hop i hi).choose_spec
    rw [← e] at h1 h2 h3 h4
    exact ⟨ad, rfl, h1, h2, h3, h4⟩
end
theorem weights_of {H : Type} {P : Program} {ts : List TypeId} {ds : List (DataW H)} (h : (DataW.weightsEach P ts ds).all (· ≤ reachBytes) = true) {j : Nat} {t : TypeId} {d : DataW H} (ht : ts[j]? = some t) (hd : ds[j]? = some d) : ∀ q ∈ d.weights P t, q ≤ reachBytes := fun q hq => by
  have := List.all_eq_true.1 h q (DataW.weights_mem_each ht hd q hq)
  simpa using this
end Go.Proofs.YtimfabbielphbaaDoor
