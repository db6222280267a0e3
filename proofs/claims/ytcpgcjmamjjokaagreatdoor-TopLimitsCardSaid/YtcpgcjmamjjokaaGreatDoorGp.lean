/- A value that came in: the tree that it reads as. What the laid variables hold, for TopLimits. -/
import Derived.Test.YtcpgcjmamjjokaaGreatDoorGo
import Derived.ProofKit
import Derived.OpenShut
import Derived.SizedLaws
import Derived.Deep.Slices
import Derived.Deep.Strs
import Derived.Lib.SmallJoins
import Derived.Test.YtcpgcjmamjjokaaGreatDoorRows
import Derived.Lib.LaidTab
import Derived.Lib.LaidIn
import Derived.Lib.LaidU8T
import Derived.PinnedBridge
import Derived.Stop.LaidErr
namespace Go.Proofs.YtcpgcjmamjjokaaGreatDoor
open Go.ChangeShapes Go.WideShapes Go.ChangeAt Go.RowKit Go.Maps Go.Proofs.YtcpgcjmamjjokaaGreatDoorW.PrintWords Go.Proofs.YtcpgcjmamjjokaaGreatDoorW.PrintMore Go.Proofs.YtcpgcjmamjjokaaGreatDoor.PTopLimits
set_option linter.unusedVariables false
set_option linter.unusedSimpArgs false
theorem cellsV36 : Tryz.prog.cellsOf 36 = 9 := by kernel_rfl
theorem cellsV32 : Tryz.prog.cellsOf 32 = 3 := by kernel_rfl
theorem cellsV30 : Tryz.prog.cellsOf 30 = 1 := by kernel_rfl
theorem cellsV4 : Tryz.prog.cellsOf 4 = 1 := by kernel_rfl
theorem cellsV3 : Tryz.prog.cellsOf 3 = 1 := by kernel_rfl
theorem cellsV33 : Tryz.prog.cellsOf 33 = 1 := by kernel_rfl
theorem cellsV9 : Tryz.prog.cellsOf 9 = 1 := by kernel_rfl
theorem cellsV28 : Tryz.prog.cellsOf 28 = 1 := by kernel_rfl
theorem cellsV34 : Tryz.prog.cellsOf 34 = 1 := by kernel_rfl
theorem bytesV9 : Tryz.prog.bytesOf 9 = 16 := by kernel_rfl
theorem bytesV36 : Tryz.prog.bytesOf 36 = 120 := by kernel_rfl
theorem list_of {α : Type} {P : Nat → α → Prop} : ∀ n, (∀ i, i < n → ∃ x, P i x) → ∃ l : List α, l.length = n ∧ ∀ j p, l[j]? = some p → P j p := by
  intro n
  induction n with
  | zero => exact fun _ => ⟨[], rfl, fun j p h => by simp at h⟩
  | succ n ih =>
    intro h
    obtain ⟨l, hl, hp⟩ := ih (fun i hi => h i (by omega))
    obtain ⟨x, hx⟩ := h n (by omega)
    refine ⟨l ++ [x], by simp [hl], fun j p hj => ?_⟩
    rcases Nat.lt_or_ge j n with hjn | hjn
    · rw [List.getElem?_append_left (by omega)] at hj
      exact hp j p hj
    · rw [List.getElem?_append_right (by omega)] at hj
      have hj0 : j = n := by
        have := (List.getElem?_eq_some_iff.1 hj).1
        simp at this
        omega
      subst hj0
      simp [hl] at hj
      subst hj
      exact hx
section
variable {H : Type} {enc : TypeId × Value → H} {W : World}
theorem weight_elem {e : TypeId} : ∀ (l : List (DataW H)) (d : DataW H), d ∈ l → ∀ q ∈ d.weights Tryz.prog e, q ∈ DataW.weightsAll Tryz.prog e l := by
  intro l d hd q hq
  induction l with
  | nil => simp at hd
  | cons x r ih =>
    simp only [DataW.weightsAll, List.mem_append]
    rcases List.mem_cons.1 hd with rfl | hd
    · exact .inl hq
    · exact .inr (ih hd)
/-- A slice that came in, of elements of a kind. -/
theorem open_row {α : Type} (d : Kd α) (Q : α → Prop) {t e : TypeId} (ht : Tryz.prog.underlying t = some (.slice e)) (hc : Tryz.prog.cellsOf e = d.sz) (hb : 1 ≤ Tryz.prog.bytesOf e) {fuel : Nat} {u : Value} {y : DataW H × List MemPlace}
    (h : DataW.trod enc Tryz.prog W 0 (fun _ => true) true fuel t [u] = some y) (hw : ∀ q ∈ y.1.weights Tryz.prog t, q ≤ reachBytes)
    (hop : ∀ n, n < fuel → ∀ cs z, DataW.trod enc Tryz.prog W 0 (fun _ => true) true n e cs = some z → (∀ q ∈ z.1.weights Tryz.prog e, q ≤ reachBytes) → ∃ x, Q x ∧ d.K W x cs) :
    ∃ (A : Option Addr) (c : Nat) (l : List α), u = .slice A l.length c ∧ d.C W A l.length l ∧ l.length ≤ c ∧ l.length ≤ 140737488351232 ∧ ∀ x ∈ l, Q x := by
  rcases DataW.trod_slice ht h with ⟨hcs, _⟩ | ⟨a, len, cap, elems, rest, n, hf, hcs, rfl, _, hl, hm, hlen, hel, hsp, _⟩
  · injection hcs with hcs
    exact ⟨none, 0, [], hcs, ⟨rfl, by show 0 ≤ _; omega, fun h => by simp at h⟩, Nat.le_refl _, by simp, fun x hx => by cases hx⟩
  · injection hcs with hcs
    subst hcs
    have hr : reachBytes = 140737488351232 := rfl
    have hq : len ≤ 140737488351232 := by
      have h1 := hw (((elems.map (·.1)).length + (rest.map (·.1)).length) * Tryz.prog.bytesOf e) (by simp [DataW.weights, ht])
      simp only [List.length_map, hlen] at h1
      have h2 : len * 1 ≤ (len + rest.length) * Tryz.prog.bytesOf e := Nat.mul_le_mul (by omega) hb
      omega
    have hx : ∀ i, i < len → ∃ x, Q x ∧ ∃ c, c.length = d.sz ∧ d.K W x c ∧ ∀ k u, c[k]? = some u → W.cell? (a.add (i * d.sz + k)) = some u := by
      intro i hi
      have h1 := hel i hi
      obtain ⟨z, hz⟩ : ∃ z, elems[i]? = some z := ⟨_, List.getElem?_eq_getElem (by omega)⟩
      rw [hz] at h1
      obtain ⟨cs, hcs, htr⟩ := Option.bind_eq_some_iff.1 h1
      obtain ⟨_, hcl, hcell⟩ := World.cells?_some hcs
      obtain ⟨x, hQ, hK⟩ := hop n (by omega) cs z htr (fun q hq => hw q (by
        simp only [DataW.weights, ht, List.mem_cons, List.mem_append]
        refine .inr (.inl (weight_elem _ z.1 ?_ q hq))
        exact List.mem_map.2 ⟨z, List.mem_of_getElem? hz, rfl⟩))
      refine ⟨x, hQ, cs, by rw [hcl, hc], hK, fun k u hk => ?_⟩
      have hkl : k < Tryz.prog.cellsOf e := by rw [← hcl]; exact (List.getElem?_eq_some_iff.1 hk).1
      have h2 := hcell k hkl
      rw [hk, hc, Addr.add_add] at h2
      exact h2
    obtain ⟨l, hll, hp⟩ := list_of len hx
    refine ⟨some a, cap, l, by rw [hll], ⟨rfl, by rw [hll]; omega, fun _ => ⟨a, rfl, fun j p hj => (hp j p hj).2⟩⟩, by omega, by omega, fun x hx => ?_⟩
    obtain ⟨j, hj⟩ := List.mem_iff_getElem?.1 hx
    exact (hp j x hj).1
theorem open_str {fuel : Nat} {cs : List Value} {y : DataW H × List MemPlace} (h : DataW.trod enc Tryz.prog W 0 (fun _ => true) true fuel 9 cs = some y) (hw : ∀ q ∈ y.1.weights Tryz.prog 9, q ≤ reachBytes) :
    ∃ s : ByteArray, cs = [.string s] ∧ s.size ≤ 140737488351232 := by
  obtain ⟨s, rfl, rfl, _⟩ := DataW.trod_string Tryz.underlying9 h
  have h1 := hw s.data.toList.length (by simp [DataW.weights])
  have hr : reachBytes = 140737488351232 := rfl
  refine ⟨s, rfl, ?_⟩
  rw [Lib.size_eq]
  omega
theorem weights_agg {t : TypeId} {fs : Array Field} (ht : Tryz.prog.underlying t = some (.struct fs)) {xs : List (DataW H × List MemPlace)} {i : Nat} {f : Field} {z : DataW H × List MemPlace} (hf : fs[i]? = some f) (hz : xs[i]? = some z) :
    ∀ q ∈ z.1.weights Tryz.prog f.type, q ∈ (DataW.agg (xs.map (·.1))).weights Tryz.prog t := by
  intro q hq
  simp only [DataW.weights, ht]
  refine DataW.weights_mem_each (j := i) (t := f.type) (d := z.1) ?_ ?_ q hq
  · rw [List.getElem?_map, Array.getElem?_toList, hf]; rfl
  · rw [List.getElem?_map, hz]; rfl
set_option maxRecDepth 100000 in
theorem open_num {fuel : Nat} {cs : List Value} {y : DataW H × List MemPlace} (h : DataW.trod enc Tryz.prog W 0 (fun _ => true) true fuel 32 cs = some y) (hw : ∀ q ∈ y.1.weights Tryz.prog 32, q ≤ reachBytes) :
    ∃ x : S32, cs = [.bool x.f0, .string x.f1, .int .i64 x.f2] ∧ x.f1.size ≤ 140737488351232 := by
  obtain ⟨xs, n, _, rfl, hlen, hxl, hf⟩ := DataW.trod_struct Tryz.underlying32 h
  rw [cellsV32] at hlen
  have hxl : xs.length = 3 := hxl
  match cs, hlen, xs, hxl with
  | [c0, c1, c2], _, [y0, y1, y2], _ =>
    have e0 := hf 0 _ rfl
    have e1 := hf 1 _ rfl
    have e2 := hf 2 _ rfl
    simp [cellsV4, cellsV9, cellsV3] at e0 e1 e2
    obtain ⟨b, hb, _⟩ := DataW.trod_bool Tryz.underlying4 e0
    obtain ⟨s, hs, hsz⟩ := open_str e1 (fun q hq => hw q (weights_agg Tryz.underlying32 (i := 1) rfl rfl q hq))
    obtain ⟨k, hk, _⟩ := DataW.trod_int Tryz.underlying3 e2
    injection hb with hb
    injection hs with hs
    injection hk with hk
    exact ⟨⟨b, s, k⟩, by rw [hb, hs, hk], hsz⟩
set_option maxRecDepth 100000 in
theorem open_value : ∀ (fuel : Nat) (cs : List Value) (y : DataW H × List MemPlace), DataW.trod enc Tryz.prog W 0 (fun _ => true) true fuel 36 cs = some y → (∀ q ∈ y.1.weights Tryz.prog 36, q ≤ reachBytes) →
    ∃ (x : S36) (A : Option Addr) (c : Nat) (B : Option Addr) (d : Nat), Fit x ∧ VR W x A c B d ∧ cs = [.int .i64 x.f0, .bool x.f1, .bool x.f2.f0, .string x.f2.f1, .int .i64 x.f2.f2, .int .u64 x.f3, .string x.f4, .slice A x.f5.length c, .slice B x.f6.length d] := by
  intro fuel
  induction fuel using Nat.strongRecOn with
  | _ fuel ih =>
    intro cs y h hw
    obtain ⟨xs, n, hn, rfl, hlen, hxl, hf⟩ := DataW.trod_struct Tryz.underlying36 h
    rw [cellsV36] at hlen
    have hxl : xs.length = 7 := hxl
    match cs, hlen, xs, hxl with
    | [c0, c1, c2, c3, c4, c5, c6, c7, c8], _, [y0, y1, y2, y3, y4, y5, y6], _ =>
      have e0 := hf 0 _ rfl
      have e1 := hf 1 _ rfl
      have e2 := hf 2 _ rfl
      have e3 := hf 3 _ rfl
      have e4 := hf 4 _ rfl
      have e5 := hf 5 _ rfl
      have e6 := hf 6 _ rfl
      simp [cellsV30, cellsV4, cellsV32, cellsV33, cellsV9, cellsV28, cellsV34] at e0 e1 e2 e3 e4 e5 e6
      obtain ⟨k, hk, _⟩ := DataW.trod_int Tryz.underlying30 e0
      obtain ⟨b, hb, _⟩ := DataW.trod_bool Tryz.underlying4 e1
      obtain ⟨m, hm, hmz⟩ := open_num e2 (fun q hq => hw q (weights_agg Tryz.underlying36 (i := 2) rfl rfl q hq))
      obtain ⟨v, hv, _⟩ := DataW.trod_int Tryz.underlying33 e3
      obtain ⟨s, hs, hsz⟩ := open_str e4 (fun q hq => hw q (weights_agg Tryz.underlying36 (i := 4) rfl rfl q hq))
      obtain ⟨A, c, ns, hns, hC, hc, hnl, hnq⟩ := open_row Kd.string (fun s => s.size ≤ 140737488351232) Tryz.underlying28 (by rw [cellsV9]; rfl) (by rw [bytesV9]; omega) e5 (fun q hq => hw q (weights_agg Tryz.underlying36 (i := 5) rfl rfl q hq)) (fun n' _ cs z hz hwz => by
        obtain ⟨s, rfl, h1⟩ := open_str hz hwz
        exact ⟨s, h1, rfl⟩)
      obtain ⟨B, d, ls, hls, hD, hd, hll, hlq⟩ := open_row k36 Fit Tryz.underlying34 (by rw [cellsV36]; rfl) (by rw [bytesV36]; omega) e6 (fun q hq => hw q (weights_agg Tryz.underlying36 (i := 6) rfl rfl q hq)) (fun n' hn' cs z hz hwz => by
        obtain ⟨x, A, c, B, d, hF, hV, rfl⟩ := ih n' (by omega) cs z hz hwz
        exact ⟨x, hF, k36_mk W x hV.cn hV.n hV.cl hV.l⟩)
      injection hk with hk
      injection hb with hb
      injection hv with hv
      injection hs with hs
      injection hm with hm0 hm
      injection hm with hm1 hm
      injection hm with hm2 _
      refine ⟨⟨k, b, m, v, s, ns, ls⟩, A, c, B, d, .mk _ hmz hsz hnl hnq hll hlq, ⟨hC, hc, hD, hd⟩, ?_⟩
      rw [hk, hb, hv, hs, hm0, hm1, hm2, hns, hls]
theorem agg_cells (cs : Array Value) : (Value.agg cs).cells.toList = cs.toList := by simp [Value.cells]
set_option maxRecDepth 100000 in
theorem open_value_val {r : Reach} {b0 : Nat} {v : Value} {d : DataW H} {ps : List MemPlace} (hv : Value.okWide Tryz.prog W r b0 36 v)
    (h : DataW.Trod enc Tryz.prog W 0 (fun _ => true) true 36 v d ps) (hw : ∀ q ∈ d.weights Tryz.prog 36, q ≤ reachBytes) :
    ∃ (x : S36) (A : Option Addr) (c : Nat) (B : Option Addr) (e : Nat), Fit x ∧ VR W x A c B e ∧ v = vV x A c B e := by
  obtain ⟨cs, rfl, hsz⟩ := okWide_struct Tryz.underlying36 hv
  obtain ⟨fuel, hf⟩ := h
  obtain ⟨x, A, c, B, e, h1, h2, h3⟩ := open_value fuel _ _ hf hw
  rw [agg_cells] at h3
  refine ⟨x, A, c, B, e, h1, h2, ?_⟩
  unfold vV
  rw [show cs = #[.int .i64 x.f0, .bool x.f1, .bool x.f2.f0, .string x.f2.f1, .int .i64 x.f2.f2, .int .u64 x.f3, .string x.f4, .slice A x.f5.length c, .slice B x.f6.length e] from Array.toList_inj.1 h3]
theorem weights_of {P : Program} {ts : List TypeId} {ds : List (DataW H)} (h : (DataW.weightsEach P ts ds).all (· ≤ reachBytes) = true) {j : Nat} {t : TypeId} {d : DataW H} (ht : ts[j]? = some t) (hd : ds[j]? = some d) : ∀ q ∈ d.weights P t, q ≤ reachBytes := fun q hq => by
  have := List.all_eq_true.1 h q (DataW.weights_mem_each ht hd q hq)
  simpa using this
end
set_option maxRecDepth 100000 in
/-- TopLimits, walked. -/
theorem limits_all (w : World) (hL : Laid w) {x : S36} (h : Fit x) (A : Option Addr) (c : Nat) (B : Option Addr) (d : Nat) (hr : VR w x A c B d) :
    Calls Tryz.prog 5 #[vV x A c B d] w fun e w' => e = .returned (.bool true) ∧ Below w.heap.size w w' := limits_walk speaks_any h A c B d w hr hL
end Go.Proofs.YtcpgcjmamjjokaaGreatDoor
namespace Go.Proofs.YtcpgcjmamjjokaaGreatDoor
open Go.RowKit
set_option linter.unusedVariables false
set_option linter.unusedSimpArgs false
theorem gWidths : Tryz.prog.globalNamed "calamus/cbor.widths" = some 5 := by kernel_rfl
theorem widths_eq : (Rows.laid_calamus_cbor_widths : DataW Unit) = Lib.tabData .i64 [1, 2, 4, 8] := rfl
set_option maxRecDepth 100000 in
theorem laid_of {W : World} (hL : laidMet Tryz.prog Rows.topLimitsRow.laid W) : Laid W := by
  have h1 := hL.tail
  have h2 := h1.tail
  have h3 := h2.tail
  have h4 := h3.tail
  have h5 := h4.tail
  have h6 := h5.tail
  have h7 := h6.tail
  have h8 := h7.tail
  have t8 := Lib.tabIs_of_head (k := .i64) (zs := [1, 2, 4, 8]) gWidths (show (Tryz.prog.globals[5]?).map (·.type) = some 246 by kernel_rfl) Tryz.underlying246 Tryz.underlying3 (by kernel_rfl) (by kernel_rfl) h8
  have hT : Lib.Utf8Tabs 0 1 W := Go.Proofs.utf8Tabs_of_readsT (Go.Proofs.U8Types.of196 Tryz.laysValid) ⟨by kernel_rfl, by kernel_rfl, by kernel_rfl, by kernel_rfl, by kernel_rfl, by kernel_rfl, by kernel_rfl⟩ (Pinned.utf8First_eq ▸ Lib.laidMet.reads hL (.tail _ (.tail _ (.tail _ (.tail _ (.tail _ (.tail _ (.tail _ (.tail _ (.tail _ (.tail _ (.head _)))))))))))) (Lib.laidMet.reads hL (.tail _ (.tail _ (.tail _ (.head _)))))
  exact ⟨hT, t8.cell gWidths 0 (by decide), t8.cell gWidths 1 (by decide), t8.cell gWidths 2 (by decide), t8.cell gWidths 3 (by decide)⟩
end Go.Proofs.YtcpgcjmamjjokaaGreatDoor
