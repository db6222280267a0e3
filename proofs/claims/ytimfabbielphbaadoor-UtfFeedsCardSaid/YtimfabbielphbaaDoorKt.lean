/- Words for utf's proofs: what a call keeps of the world; rows that are read, appended and copied in a region that draws its order. -/
import Derived.Test.YtimfabbielphbaaDoorProg
import Derived.Test.YtimfabbielphbaaDoorWWords
import Derived.WalkKit
import Derived.WalkSpells
import Derived.WalkLawsBesides
import Derived.Deep.QuietTactic
import Derived.BigQuiet
import Derived.Deep.RegionLaw
import Derived.Laws.CopyOwn
import Derived.Lib.Hide
namespace Go.Proofs.YtimfabbielphbaaDoor
open Go.RowKit Go.Proofs.YtimfabbielphbaaDoorW.PrintWords
set_option linter.unusedVariables false
set_option linter.unusedSimpArgs false

/-- What a call keeps: all but the blocks of S and what is new since. -/
structure Kp (w w' : World) (S : Nat → Prop) : Prop where
  os : w'.os = w.os
  tape : w'.tape = w.tape
  output : w'.output = w.output
  size : w.heap.size ≤ w'.heap.size
  block : ∀ k, k < w.heap.size → ¬ S k → w'.heap[k]? = w.heap[k]?

theorem Kp.refl (w : World) (S : Nat → Prop) : Kp w w S := ⟨rfl, rfl, rfl, Nat.le_refl _, fun _ _ _ => rfl⟩
theorem Kp.of_below {w w' : World} (h : Below w.heap.size w w') (S : Nat → Prop) : Kp w w' S := ⟨h.os, h.tape, h.output, h.size, fun k hk _ => h.block k hk⟩
theorem Kp.trans {w w1 w2 : World} {S S2 : Nat → Prop} (h : Kp w w1 S) (k : Kp w1 w2 S2) (hs : ∀ i, S2 i → S i ∨ w.heap.size ≤ i) : Kp w w2 S :=
  ⟨k.os.trans h.os, k.tape.trans h.tape, k.output.trans h.output, Nat.le_trans h.size k.size,
   fun i hi hn => (k.block i (Nat.lt_of_lt_of_le hi h.size) (fun h2 => (hs i h2).elim hn (fun h3 => by omega))).trans (h.block i hi hn)⟩
theorem Kp.mono {w w' : World} {S S2 : Nat → Prop} (h : Kp w w' S) (hs : ∀ i, S i → S2 i) : Kp w w' S2 := ⟨h.os, h.tape, h.output, h.size, fun i hi hn => h.block i hi (fun hk => hn (hs i hk))⟩
theorem Kp.below {w w1 w2 : World} {S : Nat → Prop} (h : Kp w w1 S) (k : Below w1.heap.size w1 w2) : Kp w w2 S := h.trans (Kp.of_below k (fun _ => False)) (fun _ hk => hk.elim)
theorem Kp.set_ {w w1 : World} {S : Nat → Prop} (h : Kp w w1 S) {p : Addr} (hp : S p.block ∨ w.heap.size ≤ p.block) (u : Value) : Kp w (w1.setCell p u) S :=
  h.trans (S2 := fun k => k = p.block) ⟨rfl, rfl, rfl, by simp [World.setCell], fun i _ hn => Below.heap_setCell w1 p u i hn⟩ (fun k hk => by rw [hk]; exact hp)
theorem Kp.grown {w w1 w2 : World} {S : Nat → Prop} {row : Option Nat} (h : Kp w w1 S) (hg : w1.grownBy w2 row) (hr : ∀ k, row = some k → S k ∨ w.heap.size ≤ k) : Kp w w2 S :=
  h.trans (S2 := fun k => row = some k) ⟨hg.os, hg.tape, hg.output, hg.size, fun i hi hn => hg.block i hi (fun he => hn he.symm)⟩ hr
theorem Kp.drew {w w' : World} {S : Nat → Prop} (h : Kp w w' S) : Kp w w'.drew S := ⟨h.os, h.tape, h.output, h.size, h.block⟩
theorem Kp.drewN {w w' : World} {S : Nat → Prop} (h : Kp w w' S) (n : Nat) : Kp w (w'.drewN n) S := ⟨h.os, h.tape, h.output, h.size, h.block⟩
theorem Kp.alloc {w w' : World} {S : Nat → Prop} (h : Kp w w' S) (o : Obj) : Kp w (w'.alloc o) S := h.below (below_alloc (Below.refl _ _) o)
theorem Kp.toBelow {w w' : World} {S : Nat → Prop} {B : Nat} {w0 : World} (h : Kp w w' S) (hb : Below B w0 w) (hB : B ≤ w.heap.size) (hS : ∀ k, S k → B ≤ k) : Below B w0 w' :=
  hb.trans ⟨h.os, h.tape, h.output, h.size, fun k hk => h.block k (Nat.lt_of_lt_of_le hk hB) (fun hs => by have := hS k hs; omega)⟩
theorem Kp.heap {w w' : World} {S : Nat → Prop} (h : Kp w w' S) {g : Nat} {o : Obj} (hg : w.heap[g]? = some o) (hn : ¬ S g) : w'.heap[g]? = some o := (h.block g (blk_lt hg) hn).trans hg
theorem Kp.own {w w' : World} {S : Nat → Prop} (h : Kp w w' S) {base : Nat} {e : TypeId} {size n : Nat} {v : Value} {xs : List Value} (ho : w.ownsRow base e size v n xs) (hn : ∀ k, v.ownBlock = some k → ¬ S k) : w'.ownsRow base e size v n xs := by
  refine ⟨ho.1, ?_⟩
  rcases ho.2 with hc | ⟨g, cap, cur, rfl, hb, hh, r⟩
  · exact .inl hc
  · exact .inr ⟨g, cap, cur, rfl, hb, h.heap hh (hn g rfl), r⟩
theorem Kp.reads {w w' : World} {S : Nat → Prop} (h : Kp w w' S) {k : IntKind} {A : Option Addr} {n : Nat} {xs : List Int} (hr : ReadsInt w k A n xs) (hn : ∀ ad, A = some ad → ∀ j, j < n → ¬ S (ad.add j).block) : ReadsInt w' k A n xs := by
  refine ⟨hr.1, hr.2.1, fun h0 => ?_⟩
  obtain ⟨ad, e, hc⟩ := hr.2.2 h0
  refine ⟨ad, e, fun j hj => ?_⟩
  have hb := h.block (ad.add j).block (World.block_lt_of_cell? _ _ (hc j hj)) (hn ad e j hj)
  rw [World.cell?_of_block hb]
  exact hc j hj

/-- An owned row's base may be said lower. -/
theorem own_lower {w : World} {base base' : Nat} {e : TypeId} {size n : Nat} {v : Value} {xs : List Value} (h : w.ownsRow base e size v n xs) (hb : base' ≤ base) : w.ownsRow base' e size v n xs := by
  refine ⟨h.1, ?_⟩
  rcases h.2 with hc | ⟨g, cap, cur, rfl, hg, r⟩
  · exact .inl hc
  · exact .inr ⟨g, cap, cur, rfl, Nat.le_trans hb hg, r⟩

section
variable {P : Program} {ops : Array Oper} {o : Oper} {a : Act} {w : World} {K : Act → World → Prop} {Q : Exit → Act → World → Prop} {E : Prop}
/-- append(v, ys...) as a run: v the call's own, ys a slice that is read. -/
theorem run_append_read (base : Nat) (t ty e : TypeId) (k : IntKind) (bytes : Nat) (w : World)
    (ht : P.underlying t = some (.slice e)) (hinfo : (P.info? e).map (fun i => (i.zero, i.size, i.bytes)) = some (some (.int k 0), 1, bytes)) (hb0 : 0 < bytes)
    (v : Value) (xs ys : List Int) (A : Option Addr) (m c : Nat)
    (HO : w.ownsRow base e 1 v xs.length (nums k xs)) (HR : ReadsInt w k A m ys) (hbase : base ≤ w.heap.size) (hl : (xs.length + m) * bytes ≤ 140737488355328) :
    ∃ v1 w1, (Builtin.append_ #[t, t] ty #[v, .slice A m c]).run P w = .ok v1 w1 ∧ w1.ownsRow base e 1 v1 (xs ++ ys).length (nums k (xs ++ ys)) ∧ w.grownBy w1 v.ownBlock ∧ (v1.ownBlock = v.ownBlock ∨ v1.ownBlock = some w.heap.size) := by
  obtain ⟨i0, hi, hzz⟩ := Option.map_eq_some_iff.1 hinfo
  simp only [Prod.mk.injEq] at hzz
  obtain ⟨hz0, hz1, hz2⟩ := hzz
  have hm : ys.length = m := HR.1
  have hlen : xs.length + m ≤ 140737488355328 := Nat.le_trans (Nat.le_mul_of_pos_right _ hb0) hl
  rcases A with _ | ad
  · have h0 : m = 0 := by
      rcases Nat.eq_zero_or_pos m with h0 | h0
      · exact h0
      · obtain ⟨ad, h, _⟩ := HR.2.2 h0
        cases h
    subst h0
    obtain rfl : ys = [] := List.eq_nil_of_length_eq_zero hm
    refine ⟨v, w, ?_, by simpa using HO, World.grownBy.refl w _, .inl rfl⟩
    rcases HO.2 with ⟨rfl, hn⟩ | ⟨g, cap, cur, rfl, _, _, hnc, _⟩
    · simp [Builtin.append_, run_underlying ht, sizeOf, typeInfo, hi, Builtin.lenOf, Builtin.firstCells]
    · simp [Builtin.append_, run_underlying ht, sizeOf, typeInfo, hi, Builtin.lenOf, Builtin.firstCells, hnc, storeCells]
  · have hcells : ∀ j u, (nums k ys)[j]? = some u → w.cell? (ad.add j) = some u := by
      intro j u hu
      have hj : j < ys.length := by
        rcases Nat.lt_or_ge j ys.length with h | h
        · exact h
        · simp [nums, List.getElem?_eq_none h] at hu
      obtain ⟨ad', h', hc⟩ := HR.2.2 (by omega)
      injection h' with h'
      subst h'
      have := hc j (by omega)
      simp [nums, List.getElem?_eq_getElem hj] at hu
      subst hu
      rw [this]
      simp [List.getD_eq_getElem?_getD, List.getElem?_eq_getElem hj]
    obtain ⟨v1, w1, hr, h2, h3, _, h5⟩ := run_append_own_at (P := P) w base t ty e i0 (.int k 0) 1 bytes ht hi hz0 hz1 hz2 rfl (by omega) v xs.length (nums k xs) HO ad m c (nums k ys) (by simp [nums, hm]) hcells
      (by intro u hu; simp only [nums, List.mem_map] at hu; obtain ⟨q, _, rfl⟩ := hu; rfl) (by simp only [maxLen]; omega) hl hbase
    exact ⟨v1, w1, hr, by simpa [nums, hm] using h2, h3, h5⟩

/-- The same as one step of a region that draws its order. -/
theorem step_append_read (hgd : o.guard = none) (s x : Operand) (t e : TypeId) (k : IntKind) (bytes : Nat)
    (ho : o.op = .call { callee := .builtin .append, args := #[s, x], argTypes := #[t, t] })
    (ht : P.underlying t = some (.slice e)) (hinfo : (P.info? e).map (fun i => (i.zero, i.size, i.bytes)) = some (some (.int k 0), 1, bytes)) (hb0 : 0 < bytes)
    (base : Nat) (v : Value) (xs ys : List Int) (A : Option Addr) (m c : Nat) (hs : a.eval s = v) (hx : a.eval x = .slice A m c)
    (HO : w.ownsRow base e 1 v xs.length (nums k xs)) (HR : ReadsInt w k A m ys) (hbase : base ≤ w.heap.size) (hl : (xs.length + m) * bytes ≤ 140737488355328)
    (h : ∀ v1 w1, w1.ownsRow base e 1 v1 (xs ++ ys).length (nums k (xs ++ ys)) → w.grownBy w1 v.ownBlock → (v1.ownBlock = v.ownBlock ∨ v1.ownBlock = some w.heap.size) → K (a.put o.dst v1) w1) :
    if Region.wanted o (yielded ops a.tmps) = true then Oper.wp P o a w K Q else E := by
  obtain ⟨v1, w1, hr, h1, h2, h3⟩ := run_append_read (P := P) base t o.type e k bytes w ht hinfo hb0 v xs ys A m c HO HR hbase hl
  have hw : Region.wanted o (yielded ops a.tmps) = true := by simp [Region.wanted, hgd]
  rw [if_pos hw]
  unfold Oper.wp execOp
  simp only [ho, resolve, invoke, builtin, Sem.run_bind, Sem.run_pure, Result.andThen_ok, List.map_toArray, List.map_cons, List.map_nil, hs, hx, hr]
  exact h v1 w1 h1 h2 h3
end
section
variable {P : Program} {ops : Array Oper} {rest : List Oper} {o : Oper} {a : Act} {w : World} {K : Act → World → Prop} {Q : Exit → Act → World → Prop} {E : Prop} {rest : List Oper}
/-- copy(v, ys) as a run: v the call's own from its row's head on, ys a slice that is read (it may lie in the same row). -/
theorem run_copy_read (base : Nat) (dT sT ty e : TypeId) (k : IntKind) (w : World)
    (ht : P.underlying dT = some (.slice e)) (hinfo : (P.info? e).map (·.size) = some 1)
    (g cap n : Nat) (zs ys : List Int) (A : Option Addr) (m c q : Nat) (hq : q = min m n)
    (HO : w.ownsRow base e 1 (.slice (some ⟨g, 0, none⟩) n cap) n (nums k zs)) (HR : ReadsInt w k A m ys) :
    ∃ w1, (Builtin.copy_ #[dT, sT] ty #[.slice (some ⟨g, 0, none⟩) n cap, .slice A m c]).run P w = .ok (.int .i64 (q : Int)) w1 ∧
      w1.ownsRow base e 1 (.slice (some ⟨g, 0, none⟩) n cap) n (nums k (ys.take q ++ zs.drop q)) ∧ w.grownBy w1 (some g) := by
  have hzl : zs.length = n := by have := HO.1; simpa [nums] using this
  have hyl : ys.length = m := HR.1
  by_cases h0 : q = 0
  · subst h0
    refine ⟨w, ?_, by simpa using HO, World.grownBy.refl w _⟩
    exact run_copy_none (P := P) w dT sT ty e (some ⟨g, 0, none⟩) A n cap m c ht hinfo (by show min m n = 0; omega)
  · obtain ⟨ad, rfl, hc⟩ := HR.2.2 (by omega)
    rcases HO.2 with ⟨hx, _⟩ | ⟨g', cap', cur, he, hb, hh, hnc, hcm, hcs, htk⟩
    · cases hx
    · injection he with h1 _ h3
      injection h1 with h1
      injection h1 with h1
      subst h1; subst h3
      have hcl : (nums k (ys.take q)).length = q := by rw [nums_length, List.length_take]; omega
      have hrun := run_copy_row (P := P) w dT sT ty e g 0 n cap ad m c cur e (nums k (ys.take q)) ht hinfo hh (by rw [hcl, hq])
        (by
          intro j v hv
          have hj : j < q := by
            have := (List.getElem?_eq_some_iff.1 hv).1
            omega
          rw [hc j (by omega)]
          have : (nums k (ys.take q))[j]? = some (.int k (ys.getD j 0)) := by
            simp [nums, List.getElem?_take, hj, List.getD_eq_getElem?_getD, List.getElem?_eq_getElem (show j < ys.length by omega)]
          rw [this] at hv
          exact hv)
        (by rw [hcl]; omega)
        (by intro u hu; simp only [nums, List.mem_map] at hu; obtain ⟨q, _, rfl⟩ := hu; rfl)
      rw [hcl] at hrun
      refine ⟨_, hrun, ⟨by rw [nums_length, List.length_append, List.length_take, List.length_drop]; omega, .inr ⟨g, cap, _, rfl, hb, setRow_heap w g cur _ e _ hh, hnc, hcm, ?_, ?_⟩⟩, ⟨rfl, rfl, rfl, by simp [World.setRow], fun i _ hi => setRow_other w g i _ (fun e => hi (by simp [e]))⟩⟩
      · simp; omega
      · simp only [List.take_zero, List.nil_append, Nat.zero_add, Nat.mul_one]
        have e2 : cur.toList.take n = nums k zs := by simpa using htk
        have e3 : (nums k (ys.take q ++ zs.drop q)) = nums k (ys.take q) ++ (nums k zs).drop q := by simp [nums, List.map_drop]
        rw [e3, ← e2, List.take_append, hcl, List.take_of_length_le (by omega), List.drop_take]

/-- The same as one step of a region that draws its order. -/
theorem step_copy_read (hgd : o.guard = none) (d s : Operand) (dT sT e : TypeId) (k : IntKind)
    (ho : o.op = .call { callee := .builtin .copy, args := #[d, s], argTypes := #[dT, sT] })
    (ht : P.underlying dT = some (.slice e)) (hinfo : (P.info? e).map (·.size) = some 1)
    (base g cap n : Nat) (zs ys : List Int) (A : Option Addr) (m c q : Nat) (hq : q = min m n)
    (hd : a.eval d = .slice (some ⟨g, 0, none⟩) n cap) (hs : a.eval s = .slice A m c)
    (HO : w.ownsRow base e 1 (.slice (some ⟨g, 0, none⟩) n cap) n (nums k zs)) (HR : ReadsInt w k A m ys)
    (h : ∀ w1, w1.ownsRow base e 1 (.slice (some ⟨g, 0, none⟩) n cap) n (nums k (ys.take q ++ zs.drop q)) → w.grownBy w1 (some g) → K (a.put o.dst (.int .i64 (q : Int))) w1) :
    if Region.wanted o (yielded ops a.tmps) = true then Oper.wp P o a w K Q else E := by
  obtain ⟨w1, hr, h1, h2⟩ := run_copy_read (P := P) base dT sT o.type e k w ht hinfo g cap n zs ys A m c q hq HO HR
  have hw : Region.wanted o (yielded ops a.tmps) = true := by simp [Region.wanted, hgd]
  rw [if_pos hw]
  unfold Oper.wp execOp
  simp only [ho, resolve, invoke, builtin, Sem.run_bind, Sem.run_pure, Result.andThen_ok, List.map_toArray, List.map_cons, List.map_nil, hd, hs, hr]
  exact h w1 h1 h2

/-- .. and outside such a region. -/
theorem wpList_copy_read (hgd : o.guard = none) (d s : Operand) (dT sT e : TypeId) (k : IntKind)
    (ho : o.op = .call { callee := .builtin .copy, args := #[d, s], argTypes := #[dT, sT] })
    (ht : P.underlying dT = some (.slice e)) (hinfo : (P.info? e).map (·.size) = some 1)
    (base g cap n : Nat) (zs ys : List Int) (A : Option Addr) (m c q : Nat) (hq : q = min m n)
    (hd : a.eval d = .slice (some ⟨g, 0, none⟩) n cap) (hs : a.eval s = .slice A m c)
    (HO : w.ownsRow base e 1 (.slice (some ⟨g, 0, none⟩) n cap) n (nums k zs)) (HR : ReadsInt w k A m ys)
    (h : ∀ w1, w1.ownsRow base e 1 (.slice (some ⟨g, 0, none⟩) n cap) n (nums k (ys.take q ++ zs.drop q)) → w.grownBy w1 (some g) → wpList P ops Q rest (a.put o.dst (.int .i64 (q : Int))) w1) :
    wpList P ops Q (o :: rest) a w := by
  obtain ⟨w1, hr, h1, h2⟩ := run_copy_read (P := P) base dT sT o.type e k w ht hinfo g cap n zs ys A m c q hq HO HR
  refine wpList_plain hgd fun K hK => ?_
  unfold Oper.wp execOp
  simp only [ho, resolve, invoke, builtin, Sem.run_bind, Sem.run_pure, Result.andThen_ok, List.map_toArray, List.map_cons, List.map_nil, hd, hs, hr]
  exact hK _ _ (h w1 h1 h2)
end
end Go.Proofs.YtimfabbielphbaaDoor
