/- A strings.Builder; json's writer at one value: its pieces. The one value that the formats are asked; json.Write of it. json's reader: its small steps. Two digits are a byte. json's reader: a text. -/
import Derived.Test.YtcpgcjmamjjokaaGreatDoorGc
import Derived.Shelf.Strings.BuilderK
import Derived.Lib.ConvBytes
import Derived.Handy
namespace Go.Proofs.YtcpgcjmamjjokaaGreatDoor
open Go.RowKit Go.Maps Go.Proofs.YtcpgcjmamjjokaaGreatDoorW.PrintWords Go.Proofs.YtcpgcjmamjjokaaGreatDoorW.PrintMore Go.Proofs.YtcpgcjmamjjokaaGreatDoor.PTopLimits
set_option linter.unusedVariables false
set_option linter.unusedSimpArgs false
/-- A builder in block B that holds the bytes l. -/
def Bld (B : Nat) (l : List UInt8) (w : World) : Prop := Lib.IsBuilderF 169 5 B B (Lib.byteCells l) w
theorem Bld.lt {B : Nat} {l : List UInt8} {w : World} (h : Bld B l w) : B < w.heap.size := by
  rcases h with h | h <;> exact h.lt
/-- What is below B stands, and what is neither B nor bytes. -/
structure Oth (B : Nat) (w w' : World) : Prop where
  b : Below B w w'
  o : Lib.OthersKept 5 (some B) w w'
theorem Oth.refl (B : Nat) (w : World) : Oth B w w := ⟨Below.refl _ _, Lib.OthersKept.refl _ _ _⟩
theorem Oth.trans {B : Nat} {a b c : World} (h : Oth B a b) (k : Oth B b c) : Oth B a c := ⟨h.b.trans k.b, h.o.trans k.o⟩
theorem Oth.of_below {B : Nat} {w w' : World} (hb : Below w.heap.size w w') (hB : B ≤ w.heap.size) : Oth B w w' :=
  ⟨hb.mono hB, fun k o h _ _ => (hb.block k (blk_lt h)).trans h⟩
theorem Oth.below {B : Nat} {a w w' : World} (h : Oth B a w) (hb : Below w.heap.size w w') (hB : B ≤ w.heap.size) : Oth B a w' := h.trans (Oth.of_below hb hB)
theorem Oth.heap {B : Nat} {w w' : World} (h : Oth B w w') {k : Nat} {c : Array Value} {t : TypeId} {f : Nat × Nat} (hk : w.heap[k]? = some (.cells c t f)) (hB : k ≠ B) (ht : t ≠ 5) : w'.heap[k]? = some (.cells c t f) :=
  h.o k _ hk (fun e => hB (Option.some.inj e)) (fun c' fz e => ht (by injection e))
theorem wb_any (B : Nat) (l : List UInt8) (c : UInt8) (w : World) (h : Bld B l w) (hl : l.length ≤ 100000) :
    Calls Tryz.prog 131 #[.pointer (some ⟨B, 0, none⟩), .int .u8 (c.toNat : Int)] w fun e w' => e = .returned .nilIface ∧ Bld B (l ++ [c]) w' ∧ Oth B w w' := by
  refine (Any.Builder_WriteByte_k Tryz.laysB167 Tryz.Builder_Extra_B B B (Lib.byteCells l) (c.toNat : Int) w h (by rw [Lib.byteCells_length]; omega) (Nat.le_of_lt h.lt)).mono ?_
  rintro e w' ⟨rfl, h1, h2, h3⟩
  refine ⟨rfl, .inr ?_, h2, h3⟩
  rw [Lib.byteCells_append]
  exact h1
theorem ws_any (B : Nat) (l : List UInt8) (s : ByteArray) (w : World) (h : Bld B l w) (hl : l.length ≤ 100000) (hs : s.size ≤ 100000) :
    Calls Tryz.prog 127 #[.pointer (some ⟨B, 0, none⟩), .string s] w fun e w' => e = .returned (.tuple #[.int .i64 s.size, .nilIface]) ∧ Bld B (l ++ s.data.toList) w' ∧ Oth B w w' := by
  refine (Any.Builder_WriteString_k Tryz.laysB166 Tryz.Builder_Extra_B B B (Lib.byteCells l) s w h (by rw [Lib.byteCells_length]; omega) (Nat.le_of_lt h.lt)).mono ?_
  rintro e w' ⟨rfl, h1, h2, h3⟩
  refine ⟨rfl, .inr ?_, h2, h3⟩
  rw [Lib.byteCells_append, ← Lib.strCells_eq]
  exact h1
theorem st_any (B : Nat) (l : List UInt8) (w : World) (h : Bld B l w) :
    Calls Tryz.prog 100 #[.pointer (some ⟨B, 0, none⟩)] w fun e w' => e = .returned (.string ⟨l.toArray⟩) ∧ Bld B l w' ∧ Oth B w w' := by
  refine (Any.Builder_String_any_k Tryz.lays169 Tryz.Builder_Extra_169 B B l w h (Nat.le_of_lt h.lt)).mono ?_
  rintro e w' ⟨rfl, h1, h2, h3⟩
  exact ⟨rfl, h1, h2, h3⟩
theorem ln_any (B : Nat) (l : List UInt8) (w : World) (h : Bld B l w) :
    Calls Tryz.prog 99 #[.pointer (some ⟨B, 0, none⟩)] w fun e w' => e = .returned (.int .i64 l.length) ∧ w' = w := by
  have h1 := Tryz.Builder_Len_f B B (Lib.byteCells l) w h
  rw [Lib.byteCells_length] at h1
  exact h1
theorem cv_bytes (w : World) (s : ByteArray) : (convert 9 65 (.string s)).run Tryz.prog w = .ok (.slice (some ⟨w.heap.size, 0, none⟩) s.size (grownCap w s.size 0 5)) (Lib.bytesWorld w 5 s) :=
  Lib.run_convert_string_bytes w 9 65 5 s Tryz.underlying9 Tryz.underlying65 Tryz.underlying5
theorem bytes_below (w : World) (s : ByteArray) : Below w.heap.size w (Lib.bytesWorld w 5 s) :=
  ⟨rfl, rfl, rfl, by rw [Lib.bytesWorld_size]; omega, fun k hk => Lib.bytesWorld_at_old w 5 s k hk⟩
theorem Bld.below {B : Nat} {l : List UInt8} {w w' : World} (h : Bld B l w) (hb : Below w.heap.size w w') : Bld B l w' := by
  have hlt := h.lt
  have hg := grown_of_below hb none
  have hv : ∀ v : Value, v.ownBlock = none ∨ v.ownBlock ≠ none := fun v => by cases v.ownBlock <;> simp
  unfold Bld Lib.IsBuilderF Lib.BuilderAtF at *
  rcases h with ⟨h1, v, h2, h3, h4⟩ | ⟨h1, v, h2, h3, h4⟩
  · exact .inl ⟨h1, v, blk_below h2 hb, h3.kept hg (hv v), h4⟩
  · exact .inr ⟨h1, v, blk_below h2 hb, h3.kept hg (hv v), h4⟩
theorem Bld.fresh (w : World) : Bld w.heap.size [] (w.alloc (.cells #[.pointer none, .slice none 0 0] 169)) := Lib.IsBuilderF.of (Lib.fresh_isBuilder 169 5 w)
theorem strOf_b (xs : List UInt8) : strOfNums (xs.map fun x => (x.toNat : Int)) = ⟨xs.toArray⟩ := by
  simp only [strOfNums, List.map_map]
  congr 1
  congr 1
  conv => rhs; rw [← List.map_id xs]
  apply List.map_congr_left
  intro x _
  simp
/-- A row of bytes. -/
def BytesAt (w : World) (A : Option Addr) (l : List UInt8) : Prop := ReadsInt w .u8 A l.length (l.map fun x => (x.toNat : Int))
theorem BytesAt.below {w w' : World} {A : Option Addr} {l : List UInt8} (h : BytesAt w A l) (hb : Below w.heap.size w w') : BytesAt w' A l := ReadsInt.below h hb
theorem BytesAt.str {w : World} {A : Option Addr} {l : List UInt8} (h : BytesAt w A l) (c : Nat) : (convert 65 9 (.slice A l.length c)).run Tryz.prog w = .ok (.string ⟨l.toArray⟩) w := by
  rw [string_of_reads (e := 5) Tryz.underlying65 Tryz.underlying5 Tryz.underlying9 h, strOf_b]
theorem BytesAt.cell {w : World} {A : Option Addr} {l : List UInt8} (h : BytesAt w A l) (j : Nat) (hj : j < l.length) : ∃ ad, A = some ad ∧ w.cell? (ad.add j) = some (.int .u8 ((l.getD j 0).toNat : Int)) := by
  obtain ⟨ad, e, hc⟩ := h.2.2 (by omega)
  refine ⟨ad, e, (hc j hj).trans ?_⟩
  simp [List.getD_eq_getElem?_getD, hj]
theorem BytesAt.own {w : World} {b g cap : Nat} {l : List UInt8} (h : w.ownsRow b 5 1 (.slice (some ⟨g, 0, none⟩) l.length cap) l.length (Lib.byteCells l)) (hl : l.length ≤ 100000) : BytesAt w (some ⟨g, 0, none⟩) l := by
  refine ⟨by simp, by omega, fun _ => ⟨_, rfl, fun j hj => ?_⟩⟩
  have e : (Addr.add ⟨g, 0, none⟩ j) = ⟨g, j, none⟩ := by rcases j with _ | j <;> simp [Addr.add]
  rw [e, World.ownsRow.cellAt h j (by omega)]
  simp [Lib.byteCells, List.getD_eq_getElem?_getD, hj]
theorem nw_drew (w : World) (o : Obj) : (w.drew.alloc o).heap[w.heap.size]? = some o := heap_alloc_new w.drew o
theorem new_grow {w1 w2 : World} {o : Obj} (h : (w1.drew.alloc o).grownBy w2 (Value.slice none 0 0).ownBlock) : Below w1.heap.size w1 w2 :=
  pw_below_grown (below_alloc (Below.refl _ _).drew _) _ (below_alloc (Below.refl _ _).drew o).size h (fun k hk => by cases hk)
set_option maxHeartbeats 3200000 in
set_option maxRecDepth 100000 in
theorem quote_t (B : Nat) (l : List UInt8) (w : World) (h : Bld B l w) (hl : l.length ≤ 1000) :
    Calls Tryz.prog 130 #[.pointer (some ⟨B, 0, none⟩), .string ⟨#[116]⟩] w fun e w' => e = .returned (.tuple #[]) ∧ Bld B (l ++ [34, 116, 34]) w' ∧ Oth B w w' := by
  have hcv := cv_bytes
  have hW := Lib.hid (fun l c w h hl => wb_any B l c w h hl)
  replace h := Lib.hid h
  go_enter Tryz.func130, Tryz.ntmps130
  go_wp2_with fail
  refine (hW.out l 34 _ h.out (by omega)).mono ?_
  rintro e w1 ⟨rfl, h1, B1⟩
  go_wp2_with fail
  generalize hw2 : Lib.bytesWorld w1 5 _ = w2
  obtain ⟨h2, B2, c0⟩ : Bld B (l ++ [34]) w2 ∧ Oth B w w2 ∧ w2.cell? ⟨w1.heap.size, 0, none⟩ = some (.int .u8 116) := by
    subst hw2
    exact ⟨h1.below (bytes_below _ _), B1.below (bytes_below _ _) (Nat.le_of_lt h1.lt), (Lib.bytesWorld_cell w1 5 ⟨#[116]⟩ 0 (by decide)).trans rfl⟩
  clear hw2 B1 h1
  replace h2 := Lib.hid h2
  replace B2 := Lib.hid B2
  refine wp_loop_rounds 2 ?_
  rw [rounds_succ]
  go_wp2_with fail
  refine (hW.out _ 116 _ h2.out (by simp; omega)).mono ?_
  rintro e w3 ⟨rfl, h3, B3⟩
  have B4 := Lib.hid (B2.out.trans B3)
  replace h3 := Lib.hid h3
  clear B2 B3 c0 h2
  go_wp2_with fail
  rw [rounds_succ]
  go_wp2_with fail
  refine (hW.out _ 34 _ h3.out (by simp; omega)).mono ?_
  rintro e w5 ⟨rfl, h5, B5⟩
  have B6 := B4.out.trans B5
  go_wp2_with fail
  go_end0
  exact ⟨rfl, by simpa using h5, B6⟩
set_option maxRecDepth 100000 in
theorem special_b (B : Nat) (l : List UInt8) (w : World) (h : Bld B l w) (hl : l.length ≤ 1000) :
    Calls Tryz.prog 128 #[.pointer (some ⟨B, 0, none⟩), .string ⟨#[36, 98, 121, 116, 101, 115]⟩, .string ⟨#[48, 48]⟩] w fun e w' => e = .returned (.tuple #[]) ∧ Bld B (l ++ [123, 34, 36, 98, 121, 116, 101, 115, 34, 58, 34, 48, 48, 34, 125]) w' ∧ Oth B w w' := by
  have hW := Lib.hid (fun l s w h hl hs => ws_any B l s w h hl hs)
  replace h := Lib.hid h
  go_enter Tryz.func128, Tryz.ntmps128
  go_wp2_with fail
  refine (hW.out l _ _ h.out (by omega) (by decide +kernel)).mono ?_
  rintro e w1 ⟨rfl, h1, B1⟩
  go_wp2_with fail
  go_end0
  exact ⟨rfl, h1, B1⟩
def kidV : Value := .agg #[.int .i64 6, .bool false, .bool false, .string ⟨#[]⟩, .int .i64 0, .int .u64 0, .string ⟨#[0]⟩, .slice none 0 0, .slice none 0 0]
theorem info5 : (Tryz.prog.info? 5).map (fun i => (i.zero, i.size, i.bytes)) = some (some (.int .u8 0), 1, 1) := by kernel_rfl
set_option maxHeartbeats 3200000 in
set_option maxRecDepth 100000 in
theorem jlay_kid (B : Nat) (l : List UInt8) (w : World) (h : Bld B l w) (hl : l.length ≤ 1000) :
    Calls Tryz.prog 98 #[.pointer (some ⟨B, 0, none⟩), kidV] w fun e w' => e = .returned (.tuple #[]) ∧ Bld B (l ++ [123, 34, 36, 98, 121, 116, 101, 115, 34, 58, 34, 48, 48, 34, 125]) w' ∧ Oth B w w' := by
  have hcv := cv_bytes
  have hS := Lib.hid (fun w h => special_b B l w h hl)
  unfold kidV
  replace h := Lib.hid h
  go_enter Tryz.func98, Tryz.ntmps98
  go_wp2_with fail
  generalize hw2 : Lib.bytesWorld _ 5 _ = w2
  obtain ⟨h2, B2, c0⟩ : Bld B l w2 ∧ Below w.heap.size w w2 ∧ w2.cell? ⟨w.heap.size + 1, 0, none⟩ = some (.int .u8 0) := by
    subst hw2
    have b1 := below_alloc (Below.refl w.heap.size w) (.cells #[.int .i64 6, .bool false, .bool false, .string ⟨#[]⟩, .int .i64 0, .int .u64 0, .string ⟨#[0]⟩, .slice none 0 0, .slice none 0 0] 36 (0, 0))
    have b2 := below_then b1 b1.size (bytes_below _ ⟨#[0]⟩)
    refine ⟨h.out.below b2, b2, ?_⟩
    have hc := Lib.bytesWorld_cell (w.alloc (.cells #[.int .i64 6, .bool false, .bool false, .string ⟨#[]⟩, .int .i64 0, .int .u64 0, .string ⟨#[0]⟩, .slice none 0 0, .slice none 0 0] 36 (0, 0))) 5 ⟨#[0]⟩ 0 (by decide)
    rw [alloc_size] at hc
    exact hc
  clear hw2
  replace h2 := Lib.hid h2
  replace B2 := Lib.hid B2
  obtain ⟨i0, hi, hz0, hz1, hz2⟩ := info_parts info5
  have hb1 : bits .and .u8 0 15 = 0 := by decide +kernel
  refine wp_loop_rounds 2 ?_
  rw [rounds_succ]
  go_wp2_with fail
  go_region_law (refine step_append_lies _ (by rfl) _ _ _ (by rfl) w2.heap.size 5 i0 _ 1 1 Tryz.underlying65 hi hz0 hz1 hz2 rfl (by omega) (.slice none 0 0) 0 [] (by rfl) (World.ownsRow_nil _ _ _ _) ⟨w2.heap.size, 0, none⟩ 2 2 [.int .u8 48, .int .u8 48] (by rfl) (by rfl) (World.news_of_block (cs := #[.int .u8 48, .int .u8 48]) (t := 5) (fr := (0, 0)) (nw_drew w2 _)) (by simp [Value.oneCell']) (by omega) (by unfold maxLen; omega) (by omega) (by simp) (w2.heap.size + 1) (by simp) ?_; intro g cap w3 hown hgrow hat hlt2; have BW := Lib.hid (new_grow hgrow))
  all_goals (
    have hg := hat.resolve_left (by simp [Value.ownBlock])
    have hrow := BytesAt.own (l := [48, 48]) hown (by decide)
    have hstr : (convert 65 9 (.slice (some ⟨w2.heap.size + 1, 0, none⟩) 2 cap)).run Tryz.prog w3 = .ok (.string ⟨#[48, 48]⟩) w3 := by
      have h := hrow.str cap
      first | exact h | (rw [hg] at h; exact h)
    have h3 := Lib.hid (h2.out.below BW.out)
    have B3 := Lib.hid (below_then B2.out B2.out.size BW.out)
    clear hown hgrow hat BW h2 B2 hrow c0
    go_wp2_with fail
    rw [rounds_succ]
    go_wp2_with fail
    refine (hS.out _ h3.out).mono ?_
    rintro e w4 ⟨rfl, h4, B4⟩
    go_wp2_with fail
    go_end0
    exact ⟨rfl, h4, (Oth.of_below B3.out (Nat.le_of_lt h.out.lt)).trans B4⟩)
def topV (g : Nat) : Value := .agg #[.int .i64 9, .bool false, .bool false, .string ⟨#[]⟩, .int .i64 0, .int .u64 0, .string ⟨#[116]⟩, .slice none 0 0, .slice (some ⟨g, 0, none⟩) 1 1]
/-- The value within the tag. -/
def Kid (g : Nat) (w : World) : Prop := w.heap[g]? = some (.cells #[.int .i64 6, .bool false, .bool false, .string ⟨#[]⟩, .int .i64 0, .int .u64 0, .string ⟨#[0]⟩, .slice none 0 0, .slice none 0 0] 36 (0, 0))
def jsonL : List UInt8 := [123, 34, 36, 116, 97, 103, 34, 58, 91, 34, 116, 34, 44, 123, 34, 36, 98, 121, 116, 101, 115, 34, 58, 34, 48, 48, 34, 125, 93, 125]
set_option maxHeartbeats 3200000 in
set_option maxRecDepth 100000 in
theorem jlay_top (B : Nat) (w : World) (h : Bld B [] w) (g : Nat) (hg : Kid g w) (hgB : g < B) :
    Calls Tryz.prog 98 #[.pointer (some ⟨B, 0, none⟩), topV g] w fun e w' => e = .returned (.tuple #[]) ∧ Bld B jsonL w' ∧ Oth B w w' := by
  have hW := Lib.hid (fun l s w h hl hs => ws_any B l s w h hl hs)
  have hw := Lib.hid (fun l c w h hl => wb_any B l c w h hl)
  have hQ := Lib.hid (fun l w h hl => quote_t B l w h hl)
  have hK := Lib.hid (fun l w h hl => jlay_kid B l w h hl)
  unfold topV
  unfold kidV at hK
  unfold Kid at hg
  replace h := Lib.hid h
  have hgl := blk_lt hg
  go_enter Tryz.func98, Tryz.ntmps98
  go_wp2_with fail
  generalize hw1 : World.alloc w _ = w1
  obtain ⟨X, hX⟩ : ∃ X, w.heap.size = X := ⟨_, rfl⟩
  rw [hX]
  obtain ⟨b1, k1, P1, h1⟩ : w1.heap[X]? = some (.cells #[.int .i64 9, .bool false, .bool false, .string ⟨#[]⟩, .int .i64 0, .int .u64 0, .string ⟨#[116]⟩, .slice none 0 0, .slice (some ⟨g, 0, none⟩) 1 1] 36 (0, 0)) ∧ w1.heap[g]? = some (.cells #[.int .i64 6, .bool false, .bool false, .string ⟨#[]⟩, .int .i64 0, .int .u64 0, .string ⟨#[0]⟩, .slice none 0 0, .slice none 0 0] 36 (0, 0)) ∧ Oth B w w1 ∧ Bld B [] w1 := by
    subst hw1 hX
    exact ⟨heap_alloc_new _ _, blk_alloc hg _, Oth.of_below (below_alloc (Below.refl _ _) _) (Nat.le_of_lt h.out.lt), h.out.below (below_alloc (Below.refl _ _) _)⟩
  have hXB : B < X := by rw [← hX]; exact h.out.lt
  clear hw1 hX h hg
  replace P1 := Lib.hid P1
  replace h1 := Lib.hid h1
  refine (hW.out _ _ _ h1.out (by decide) (by decide)).mono ?_
  rintro e w2 ⟨rfl, h2, O2⟩
  have b2 := O2.heap b1 (by omega) (by decide)
  have k2 := O2.heap k1 (by omega) (by decide)
  have P2 := P1.out.trans O2
  obtain ⟨c0, c1, c2, c3, c4, c5, c6, c7, c8, f0, f1, f2, f3, f4, f5, f6, f7, f8⟩ := blk9 b2
  obtain ⟨d0, d1, d2, d3, d4, d5, d6, d7, d8, g0, g1, g2, g3, g4, g5, g6, g7, g8⟩ := blk9 k2
  replace h2 := Lib.hid h2
  replace P2 := Lib.hid P2
  clear O2 P1
  go_wp2_with fail
  refine (hQ.out _ _ h2.out (by decide)).mono ?_
  clear c0 c1 c2 c3 c4 c5 c6 c7 c8 f0 f1 f2 f3 f4 f5 f6 f7 f8 d0 d1 d2 d3 d4 d5 d6 d7 d8 g0 g1 g2 g3 g4 g5 g6 g7 g8
  rintro e w3 ⟨rfl, h3, O3⟩
  have b3 := O3.heap b2 (by omega) (by decide)
  have k3 := O3.heap k2 (by omega) (by decide)
  have P3 := P2.out.trans O3
  obtain ⟨c0, c1, c2, c3, c4, c5, c6, c7, c8, f0, f1, f2, f3, f4, f5, f6, f7, f8⟩ := blk9 b3
  obtain ⟨d0, d1, d2, d3, d4, d5, d6, d7, d8, g0, g1, g2, g3, g4, g5, g6, g7, g8⟩ := blk9 k3
  replace h3 := Lib.hid h3
  replace P3 := Lib.hid P3
  clear O3 P2
  go_wp2_with fail
  refine (hw.out _ 44 _ h3.out (by decide)).mono ?_
  clear c0 c1 c2 c3 c4 c5 c6 c7 c8 f0 f1 f2 f3 f4 f5 f6 f7 f8 d0 d1 d2 d3 d4 d5 d6 d7 d8 g0 g1 g2 g3 g4 g5 g6 g7 g8
  rintro e w4 ⟨rfl, h4, O4⟩
  have b4 := O4.heap b3 (by omega) (by decide)
  have k4 := O4.heap k3 (by omega) (by decide)
  have P4 := P3.out.trans O4
  obtain ⟨c0, c1, c2, c3, c4, c5, c6, c7, c8, f0, f1, f2, f3, f4, f5, f6, f7, f8⟩ := blk9 b4
  obtain ⟨d0, d1, d2, d3, d4, d5, d6, d7, d8, g0, g1, g2, g3, g4, g5, g6, g7, g8⟩ := blk9 k4
  replace h4 := Lib.hid h4
  replace P4 := Lib.hid P4
  clear O4 P3
  go_wp2_with fail
  refine (hK.out _ _ h4.out (by decide)).mono ?_
  clear c0 c1 c2 c3 c4 c5 c6 c7 c8 f0 f1 f2 f3 f4 f5 f6 f7 f8 d0 d1 d2 d3 d4 d5 d6 d7 d8 g0 g1 g2 g3 g4 g5 g6 g7 g8
  rintro e w5 ⟨rfl, h5, O5⟩
  have b5 := O5.heap b4 (by omega) (by decide)
  have k5 := O5.heap k4 (by omega) (by decide)
  have P5 := P4.out.trans O5
  obtain ⟨c0, c1, c2, c3, c4, c5, c6, c7, c8, f0, f1, f2, f3, f4, f5, f6, f7, f8⟩ := blk9 b5
  obtain ⟨d0, d1, d2, d3, d4, d5, d6, d7, d8, g0, g1, g2, g3, g4, g5, g6, g7, g8⟩ := blk9 k5
  replace h5 := Lib.hid h5
  replace P5 := Lib.hid P5
  clear O5 P4
  go_wp2_with fail
  refine (hW.out _ _ _ h5.out (by decide) (by decide)).mono ?_
  rintro e w6 ⟨rfl, h6, O6⟩
  have P6 := P5.out.trans O6
  go_wp2_with fail
  go_end0
  exact ⟨rfl, h6, P6⟩
end Go.Proofs.YtcpgcjmamjjokaaGreatDoor
namespace Go.Proofs.YtcpgcjmamjjokaaGreatDoor
open Go.RowKit Go.Maps Go.Proofs.YtcpgcjmamjjokaaGreatDoorW.PrintWords Go.Proofs.YtcpgcjmamjjokaaGreatDoorW.PrintMore Go.Proofs.YtcpgcjmamjjokaaGreatDoor.PTopLimits
set_option linter.unusedVariables false
set_option linter.unusedSimpArgs false
def kidT : S36 := ⟨6, false, z32, 0, ⟨#[0]⟩, [], []⟩
def topT : S36 := ⟨9, false, z32, 0, ⟨#[116]⟩, [], [kidT]⟩
theorem kid_fit : Fit kidT := .mk _ (by decide) (by decide) (by decide) (fun s hs => by cases hs) (by decide) (fun y hy => by cases hy)
theorem top_fit : Fit topT := .mk _ (by decide) (by decide) (by decide) (fun s hs => by cases hs) (by decide) (fun y hy => by
  rw [List.mem_singleton.1 hy]
  exact kid_fit)
theorem C_nil {α : Type} (d : Kd α) (w : World) (A : Option Addr) : d.C w A 0 [] := ⟨rfl, by omega, fun h => by omega⟩
/-- Where the one value lies, whatever its list's capacity. -/
theorem top_vr {w : World} {g off : Nat} (h : ∀ j, j < 9 → w.cell? ⟨g, off + j, none⟩ = [Value.int .i64 6, .bool false, .bool false, .string ⟨#[]⟩, .int .i64 0, .int .u64 0, .string ⟨#[0]⟩, .slice none 0 0, .slice none 0 0][j]?) {d : Nat} (hd : 1 ≤ d) : VR w topT none 0 (some ⟨g, off, none⟩) d := by
  refine ⟨C_nil _ _ _, Nat.le_refl _, ⟨rfl, by decide, fun _ => ⟨_, rfl, fun j p hj => ?_⟩⟩, hd⟩
  have hj0 : j = 0 ∧ p = kidT := by
    rcases j with _ | j
    · exact ⟨rfl, (Option.some.inj hj).symm⟩
    · cases hj
  obtain ⟨rfl, rfl⟩ := hj0
  refine ⟨[.int .i64 6, .bool false, .bool false, .string ⟨#[]⟩, .int .i64 0, .int .u64 0, .string ⟨#[0]⟩, .slice none 0 0, .slice none 0 0], rfl, k36_mk w kidT (Nat.le_refl 0) (C_nil _ _ none) (Nat.le_refl 0) (C_nil _ _ none), fun i u hu => ?_⟩
  have hi : i < 9 := by
    rcases Nat.lt_or_ge i 9 with h | h
    · exact h
    · rw [List.getElem?_eq_none (by exact h)] at hu; cases hu
  have e : (Addr.add ⟨g, off, none⟩ (0 * k36.sz + i)) = ⟨g, off + i, none⟩ := by
    rw [Nat.zero_mul, Nat.zero_add]
    rcases i with _ | i <;> simp [Addr.add]
  rw [e, h i hi]
  exact hu
theorem top_kid {w : World} {g : Nat} (h : Kid g w) : VR w topT none 0 (some ⟨g, 0, none⟩) 1 :=
  top_vr (off := 0) (fun j hj => by rw [Nat.zero_add]; exact (blk_cell h j).trans (by simp)) (Nat.le_refl 1)
theorem top_chk : chkT topT = 0 := by
  have h0 : (⟨#[]⟩ : ByteArray).toList = [] := by rw [Lib.toList_data]
  have h1 : baseF kidT = true := by simp [baseF, kidT, rz, z32, h0]
  have h2 : baseF topT = true := by
    have : Lib.validD [116] = true := by decide +kernel
    simp [baseF, topT, rz, z32, h0, this]
  have h3 : frmT topT = true := by
    rw [frmT_eq, h2]
    show frmL [kidT] = true
    rw [frmL, frmL, frmT_eq, h1]
    rfl
  have h4 : shoT topT = true := by
    rw [shoT_eq]
    show (_ && shoL [kidT]) = true
    rw [shoL, shoL, shoT_eq]
    rfl
  unfold chkT
  rw [h3, h4, if_neg (by simp), if_neg]
  rintro (h | h | h)
  · cases h
  · revert h; decide +kernel
  · revert h; decide +kernel
theorem top_check {w : World} {g : Nat} (h : Kid g w) (hT : Lib.Utf8Tabs 0 1 w) : Calls Tryz.prog 20 #[topV g] w fun e w' => e = .returned (.int .i64 0) ∧ Below w.heap.size w w' := by
  have hC := Check_any top_fit none 0 (some ⟨g, 0, none⟩) 1 w (top_kid h) hT
  rw [top_chk] at hC
  exact hC
theorem BytesAt.made (w : World) (l : List UInt8) (hl : l.length ≤ 100000 := by decide) : BytesAt (Lib.bytesWorld w 5 ⟨l.toArray⟩) (some ⟨w.heap.size, 0, none⟩) l := by
  refine ⟨by simp, by omega, fun _ => ⟨_, rfl, fun j hj => ?_⟩⟩
  have e : (Addr.add ⟨w.heap.size, 0, none⟩ j) = ⟨w.heap.size, j, none⟩ := by rcases j with _ | j <;> simp [Addr.add]
  rw [e, Lib.bytesWorld_cell w 5 ⟨l.toArray⟩ j (by show j < l.toArray.size; simpa using hj)]
  simp [List.getD_eq_getElem?_getD, hj]
theorem Kid.below {w w' : World} {g : Nat} (h : Kid g w) (hb : Below w.heap.size w w') : Kid g w' := blk_below h hb
set_option maxHeartbeats 3200000 in
set_option maxRecDepth 100000 in
theorem jwrite (w : World) (g : Nat) (hg : Kid g w) (hL : Laid w) :
    Calls Tryz.prog 50 #[topV g] w fun e w' => ∃ (A : Option Addr) (c : Nat), e = .returned (.tuple #[.slice A 30 c, .int .i64 0]) ∧ BytesAt w' A jsonL ∧ 30 ≤ c ∧ Below w.heap.size w w' := by
  have hC := Lib.hid (fun X (hb : Below w.heap.size w X) => top_check (hg.below hb) (Utf8Tabs_below hL.tabs hb))
  have hLay := Lib.hid (fun B w h g hg hgB => jlay_top B w h g hg hgB)
  have hSt := Lib.hid (fun B l w h => st_any B l w h)
  have hLn := Lib.hid (fun B l w h => ln_any B l w h)
  have hcv := cv_bytes
  have hgl := blk_lt hg
  unfold topV at *
  replace hg := Lib.hid hg
  clear hL
  go_enter Tryz.func50, Tryz.ntmps50
  go_wp2_with fail
  generalize hw1 : World.alloc w _ = w1
  obtain ⟨X, hX⟩ : ∃ X, w.heap.size = X := ⟨_, rfl⟩
  rw [hX]
  obtain ⟨b1, B1⟩ : w1.heap[X]? = some (.cells #[.int .i64 9, .bool false, .bool false, .string ⟨#[]⟩, .int .i64 0, .int .u64 0, .string ⟨#[116]⟩, .slice none 0 0, .slice (some ⟨g, 0, none⟩) 1 1] 36 (0, 0)) ∧ Below w.heap.size w w1 := by
    subst hw1 hX
    exact ⟨heap_alloc_new _ _, below_alloc (Below.refl _ _) _⟩
  clear hw1
  replace hX := Lib.hid hX
  refine (hC.out _ B1).mono ?_
  rintro e w2 ⟨rfl, B2⟩
  have b2 := blk_below b1 B2
  have B3 := below_then B1 B1.size B2
  have hXl := blk_lt b2
  clear b1 B1 B2
  obtain ⟨c0, c1, c2, c3, c4, c5, c6, c7, c8, f0, f1, f2, f3, f4, f5, f6, f7, f8⟩ := blk9 b2
  replace b2 := Lib.hid b2
  replace B3 := Lib.hid B3
  go_wp2_with fail
  generalize hw3 : World.alloc w2 _ = w3
  obtain ⟨B, hB⟩ : ∃ B, w2.heap.size = B := ⟨_, rfl⟩
  rw [hB]
  obtain ⟨h3, B4, k3, hgB⟩ : Bld B [] w3 ∧ Below w.heap.size w w3 ∧ Kid g w3 ∧ g < B := by
    subst hw3 hB
    exact ⟨Bld.fresh _, below_alloc B3.out _, (hg.out.below B3.out).below (below_alloc (Below.refl _ _) _), Nat.lt_of_lt_of_le hgl B3.out.size⟩
  have hwB : w.heap.size ≤ B := by rw [← hB]; exact B3.out.size
  clear hw3 hB c0 c1 c2 c3 c4 c5 c6 c7 c8 f0 f1 f2 f3 f4 f5 f6 f7 f8 b2 hXl
  replace B4 := Lib.hid B4
  replace hwB := Lib.hid hwB
  refine (hLay.out B w3 h3 g k3 hgB).mono ?_
  rintro e w4 ⟨rfl, h4, O4⟩
  have B5 := Lib.hid (B4.out.trans (O4.b.mono hwB.out))
  replace h4 := Lib.hid h4
  clear B4 h3 k3 O4 hLay
  go_wp2_with fail
  refine (hLn.out B _ _ h4.out).mono ?_
  rintro e w5 ⟨rfl, rfl⟩
  have hd : decide ((65536 : Int) < (jsonL.length : Int)) = false := by decide
  go_wp2_with fail
  refine (hSt.out B _ _ h4.out).mono ?_
  rintro e w6 ⟨rfl, h6, O6⟩
  have B7 := B5.out.trans (O6.b.mono hwB.out)
  have B8 := below_then B7 B7.size (bytes_below w6 ⟨jsonL.toArray⟩)
  have hby := BytesAt.made w6 jsonL
  have hsz : (⟨jsonL.toArray⟩ : ByteArray).size = 30 := by decide
  have hcap := grownCap_ge w6 30 0 5
  clear B5 h4 O6 B7 h6
  replace B8 := Lib.hid B8
  replace hby := Lib.hid hby
  replace hcap := Lib.hid hcap
  generalize hj : (⟨jsonL.toArray⟩ : ByteArray) = js at *
  go_wp2_with fail
  go_ret2
  exact ⟨_, _, rfl, hby.out, hcap.out, B8.out⟩
end Go.Proofs.YtcpgcjmamjjokaaGreatDoor
namespace Go.Proofs.YtcpgcjmamjjokaaGreatDoor
open Go.RowKit Go.Maps Go.Proofs.YtcpgcjmamjjokaaGreatDoorW.PrintWords Go.Proofs.YtcpgcjmamjjokaaGreatDoorW.PrintMore Go.Proofs.YtcpgcjmamjjokaaGreatDoor.PTopLimits
set_option linter.unusedVariables false
set_option linter.unusedSimpArgs false
/-- What is left to be read. -/
def JR (R : Nat) (l : List UInt8) (w : World) : Prop := w.heap[R]? = some (.cells #[.string ⟨l.toArray⟩, .bool false] 257 (0, 0))
theorem JR.kp {R : Nat} {l : List UInt8} {w w' : World} {S : Nat → Prop} (h : JR R l w) (k : Kp w w' S) (hS : ¬ S R) : JR R l w' := k.heap h hS
theorem JR.below {R : Nat} {l : List UInt8} {w w' : World} (h : JR R l w) (hb : Below w.heap.size w w') : JR R l w' := blk_below h hb
theorem Kp.of_b {B : Nat} {w w' : World} (h : Below B w w') : Kp w w' (fun k => B ≤ k) := ⟨h.os, h.tape, h.output, h.size, fun k _ hn => h.block k (by omega)⟩
theorem Kp.b {w w1 w2 : World} {S : Nat → Prop} {B : Nat} (h : Kp w w1 S) (k : Below B w1 w2) (hB : w.heap.size ≤ B) : Kp w w2 S := h.trans (Kp.of_b k) (fun i hi => .inr (by omega))
theorem Kp.tabs {w w' : World} {S : Nat → Prop} (h : Kp w w' S) (hT : Lib.Utf8Tabs 0 1 w) (h0 : ¬ S 0) (h1 : ¬ S 1) : Lib.Utf8Tabs 0 1 w' := by
  have e0 : w'.heap[0]? = w.heap[0]? := h.block 0 (World.block_lt_of_cell? _ _ (hT.1 0 (by omega))) h0
  have e1 : w'.heap[1]? = w.heap[1]? := h.block 1 (World.block_lt_of_cell? _ _ (hT.2 0 (by omega)).1) h1
  refine ⟨fun c hc => ?_, fun i hi => ⟨?_, ?_⟩⟩
  · rw [World.cell?_of_block e0]; exact hT.1 c hc
  · rw [World.cell?_of_block e1]; exact (hT.2 i hi).1
  · rw [World.cell?_of_block e1]; exact (hT.2 i hi).2
theorem ownF_base {w : World} {B : Nat} {e : TypeId} {size n : Nat} {v : Value} {xs : List Value} (h : w.ownsRowF B e size v n xs) {k : Nat} (hk : v.ownBlock = some k) : B ≤ k := by
  rcases h.2 with ⟨rfl, _⟩ | ⟨g, cap, cur, fz, rfl, hb, _⟩
  · simp [Value.ownBlock] at hk
  · have : g = k := by simpa [Value.ownBlock] using hk
    omega
theorem Bld.far {B : Nat} {l : List UInt8} {w : World} (h : Bld B l w) {R j : Nat} {v : Value} (hR : R < B) : Bld B l (w.setCell ⟨R, j, none⟩ v) := by
  have hg : w.grownBy (w.setCell ⟨R, j, none⟩ v) (some R) := ⟨rfl, rfl, rfl, by simp [World.setCell], fun k _ hk => Below.heap_setCell w ⟨R, j, none⟩ v k (fun e => hk (by rw [e]))⟩
  unfold Bld Lib.IsBuilderF Lib.BuilderAtF at *
  have hb : ∀ o, w.heap[B]? = some o → (w.setCell ⟨R, j, none⟩ v).heap[B]? = some o := fun o ho => (Below.heap_setCell w ⟨R, j, none⟩ v B (by show B ≠ R; omega)).trans ho
  have hv : ∀ u : Value, (∀ k, u.ownBlock = some k → B ≤ k) → u.ownBlock = none ∨ u.ownBlock ≠ some R := fun u hu => by
    cases hc : u.ownBlock with
    | none => exact .inl rfl
    | some k => exact .inr (fun e => by have := hu k hc; injection e with e; omega)
  rcases h with ⟨h1, u, h2, h3, h4⟩ | ⟨h1, u, h2, h3, h4⟩
  · exact .inl ⟨h1, u, hb _ h2, h3.kept hg (hv u (fun k hk => ownF_base h3 hk)), h4⟩
  · exact .inr ⟨h1, u, hb _ h2, h3.kept hg (hv u (fun k hk => ownF_base h3 hk)), h4⟩
theorem kp_one (w : World) (R j : Nat) (v : Value) : Kp w (w.setCell ⟨R, j, none⟩ v) (· = R) := (Kp.refl w (· = R)).set_ (p := ⟨R, j, none⟩) (.inl rfl) v
set_option maxRecDepth 100000 in
theorem jis_ok (w : World) : Calls Tryz.prog 184 #[.bool true] w fun e w' => e = .returned (.tuple #[]) ∧ w' = w := by
  go_enter Tryz.func184, Tryz.ntmps184
  go_wp2_with fail
  go_end0
  exact ⟨rfl, rfl⟩
set_option maxRecDepth 100000 in
theorem jblanks (R : Nat) (l : List UInt8) (w : World) (h : JR R l w) (hl : Lib.trimLeftS l [32, 9, 10, 13] = l) :
    Calls Tryz.prog 182 #[.pointer (some ⟨R, 0, none⟩)] w fun e w' => e = .returned (.tuple #[]) ∧ JR R l w' ∧ Kp w w' (· = R) := by
  have hT := Lib.hid (fun w => Any.strings_TrimLeft_laid Tryz.lays161 set225 ⟨l.toArray⟩ ⟨#[32, 9, 10, 13]⟩ w (by decide) (ascii_of_all (by decide)))
  obtain ⟨c0, c1, f0, f1⟩ := blk2 h
  have hlt := blk_lt h
  go_enter Tryz.func182, Tryz.ntmps182
  go_wp2_with fail
  refine (hT.out _).mono ?_
  rintro e w1 ⟨rfl, B1⟩
  have h1 := JR.below h B1
  obtain ⟨c0, c1, f0, f1⟩ := blk2 h1
  have hlt1 := blk_lt h1
  have he : (⟨(Lib.trimLeftS (⟨l.toArray⟩ : ByteArray).data.toList (⟨#[32, 9, 10, 13]⟩ : ByteArray).data.toList).toArray⟩ : ByteArray) = ⟨l.toArray⟩ := by
    show (⟨(Lib.trimLeftS l.toArray.toList [32, 9, 10, 13]).toArray⟩ : ByteArray) = _
    rw [show l.toArray.toList = l by simp, hl]
  rw [he]
  replace h1 := Lib.hid h1
  go_wp2_with fail
  go_end0
  exact ⟨rfl, blk_put h1.out 0 _ rfl, (Kp.of_below B1 (· = R)).trans (kp_one w1 R 0 _) (fun i hi => .inl hi)⟩
set_option maxRecDepth 100000 in
theorem jcomes (R : Nat) (l p : List UInt8) (w : World) (h : JR R l w) :
    Calls Tryz.prog 221 #[.pointer (some ⟨R, 0, none⟩), .string ⟨p.toArray⟩] w fun e w' => e = .returned (.bool (Lib.hasPrefix l p)) ∧ JR R (Lib.trimPrefix l p) w' ∧ Kp w w' (· = R) := by
  have hC := Lib.hid (fun w => Tryz.strings_CutPrefix ⟨l.toArray⟩ ⟨p.toArray⟩ w)
  obtain ⟨c0, c1, f0, f1⟩ := blk2 h
  have hlt := blk_lt h
  replace h := Lib.hid h
  go_enter Tryz.func221, Tryz.ntmps221
  go_wp2_with fail
  refine (hC.out _).mono ?_
  rintro e w1 ⟨rfl, rfl⟩
  go_wp2_with fail
  go_ret
  exact ⟨by simp, by have h2 := blk_put h.out 0 (.string ⟨(Lib.trimPrefix l p).toArray⟩) rfl; unfold JR; simpa using h2, kp_one _ R 0 _⟩
/-- Characters that stand for themselves. -/
def Plain (s : List UInt8) : Prop := ∀ c ∈ s, 32 ≤ c.toNat ∧ c ≠ 34 ∧ c ≠ 92
set_option maxHeartbeats 3200000 in
set_option maxRecDepth 100000 in
theorem jtext (R : Nat) (s r : List UInt8) (hs : Plain s) (hv : Lib.validD s = true) (hlen : s.length ≤ 1000) (w : World) (h : JR R (34 :: s ++ 34 :: r) w) (hT : Lib.Utf8Tabs 0 1 w) (hR : 2 ≤ R) :
    Calls Tryz.prog 222 #[.pointer (some ⟨R, 0, none⟩)] w fun e w' => e = .returned (.string ⟨s.toArray⟩) ∧ JR R r w' ∧ Kp w w' (· = R) := by
  have hC := Lib.hid (fun l p w h => jcomes R l p w h)
  have hI := Lib.hid (fun w => jis_ok w)
  have hw := Lib.hid (fun B l c w h hl => wb_any B l c w h hl)
  have hSt := Lib.hid (fun B l w h => st_any B l w h)
  have hVd := Lib.hid (fun w hT => Valid_any ⟨s.toArray⟩ (by show s.toArray.size ≤ _; simp; omega) w hT)
  replace h := Lib.hid h
  replace hT := Lib.hid hT
  replace hs := Lib.hid hs
  replace hv := Lib.hid hv
  go_enter Tryz.func222, Tryz.ntmps222
  go_wp2_with fail
  refine (hC.out _ [34] _ h.out).mono ?_
  rintro e w1 ⟨rfl, h1, K1⟩
  have e1 : Lib.hasPrefix (34 :: s ++ 34 :: r) [34] = true := by simp [Lib.hasPrefix]
  have e2 : Lib.trimPrefix (34 :: s ++ 34 :: r) [34] = s ++ 34 :: r := by simp [Lib.trimPrefix, Lib.hasPrefix]
  rw [e1]
  rw [e2] at h1
  clear e1 e2 hC
  replace h1 := Lib.hid h1
  replace K1 := Lib.hid K1
  go_wp2_with fail
  refine (hI.out _).mono ?_
  rintro e w2 ⟨rfl, rfl⟩
  go_wp2_with fail
  generalize hw3 : World.alloc w2 _ = w3
  obtain ⟨B, hB⟩ : ∃ B, w2.heap.size = B := ⟨_, rfl⟩
  rw [hB]
  obtain ⟨h3, b3, K3, hwB⟩ : JR R (s ++ 34 :: r) w3 ∧ Bld B [] w3 ∧ Kp w w3 (· = R) ∧ w.heap.size ≤ B := by
    subst hw3 hB
    exact ⟨h1.out.below (below_alloc (Below.refl _ _) _), Bld.fresh _, K1.out.alloc _, K1.out.size⟩
  have hRB : R < B := Nat.lt_of_lt_of_le (blk_lt h.out) hwB
  clear hw3 hB h1 K1 h
  have hTw := Lib.hid (fun X (k : Kp w X (· = R)) => k.tabs hT.out (by omega) (by omega))
  go_loopg [4] (s.length + 1) (fun kq v4 w' => ∃ X, X = w' ∧ 1 ≤ kq ∧ kq ≤ s.length + 1 ∧ Hid (JR R (s.drop (s.length + 1 - kq) ++ 34 :: r) X) ∧ Hid (Bld B (s.take (s.length + 1 - kq)) X) ∧ Hid (Kp w X (· = R)))
  case atStart => exact ⟨_, rfl, by omega, Nat.le_refl _, by rw [Nat.sub_self, List.drop_zero]; exact Lib.hid h3, by rw [Nat.sub_self, List.take_zero]; exact Lib.hid b3, Lib.hid K3⟩
  case round =>
    obtain ⟨X, rfl, q1, q2, hJ, hB, hK⟩ := hrel
    clear h3 b3 K3
    obtain ⟨kq, rfl⟩ : ∃ m, gk = m + 1 := ⟨gk - 1, by omega⟩
    obtain ⟨c, l, hcl⟩ : ∃ c l, s.drop (s.length + 1 - (kq + 1)) ++ 34 :: r = c :: l := by
      cases h : s.drop (s.length + 1 - (kq + 1)) with
      | nil => exact ⟨_, _, rfl⟩
      | cons a b => exact ⟨_, _, rfl⟩
    have hJ2 := hJ.out
    rw [hcl] at hJ2
    obtain ⟨d, hd⟩ : ∃ d : ByteArray, (⟨(c :: l).toArray⟩ : ByteArray) = d := ⟨_, rfl⟩
    have hdl : d.data.toList = c :: l := by rw [← hd]
    have hs1 : d.size = l.length + 1 := by rw [Lib.size_eq, hdl]; rfl
    have hix : ∀ h : 0 < d.size, d[0]'h = c := by
      intro h
      have h2 : d.data[0]? = some c := by rw [← Array.getElem?_toList, hdl]; rfl
      obtain ⟨h3, h4⟩ := Array.getElem?_eq_some_iff.1 h2
      exact h4
    have hne : d.toList.isEmpty = false := by rw [Lib.toList_data, hdl]; rfl
    have hex : d.extract 1 (l.length + 1) = ⟨l.toArray⟩ := by
      rw [Lib.extract_eq, hdl]
      simp
    unfold JR at hJ2
    rw [hd] at hJ2
    have hRl := blk_lt hJ2
    obtain ⟨c0, c1, f0, f1⟩ := blk2 hJ2
    replace hJ2 := Lib.hid hJ2
    clear hJ hd
    replace hcl := Lib.hid hcl
    replace hdl := Lib.hid hdl
    go_wp2_with fail
    refine (hI.out _).mono ?_
    rintro e X1 ⟨rfl, rfl⟩
    have K2 := hK.out.trans (kp_one X1 R 0 (.string ⟨l.toArray⟩)) (fun i hi => .inl hi)
    have hJ3 : JR R l (X1.setCell ⟨R, 0, none⟩ (.string ⟨l.toArray⟩)) := blk_put hJ2.out 0 _ rfl
    have hB3 : Bld B (s.take (s.length + 1 - (kq + 1))) (X1.setCell ⟨R, 0, none⟩ (.string ⟨l.toArray⟩)) := hB.out.far (by omega)
    replace K2 := Lib.hid K2
    replace hJ3 := Lib.hid hJ3
    replace hB3 := Lib.hid hB3
    clear c1 f1 hK hJ2 hB
    cases kq with
    | zero =>
      have e1 : c = 34 ∧ l = r := by
        have h := hcl.out
        rw [List.drop_eq_nil_of_le (by omega)] at h
        simp at h
        exact ⟨h.1.symm, h.2.symm⟩
      obtain ⟨rfl, rfl⟩ := e1
      rw [List.take_of_length_le (by omega)] at hB3
      go_wp2_with fail
      refine (hSt.out B _ _ hB3.out).mono ?_
      rintro e X2 ⟨rfl, hB4, O4⟩
      have K4 := Lib.hid (K2.out.b O4.b hwB)
      have hJ4 := Lib.hid (show JR R l X2 from O4.heap hJ3.out (by omega) (by decide))
      replace hB4 := Lib.hid hB4
      clear O4 hJ3 hB3 K2
      go_wp2_with fail
      refine (hVd.out _ (hTw.out _ K4.out)).mono ?_
      rintro e X3 ⟨rfl, B3⟩
      rw [hv.out]
      have K5 := Lib.hid (K4.out.below B3)
      have hJ5 := Lib.hid (hJ4.out.below B3)
      have hB5 := Lib.hid (hB4.out.below B3)
      clear B3 K4 hJ4 hB4
      go_wp2_with fail
      refine (hI.out _).mono ?_
      rintro e X4 ⟨rfl, rfl⟩
      go_wp2_with fail
      refine (hSt.out B _ _ hB5.out).mono ?_
      rintro e X5 ⟨rfl, hB6, O6⟩
      have K6 := K5.out.b O6.b hwB
      have hJ6 : JR R l X5 := O6.heap hJ5.out (by omega) (by decide)
      go_wp2_with fail
      go_ret
      exact ⟨rfl, hJ6, K6⟩
    | succ kq =>
      obtain ⟨h1, h2⟩ : s.length + 1 - (kq + 1 + 1) < s.length ∧ s.length + 1 - (kq + 1) = s.length + 1 - (kq + 1 + 1) + 1 := by omega
      have e1 : s.drop (s.length + 1 - (kq + 1 + 1)) = c :: s.drop (s.length + 1 - (kq + 1)) ∧ l = s.drop (s.length + 1 - (kq + 1)) ++ 34 :: r := by
        have h := hcl.out
        rw [List.drop_eq_getElem_cons h1] at h
        injection h with h3 h4
        rw [List.drop_eq_getElem_cons h1, h2, h3]
        exact ⟨rfl, h4.symm⟩
      have e2 : s.take (s.length + 1 - (kq + 1)) = s.take (s.length + 1 - (kq + 1 + 1)) ++ [c] := by
        rw [h2, List.take_add_one, ← List.head?_drop, e1.1]
        rfl
      have hc := hs.out c (List.mem_of_mem_drop (i := s.length + 1 - (kq + 1 + 1)) (by rw [e1.1]; simp))
      have hlt := List.length_take_le (s.length + 1 - (kq + 1 + 1)) s
      have k1 : ((c.toNat : Int) == 34) = false := beq_eq_false_iff_ne.2 (fun h => hc.2.1 (by apply UInt8.toNat_inj.1; show c.toNat = 34; omega))
      have k2 : ((c.toNat : Int) == 92) = false := beq_eq_false_iff_ne.2 (fun h => hc.2.2 (by apply UInt8.toNat_inj.1; show c.toNat = 92; omega))
      have k3 : decide ((32 : Int) ≤ (c.toNat : Int)) = true := decide_eq_true (by have := hc.1; omega)
      have hlt2 : (s.take (s.length + 1 - (kq + 1 + 1))).length ≤ 100000 := by
        rw [List.length_take]; omega
      have hE := Lib.hid (And.intro e1 e2)
      replace hlt2 := Lib.hid hlt2
      clear e1 e2 hc hlt h1 h2
      go_wp2_with fail
      refine (hI.out _).mono ?_
      rintro e X4 ⟨rfl, rfl⟩
      go_wp2_with fail
      refine (hw.out B _ c _ hB3.out hlt2.out).mono ?_
      rintro e X5 ⟨rfl, hB6, O6⟩
      have K6 := Lib.hid (K2.out.b O6.b hwB)
      have hJ6 : JR R l X5 := O6.heap hJ3.out (by omega) (by decide)
      rw [← hE.out.2] at hB6
      rw [hE.out.1.2] at hJ6
      replace hB6 := Lib.hid hB6
      replace hJ6 := Lib.hid hJ6
      clear O6 hB3 hJ3 K2
      go_wp2_with fail
      go_roundg (kq + 1)
      case measure => omega
      case rel => exact ⟨_, rfl, by omega, by omega, hJ6, hB6, K6⟩
end Go.Proofs.YtcpgcjmamjjokaaGreatDoor
namespace Go.Proofs.YtcpgcjmamjjokaaGreatDoor
open Go.RowKit Go.Maps Go.Proofs.YtcpgcjmamjjokaaGreatDoorW.PrintWords Go.Proofs.YtcpgcjmamjjokaaGreatDoorW.PrintMore Go.Proofs.YtcpgcjmamjjokaaGreatDoor.PTopLimits
set_option linter.unusedVariables false
set_option linter.unusedSimpArgs false
set_option maxHeartbeats 3200000 in
set_option maxRecDepth 100000 in
theorem pu_inner (w : World) : Calls Tryz.prog 257 #[.string ⟨#[48, 48]⟩, .int .i64 16, .int .i64 8] w fun e w' => e = .returned (.tuple #[.int .u64 0, .nilIface]) ∧ Below w.heap.size w w' := by
  have hcv := cv_bytes
  go_enter Tryz.func257, Tryz.ntmps257
  go_wp2_with fail
  generalize hw1 : Lib.bytesWorld w 5 _ = w1
  obtain ⟨B1, c0, c1⟩ : Below w.heap.size w w1 ∧ w1.cell? ⟨w.heap.size, 0, none⟩ = some (.int .u8 48) ∧ w1.cell? ⟨w.heap.size, 1, none⟩ = some (.int .u8 48) := by
    subst hw1
    exact ⟨bytes_below _ _, (Lib.bytesWorld_cell w 5 ⟨#[48, 48]⟩ 0 (by decide)).trans rfl, (Lib.bytesWorld_cell w 5 ⟨#[48, 48]⟩ 1 (by decide)).trans rfl⟩
  clear hw1
  replace B1 := Lib.hid B1
  refine wp_loop_rounds 3 ?_
  rw [rounds_succ]
  go_wp2_with fail
  rw [rounds_succ]
  go_wp2_with fail
  rw [rounds_succ]
  go_wp2_with fail
  go_ret2
  exact ⟨rfl, B1.out⟩
set_option maxHeartbeats 3200000 in
set_option maxRecDepth 100000 in
theorem pu_outer (w : World) : Calls Tryz.prog 283 #[.string ⟨#[48, 48]⟩, .int .i64 16, .int .i64 8] w fun e w' => e = .returned (.tuple #[.int .u64 0, .nilIface]) ∧ Below w.heap.size w w' := by
  have hI := Lib.hid (fun w => pu_inner w)
  go_enter Tryz.func283, Tryz.ntmps283
  go_wp2_with fail
  refine (hI.out _).mono ?_
  rintro e w1 ⟨rfl, B1⟩
  go_wp2_with fail
  go_ret2
  exact ⟨rfl, B1⟩
set_option maxHeartbeats 3200000 in
set_option maxRecDepth 100000 in
theorem junhex (w : World) (hI : ∀ w, Calls Tryz.prog 184 #[.bool true] w fun e w' => e = .returned (.tuple #[]) ∧ w' = w) : Calls Tryz.prog 270 #[.string ⟨#[48, 48]⟩] w fun e w' => e = .returned (.string ⟨#[0]⟩) ∧ Below w.heap.size w w' := by
  have hP := Lib.hid (fun w => pu_outer w)
  have hT := Lib.hid (fun w => Any.strings_Trim_laid Tryz.lays160 set225 ⟨#[48, 48]⟩ ⟨#[48, 49, 50, 51, 52, 53, 54, 55, 56, 57, 97, 98, 99, 100, 101, 102]⟩ w (by decide) (by decide) (ascii_of_all (by decide)))
  replace hI := Lib.hid hI
  obtain ⟨i0, hi, hz0, hz1, hz2⟩ := info_parts info5
  have hex : (⟨#[48, 48]⟩ : ByteArray).extract 0 2 = ⟨#[48, 48]⟩ := by rw [Lib.extract_eq]; rfl
  go_enter Tryz.func270, Tryz.ntmps270
  go_wp2_with fail
  refine (hT.out _).mono ?_
  rintro e w1 ⟨rfl, B1⟩
  have et : (⟨(Lib.trimS (⟨#[48, 48]⟩ : ByteArray).data.toList (⟨#[48, 49, 50, 51, 52, 53, 54, 55, 56, 57, 97, 98, 99, 100, 101, 102]⟩ : ByteArray).data.toList).toArray⟩ : ByteArray) = ⟨#[]⟩ := by decide +kernel
  rw [et]
  replace B1 := Lib.hid B1
  go_wp2_with fail
  refine (hI.out _).mono ?_
  rintro e w2 ⟨rfl, rfl⟩
  go_wp2_with fail
  refine wp_loop_rounds 2 ?_
  rw [rounds_succ]
  go_wp2_with fail
  refine (hP.out _).mono ?_
  rintro e w3 ⟨rfl, B3⟩
  have B4 := Lib.hid (below_then B1.out B1.out.size B3)
  have hsz : ∀ o, (w3.alloc o).heap.size = w3.heap.size + 1 := fun o => Array.size_push _
  clear B3 B1
  go_wp2_with (at_builtin; refine wpList_append_lies _ rfl _ _ 65 rfl w3.heap.size 5 i0 _ 1 1 Tryz.underlying65 hi hz0 hz1 hz2 rfl (by omega) (.slice none 0 0) 0 [] (by rfl) (World.ownsRow_nil _ _ _ _) ⟨w3.heap.size, 0, none⟩ 1 1 [.int .u8 0] (by rfl) (by rfl) (World.news_of_block (cs := #[.int .u8 0]) (t := 5) (fr := (0, 0)) (heap_alloc_new _ _)) (by simp [Value.oneCell']) (by omega) (by unfold maxLen; omega) (by omega) (by rw [hsz]; omega) _ rfl ?_; intro g6 cap6 w6 hown hgrow hat hlt6)
  have hrow := BytesAt.own (l := [0]) hown (by decide)
  have hstr : (convert 65 9 (.slice (some ⟨g6, 0, none⟩) 1 cap6)).run Tryz.prog w6 = .ok (.string ⟨#[0]⟩) w6 := hrow.str cap6
  have B6 := Lib.hid (pw_below_grown (below_alloc B4.out _) _ (by rw [hsz]; have := B4.out.size; omega) hgrow (fun k hk => by cases hk))
  clear hown hgrow hat hrow B4 hlt6
  go_wp2_with fail
  rw [rounds_succ]
  go_wp2_with fail
  go_ret
  exact ⟨rfl, B6.out⟩
set_option maxHeartbeats 3200000 in
set_option maxRecDepth 100000 in
theorem xunhex (w : World) (hI : ∀ w, Calls Tryz.prog 195 #[.bool true] w fun e w' => e = .returned (.tuple #[]) ∧ w' = w) : Calls Tryz.prog 282 #[.string ⟨#[48, 48]⟩] w fun e w' => e = .returned (.string ⟨#[0]⟩) ∧ Below w.heap.size w w' := by
  have hP := Lib.hid (fun w => pu_outer w)
  have hT := Lib.hid (fun w => Any.strings_Trim_laid Tryz.lays160 set225 ⟨#[48, 48]⟩ ⟨#[48, 49, 50, 51, 52, 53, 54, 55, 56, 57, 97, 98, 99, 100, 101, 102]⟩ w (by decide) (by decide) (ascii_of_all (by decide)))
  replace hI := Lib.hid hI
  obtain ⟨i0, hi, hz0, hz1, hz2⟩ := info_parts info5
  have hex : (⟨#[48, 48]⟩ : ByteArray).extract 0 2 = ⟨#[48, 48]⟩ := by rw [Lib.extract_eq]; rfl
  go_enter Tryz.func282, Tryz.ntmps282
  go_wp2_with fail
  refine (hT.out _).mono ?_
  rintro e w1 ⟨rfl, B1⟩
  have et : (⟨(Lib.trimS (⟨#[48, 48]⟩ : ByteArray).data.toList (⟨#[48, 49, 50, 51, 52, 53, 54, 55, 56, 57, 97, 98, 99, 100, 101, 102]⟩ : ByteArray).data.toList).toArray⟩ : ByteArray) = ⟨#[]⟩ := by decide +kernel
  rw [et]
  replace B1 := Lib.hid B1
  go_wp2_with fail
  refine (hI.out _).mono ?_
  rintro e w2 ⟨rfl, rfl⟩
  go_wp2_with fail
  refine wp_loop_rounds 2 ?_
  rw [rounds_succ]
  go_wp2_with fail
  refine (hP.out _).mono ?_
  rintro e w3 ⟨rfl, B3⟩
  have B4 := Lib.hid (below_then B1.out B1.out.size B3)
  have hsz : ∀ o, (w3.alloc o).heap.size = w3.heap.size + 1 := fun o => Array.size_push _
  clear B3 B1
  go_wp2_with (at_builtin; refine wpList_append_lies _ rfl _ _ 65 rfl w3.heap.size 5 i0 _ 1 1 Tryz.underlying65 hi hz0 hz1 hz2 rfl (by omega) (.slice none 0 0) 0 [] (by rfl) (World.ownsRow_nil _ _ _ _) ⟨w3.heap.size, 0, none⟩ 1 1 [.int .u8 0] (by rfl) (by rfl) (World.news_of_block (cs := #[.int .u8 0]) (t := 5) (fr := (0, 0)) (heap_alloc_new _ _)) (by simp [Value.oneCell']) (by omega) (by unfold maxLen; omega) (by omega) (by rw [hsz]; omega) _ rfl ?_; intro g6 cap6 w6 hown hgrow hat hlt6)
  have hrow := BytesAt.own (l := [0]) hown (by decide)
  have hstr : (convert 65 9 (.slice (some ⟨g6, 0, none⟩) 1 cap6)).run Tryz.prog w6 = .ok (.string ⟨#[0]⟩) w6 := hrow.str cap6
  have B6 := Lib.hid (pw_below_grown (below_alloc B4.out _) _ (by rw [hsz]; have := B4.out.size; omega) hgrow (fun k hk => by cases hk))
  clear hown hgrow hat hrow B4 hlt6
  go_wp2_with fail
  rw [rounds_succ]
  go_wp2_with fail
  go_ret
  exact ⟨rfl, B6.out⟩
end Go.Proofs.YtcpgcjmamjjokaaGreatDoor
namespace Go.Proofs.YtcpgcjmamjjokaaGreatDoor
open Go.RowKit Go.Maps Go.Proofs.YtcpgcjmamjjokaaGreatDoorW.PrintWords Go.Proofs.YtcpgcjmamjjokaaGreatDoorW.PrintMore Go.Proofs.YtcpgcjmamjjokaaGreatDoor.PTopLimits
set_option linter.unusedVariables false
set_option linter.unusedSimpArgs false
/-- Nothing comes of a word. -/
theorem jcomes_no (R : Nat) (c : UInt8) (l : List UInt8) (a : UInt8) (p : List UInt8) (hne : a ≠ c) (w : World) (h : JR R (c :: l) w) :
    Calls Tryz.prog 221 #[.pointer (some ⟨R, 0, none⟩), .string ⟨(a :: p).toArray⟩] w fun e w' => e = .returned (.bool false) ∧ JR R (c :: l) w' ∧ Kp w w' (· = R) := by
  have e1 : Lib.hasPrefix (c :: l) (a :: p) = false := by simp [Lib.hasPrefix, List.isPrefixOf, hne]
  have e2 : Lib.trimPrefix (c :: l) (a :: p) = c :: l := by simp [Lib.trimPrefix, e1]
  have h1 := jcomes R (c :: l) (a :: p) w h
  rw [e1, e2] at h1
  exact h1
theorem jcomes_yes (R : Nat) (c : UInt8) (l : List UInt8) (w : World) (h : JR R (c :: l) w) :
    Calls Tryz.prog 221 #[.pointer (some ⟨R, 0, none⟩), .string ⟨[c].toArray⟩] w fun e w' => e = .returned (.bool true) ∧ JR R l w' ∧ Kp w w' (· = R) := by
  have e1 : Lib.hasPrefix (c :: l) [c] = true := by simp [Lib.hasPrefix]
  have e2 : Lib.trimPrefix (c :: l) [c] = l := by simp [Lib.trimPrefix, e1]
  have h1 := jcomes R (c :: l) [c] w h
  rw [e1, e2] at h1
  exact h1
/-- Nine cells stored, one behind the other. -/
theorem set9_heap {w : World} {G : Nat} {t : TypeId} {u0 u1 u2 u3 u4 u5 u6 u7 u8 v0 v1 v2 v3 v4 v5 v6 v7 v8 : Value} (h : w.heap[G]? = some (.cells #[u0, u1, u2, u3, u4, u5, u6, u7, u8] t (0, 0))) : (World.setCell (World.setCell (World.setCell (World.setCell (World.setCell (World.setCell (World.setCell (World.setCell (World.setCell w ⟨G, 0, none⟩ v0) ⟨G, 1, none⟩ v1) ⟨G, 2, none⟩ v2) ⟨G, 3, none⟩ v3) ⟨G, 4, none⟩ v4) ⟨G, 5, none⟩ v5) ⟨G, 6, none⟩ v6) ⟨G, 7, none⟩ v7) ⟨G, 8, none⟩ v8).heap[G]? = some (.cells #[v0, v1, v2, v3, v4, v5, v6, v7, v8] t (0, 0)) := by
  have h0 := blk_put h 0 v0 (cs' := #[v0, u1, u2, u3, u4, u5, u6, u7, u8]) rfl
  have h1 := blk_put h0 1 v1 (cs' := #[v0, v1, u2, u3, u4, u5, u6, u7, u8]) rfl
  have h2 := blk_put h1 2 v2 (cs' := #[v0, v1, v2, u3, u4, u5, u6, u7, u8]) rfl
  have h3 := blk_put h2 3 v3 (cs' := #[v0, v1, v2, v3, u4, u5, u6, u7, u8]) rfl
  have h4 := blk_put h3 4 v4 (cs' := #[v0, v1, v2, v3, v4, u5, u6, u7, u8]) rfl
  have h5 := blk_put h4 5 v5 (cs' := #[v0, v1, v2, v3, v4, v5, u6, u7, u8]) rfl
  have h6 := blk_put h5 6 v6 (cs' := #[v0, v1, v2, v3, v4, v5, v6, u7, u8]) rfl
  have h7 := blk_put h6 7 v7 (cs' := #[v0, v1, v2, v3, v4, v5, v6, v7, u8]) rfl
  exact blk_put h7 8 v8 rfl
theorem set9_kp (w : World) (G : Nat) (v0 v1 v2 v3 v4 v5 v6 v7 v8 : Value) : Kp w (World.setCell (World.setCell (World.setCell (World.setCell (World.setCell (World.setCell (World.setCell (World.setCell (World.setCell w ⟨G, 0, none⟩ v0) ⟨G, 1, none⟩ v1) ⟨G, 2, none⟩ v2) ⟨G, 3, none⟩ v3) ⟨G, 4, none⟩ v4) ⟨G, 5, none⟩ v5) ⟨G, 6, none⟩ v6) ⟨G, 7, none⟩ v7) ⟨G, 8, none⟩ v8) (· = G) := by
  have K0 := Kp.refl w (· = G)
  exact ((((((((K0.set_ (p := ⟨G, 0, none⟩) (.inl rfl) v0).set_ (p := ⟨G, 1, none⟩) (.inl rfl) v1).set_ (p := ⟨G, 2, none⟩) (.inl rfl) v2).set_ (p := ⟨G, 3, none⟩) (.inl rfl) v3).set_ (p := ⟨G, 4, none⟩) (.inl rfl) v4).set_ (p := ⟨G, 5, none⟩) (.inl rfl) v5).set_ (p := ⟨G, 6, none⟩) (.inl rfl) v6).set_ (p := ⟨G, 7, none⟩) (.inl rfl) v7).set_ (p := ⟨G, 8, none⟩) (.inl rfl) v8
/-- A text as a value. -/
def txtV (s : List UInt8) : Value := .agg #[.int .i64 5, .bool false, .bool false, .string ⟨#[]⟩, .int .i64 0, .int .u64 0, .string ⟨s.toArray⟩, .slice none 0 0, .slice none 0 0]
set_option maxHeartbeats 6400000 in
set_option maxRecDepth 100000 in
theorem jvalue_text (R : Nat) (s r : List UInt8) (hs : Plain s) (hv : Lib.validD s = true) (hlen : s.length ≤ 1000) (w : World) (h : JR R (34 :: s ++ 34 :: r) w) (hT : Lib.Utf8Tabs 0 1 w) (hR : 2 ≤ R) :
    Calls Tryz.prog 183 #[.pointer (some ⟨R, 0, none⟩)] w fun e w' => e = .returned (txtV s) ∧ JR R r w' ∧ Kp w w' (· = R) := by
  have hC := Lib.hid (fun c l a p hne w h => jcomes_no R c l a p hne w h)
  have hX := Lib.hid (fun w h hT => jtext R s r hs hv hlen w h hT hR)
  have hP := Lib.hid (fun l w => Tryz.strings_HasPrefix ⟨(34 :: l).toArray⟩ ⟨#[34]⟩ w)
  replace h := Lib.hid h
  replace hT := Lib.hid hT
  unfold txtV
  go_enter Tryz.func183, Tryz.ntmps183
  go_wp2_with fail
  generalize hw1 : World.alloc _ _ = w1
  obtain ⟨X, hXe⟩ : ∃ X, w.heap.size = X := ⟨_, rfl⟩
  rw [hXe]
  obtain ⟨j1, x1, z1, K1⟩ : JR R (34 :: s ++ 34 :: r) w1 ∧ w1.heap[X]? = some (.cells #[.pointer (some ⟨R, 0, none⟩)] 255 (0, 0)) ∧ w1.heap[X + 1]? = some (.cells #[.int .i64 0, .bool false, .bool false, .string ⟨#[]⟩, .int .i64 0, .int .u64 0, .string ⟨#[]⟩, .slice none 0 0, .slice none 0 0] 36 (0, 0)) ∧ Kp w w1 (· = R) := by
    subst hw1 hXe
    exact ⟨(h.out.below (below_alloc (Below.refl _ _) _)).below (below_alloc (Below.refl _ _) _), blk_alloc (heap_alloc_new _ _) _, alloc2 _ _ _, ((Kp.refl w _).alloc _).alloc _⟩
  have hRX : R < X := by rw [← hXe]; exact blk_lt h.out
  have hwX : w.heap.size ≤ X := Nat.le_of_eq hXe
  clear hw1 hXe
  replace K1 := Lib.hid K1
  replace hwX := Lib.hid hwX
  obtain ⟨rc0, rc1, rf0, rf1⟩ := blk2 j1
  obtain ⟨xc, xf⟩ := blk1 x1
  obtain ⟨zc0, zc1, zc2, zc3, zc4, zc5, zc6, zc7, zc8, zf0, zf1, zf2, zf3, zf4, zf5, zf6, zf7, zf8⟩ := blk9 z1
  have lj1 := blk_lt j1
  have lx1 := blk_lt x1
  have lz1 := blk_lt z1
  replace j1 := Lib.hid j1
  replace x1 := Lib.hid x1
  replace z1 := Lib.hid z1
  refine (hC.out 34 _ 110 [117, 108, 108] (by decide) _ j1.out).mono ?_
  rintro e w2 ⟨rfl, j2, q2⟩
  have x2 := q2.heap x1.out (by omega)
  have z2 := q2.heap z1.out (by omega)
  have K2 := Lib.hid (K1.out.trans q2 (fun _ hi => .inl hi))
  clear q2 K1 x1 z1 j1 lj1 lx1 lz1 rc0 rc1 rf0 rf1 xc xf zc0 zc1 zc2 zc3 zc4 zc5 zc6 zc7 zc8 zf0 zf1 zf2 zf3 zf4 zf5 zf6 zf7 zf8
  obtain ⟨rc0, rc1, rf0, rf1⟩ := blk2 j2
  obtain ⟨xc, xf⟩ := blk1 x2
  obtain ⟨zc0, zc1, zc2, zc3, zc4, zc5, zc6, zc7, zc8, zf0, zf1, zf2, zf3, zf4, zf5, zf6, zf7, zf8⟩ := blk9 z2
  have lj2 := blk_lt j2
  have lx2 := blk_lt x2
  have lz2 := blk_lt z2
  replace j2 := Lib.hid j2
  replace x2 := Lib.hid x2
  replace z2 := Lib.hid z2
  go_wp2_with fail
  refine (hC.out 34 _ 102 [97, 108, 115, 101] (by decide) _ j2.out).mono ?_
  rintro e w3 ⟨rfl, j3, q3⟩
  have x3 := q3.heap x2.out (by omega)
  have z3 := q3.heap z2.out (by omega)
  have K3 := Lib.hid (K2.out.trans q3 (fun _ hi => .inl hi))
  clear q3 K2 x2 z2 j2 lj2 lx2 lz2 rc0 rc1 rf0 rf1 xc xf zc0 zc1 zc2 zc3 zc4 zc5 zc6 zc7 zc8 zf0 zf1 zf2 zf3 zf4 zf5 zf6 zf7 zf8
  obtain ⟨rc0, rc1, rf0, rf1⟩ := blk2 j3
  obtain ⟨xc, xf⟩ := blk1 x3
  obtain ⟨zc0, zc1, zc2, zc3, zc4, zc5, zc6, zc7, zc8, zf0, zf1, zf2, zf3, zf4, zf5, zf6, zf7, zf8⟩ := blk9 z3
  have lj3 := blk_lt j3
  have lx3 := blk_lt x3
  have lz3 := blk_lt z3
  replace j3 := Lib.hid j3
  replace x3 := Lib.hid x3
  replace z3 := Lib.hid z3
  go_wp2_with fail
  refine (hC.out 34 _ 116 [114, 117, 101] (by decide) _ j3.out).mono ?_
  rintro e w4 ⟨rfl, j4, q4⟩
  have x4 := q4.heap x3.out (by omega)
  have z4 := q4.heap z3.out (by omega)
  have K4 := Lib.hid (K3.out.trans q4 (fun _ hi => .inl hi))
  clear q4 K3 x3 z3 j3 lj3 lx3 lz3 rc0 rc1 rf0 rf1 xc xf zc0 zc1 zc2 zc3 zc4 zc5 zc6 zc7 zc8 zf0 zf1 zf2 zf3 zf4 zf5 zf6 zf7 zf8
  obtain ⟨rc0, rc1, rf0, rf1⟩ := blk2 j4
  obtain ⟨xc, xf⟩ := blk1 x4
  obtain ⟨zc0, zc1, zc2, zc3, zc4, zc5, zc6, zc7, zc8, zf0, zf1, zf2, zf3, zf4, zf5, zf6, zf7, zf8⟩ := blk9 z4
  have lj4 := blk_lt j4
  have lx4 := blk_lt x4
  have lz4 := blk_lt z4
  replace j4 := Lib.hid j4
  replace x4 := Lib.hid x4
  replace z4 := Lib.hid z4
  go_wp2_with fail
  refine (hP.out _ _).mono ?_
  rintro e w5 ⟨rfl, rfl⟩
  have hpf : Lib.hasPrefix (⟨(34 :: (s ++ 34 :: r)).toArray⟩ : ByteArray).data.toList (⟨#[34]⟩ : ByteArray).data.toList = true := by simp [Lib.hasPrefix, List.isPrefixOf]
  rw [hpf]
  clear hpf hP
  go_wp2_with fail
  refine (hX.out _ j4.out (K4.out.tabs hT.out (by omega) (by omega))).mono ?_
  rintro e w5 ⟨rfl, j5, q5⟩
  have x5 := q5.heap x4.out (by omega)
  have z5 := q5.heap z4.out (by omega)
  have K5 := Lib.hid (K4.out.trans q5 (fun _ hi => .inl hi))
  clear q5 K4 x4 z4 j4 lj4 lx4 lz4 rc0 rc1 rf0 rf1 xc xf zc0 zc1 zc2 zc3 zc4 zc5 zc6 zc7 zc8 zf0 zf1 zf2 zf3 zf4 zf5 zf6 zf7 zf8
  obtain ⟨rc0, rc1, rf0, rf1⟩ := blk2 j5
  obtain ⟨xc, xf⟩ := blk1 x5
  obtain ⟨zc0, zc1, zc2, zc3, zc4, zc5, zc6, zc7, zc8, zf0, zf1, zf2, zf3, zf4, zf5, zf6, zf7, zf8⟩ := blk9 z5
  have lj5 := blk_lt j5
  have lx5 := blk_lt x5
  have lz5 := blk_lt z5
  replace j5 := Lib.hid j5
  replace x5 := Lib.hid x5
  replace z5 := Lib.hid z5
  go_wp2_with fail
  refine bodyPost_ret (results_cell_row rfl _ _ (X + 1) 36 #[.int .i64 5, .bool false, .bool false, .string ⟨#[]⟩, .int .i64 0, .int .u64 0, .string ⟨s.toArray⟩, .slice none 0 0, .slice none 0 0] (0, 0) _ rfl (set9_heap z5.out) Tryz.underlying36 rfl (by kernel_rfl)) rfl ?_
  exact ⟨rfl, j5.out.kp (set9_kp _ _ _ _ _ _ _ _ _ _ _) (by omega), K5.out.trans (set9_kp _ _ _ _ _ _ _ _ _ _ _) (fun i hi => .inr (by have := hwX.out; omega))⟩
end Go.Proofs.YtcpgcjmamjjokaaGreatDoor
