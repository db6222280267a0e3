/- The machine of a count: three events. -/
import Derived.Test.YtcpgcjmamjjokaaGreatDoorBh
import Derived.Test.YtcpgcjmamjjokaaGreatDoorBi
namespace Go.Proofs.YtcpgcjmamjjokaaGreatDoor
open Go.RowKit Go.Proofs.YtcpgcjmamjjokaaGreatDoorW.PrintWords Go.Proofs.YtcpgcjmamjjokaaGreatDoorW.PrintMore
set_option linter.unusedVariables false
set_option linter.unusedSimpArgs false
/-- The Checker: new; at the end. -/
def Fresh (C : Nat) (w : World) : Prop := w.heap[C]? = some (.cells #[.slice none 0 0, .bool false, .bool false] 110 (0, 0))
def Closed (C : Nat) (w : World) : Prop := ∃ R cap, w.heap[C]? = some (.cells #[.slice (some ⟨R, 0, none⟩) 0 cap, .bool true, .bool false] 110 (0, 0))
/-- The machine and its step. -/
structure MS (M C F : Nat) (op deep : Int) (neg : Bool) (d : ByteArray) (x n : Int) (w : World) : Prop where
  f : w.heap[F]? = some (fB (outV M) deep op neg d x n)
  m : w.heap[M]? = some (mB (.iface 125 (.pointer (some ⟨F, 0, none⟩))) (.pointer (some ⟨C, 0, none⟩)) (.slice none 0 0) 0)
theorem Fresh.kp {C : Nat} {w w' : World} {S : Nat → Prop} (h : Fresh C w) (k : Kp w w' S) (h1 : ¬ S C) : Fresh C w' := k.heap h h1
theorem Closed.kp {C : Nat} {w w' : World} {S : Nat → Prop} (h : Closed C w) (k : Kp w w' S) (h1 : ¬ S C) : Closed C w' := by
  obtain ⟨R, cap, hc⟩ := h
  exact ⟨R, cap, k.heap hc h1⟩
theorem MS.kp {M C F : Nat} {op deep : Int} {neg : Bool} {d : ByteArray} {x n : Int} {w w' : World} {S : Nat → Prop} (h : MS M C F op deep neg d x n w) (k : Kp w w' S) (h1 : ¬ S M) (h2 : ¬ S F) : MS M C F op deep neg d x n w' :=
  ⟨k.heap h.f h2, k.heap h.m h1⟩
theorem told_kp {M : Nat} {a b : Value} {k : Int} {neg : Bool} {d : ByteArray} {x : Int} {B : Nat} {w w' : World} {S : Nat → Prop} (h : Told M a b k neg d x B w) (kp : Kp w w' S) (h1 : ¬ S M) (h2 : ∀ g, B ≤ g → ¬ S g) : Told M a b k neg d x B w' := by
  obtain ⟨g, cap, t1, t2, t3, t4, t5⟩ := h.t
  exact ⟨g, cap, kp.heap t1 h1, t2, Nat.lt_of_lt_of_le t3 kp.size, t4, fun j hj => (World.cell?_of_block (w := w) (kp.block g t3 (h2 g t2))).trans (t5 j hj)⟩
/-- Where a count of three events stands. -/
def cSt (M C F lo : Nat) : Nat → World → Prop
  | 0, w => Fresh C w ∧ MS M C F 11 0 false ⟨#[48]⟩ 0 0 w
  | 1, w => (∃ R Fr, Chk C C R Fr 0 w ∧ lo ≤ R ∧ lo ≤ Fr) ∧ MS M C F 11 1 false ⟨#[48]⟩ 0 0 w
  | 2, w => (∃ R Fr, Chk C C R Fr 1 w ∧ lo ≤ R ∧ lo ≤ Fr) ∧ MS M C F 11 1 false ⟨#[48]⟩ 0 1 w
  | _, w => Closed C w ∧ Told M (.iface 125 (.pointer (some ⟨F, 0, none⟩))) (.pointer (some ⟨C, 0, none⟩)) 3 false ⟨#[49]⟩ 0 lo w
def cMid (M C F lo : Nat) : Nat → World → Prop
  | 0, w => (∃ R Fr, Chk C C R Fr 0 w ∧ lo ≤ R ∧ lo ≤ Fr) ∧ MS M C F 11 0 false ⟨#[48]⟩ 0 0 w
  | 1, w => (∃ R Fr, Chk C C R Fr 1 w ∧ lo ≤ R ∧ lo ≤ Fr) ∧ MS M C F 11 1 false ⟨#[48]⟩ 0 0 w
  | _, w => Closed C w ∧ MS M C F 11 1 false ⟨#[48]⟩ 0 1 w
theorem chk_ex {C : Nat} {m : Int} {lo : Nat} {w w' : World} {S : Nat → Prop} (h : ∃ R Fr, Chk C C R Fr m w ∧ lo ≤ R ∧ lo ≤ Fr) (k : Kp w w' S) (h1 : ¬ S C) (h2 : ∀ i, lo ≤ i → ¬ S i) : ∃ R Fr, Chk C C R Fr m w' ∧ lo ≤ R ∧ lo ≤ Fr := by
  obtain ⟨R, Fr, hc, hR, hF⟩ := h
  exact ⟨R, Fr, hc.kp k h1 (h2 R hR) (h2 Fr hF), hR, hF⟩
theorem cSt_kp {M C F lo i : Nat} {w w' : World} (h : cSt M C F lo i w) (k : Kp w w' (fun _ => False)) : cSt M C F lo i w' := by
  match i, h with
  | 0, h => exact ⟨h.1.kp k id, h.2.kp k id id⟩
  | 1, h => exact ⟨chk_ex h.1 k id (fun _ _ => id), h.2.kp k id id⟩
  | 2, h => exact ⟨chk_ex h.1 k id (fun _ _ => id), h.2.kp k id id⟩
  | _ + 3, h => exact ⟨h.1.kp k id, told_kp h.2 k id (fun _ _ => id)⟩
theorem cMid_kp {M C F lo i : Nat} {w w' : World} (h : cMid M C F lo i w) (k : Kp w w' (fun _ => False)) : cMid M C F lo i w' := by
  match i, h with
  | 0, h => exact ⟨chk_ex h.1 k id (fun _ _ => id), h.2.kp k id id⟩
  | 1, h => exact ⟨chk_ex h.1 k id (fun _ _ => id), h.2.kp k id id⟩
  | _ + 2, h => exact ⟨h.1.kp k id, h.2.kp k id id⟩
/-- The kinds of the three events. -/
def cK (i : Nat) : Int := if i = 0 then 7 else if i = 1 then 1 else 11
/-- What the machine tells. -/
def CountPost (M C F : Nat) (w0 : World) (e : Ending) (w' : World) : Prop := ∃ h cp, e = .returned (.tuple #[.slice (some ⟨h, 0, none⟩) 1 cp, .int .i64 0]) ∧ w0.heap.size ≤ h ∧ h < w'.heap.size ∧ (∀ j, j < 7 → w'.cell? ⟨h, j, none⟩ = [.int .i64 3, .bool false, .bool false, .string ⟨#[49]⟩, .int .i64 0, .int .u64 0, .string ⟨#[]⟩][j]?) ∧
  (∃ k, w'.heap[M]? = some (mB (.iface 125 (.pointer (some ⟨F, 0, none⟩))) (.pointer (some ⟨C, 0, none⟩)) (.slice none 0 0) k)) ∧ w'.cell? ⟨C, 1, none⟩ = some (.bool true) ∧ Kp w0 w' (fun k => k = C ∨ k = M ∨ k = F)
theorem mB_inj {a b c c' : Value} {n n' : Int} (h : mB a b c n = mB a b c' n') : c = c' ∧ n = n' := by
  unfold mB at h
  injection h with h
  injection h with h
  simp at h
  exact h
theorem feed_count (M C F g off cap B : Nat) (w0 : World) (hM : Mach 11 M C F B w0) (hcap : 3 ≤ cap) (hrow : Evs 3 cK (fun _ => false) (fun _ => ⟨#[]⟩) (fun _ => 0) g off w0) (hgl : g < w0.heap.size) (hg : ¬ (g = C ∨ g = M ∨ g = F)) :
    Calls Tryz.prog 8 #[.pointer (some ⟨M, 0, none⟩), .slice (some ⟨g, off, none⟩) 3 cap] w0 (CountPost M C F w0) := by
  have hlM := blk_lt hM.m
  have hlC := blk_lt hM.c
  have hlF := blk_lt hM.f
  have hcm := hM.cm
  have hmf := hM.mf
  obtain ⟨lo, hlo⟩ : ∃ lo, w0.heap.size + 3 = lo := ⟨_, rfl⟩
  have H := Feed_any (n := 3) (K := cK) (N := fun _ => false) (D := fun _ => ⟨#[]⟩) (X := fun _ => 0) (M := M) (C := C) (F := F) (g := g) (off := off) (cap := cap) (S := fun k => k = C ∨ k = M ∨ k = F)
    (St := cSt M C F lo) (Mid := cMid M C F lo) w0 (by decide) hcap hrow hgl hg ?r1 ?r2 (fun i w w' => cSt_kp) (fun i w w' => cMid_kp) ?m1 ?m2 (fun k hk => by rcases hk with h | h | h <;> omega) ⟨hM.c, hM.f, hM.m⟩
  case r1 =>
    intro i hi W w hW hSt hB
    have k0 := Kp.of_below hB (fun _ => False)
    have hs := cSt_kp hSt k0
    match i, hi, hSt, hs with
    | 0, _, hSt, hs =>
      refine (feed_list C w hs.1).mono ?_
      rintro e w' ⟨rfl, ⟨R, Fr, hc, hR, hF⟩, k1⟩
      have := hB.size
      exact ⟨rfl, ⟨⟨R, Fr, hc, by omega, by omega⟩, hs.2.kp k1 (by show ¬ M = C; omega) (by show ¬ F = C; omega)⟩, k1.mono (fun k hk => .inl (.inl hk))⟩
    | 1, _, hSt, hs =>
      obtain ⟨⟨R, Fr, hc, hR, hF⟩, hms⟩ := hs
      have hFW : Fr < W.heap.size := by
        obtain ⟨⟨R', Fr', hc', hR', hF'⟩, _⟩ := hSt
        obtain ⟨c1, e1⟩ := hc.c
        obtain ⟨c2, e2⟩ := hc'.c
        have e3 := k0.heap e2 id
        rw [e1] at e3
        have h1 : R = R' := by
          injection e3 with e3
          injection e3 with e3
          simp at e3
          exact e3.1
        subst h1
        have h2 := k0.cell hc'.r id
        rw [hc.r] at h2
        have h3 : Fr = Fr' := by simpa using h2
        subst h3
        obtain ⟨_, e4⟩ := hc'.f
        exact blk_lt e4
      refine (feed_null C C R Fr 0 (by decide) w hc).mono ?_
      rintro e w' ⟨rfl, hc', k1⟩
      exact ⟨rfl, ⟨⟨R, Fr, hc', hR, hF⟩, hms.kp k1 (by show ¬ (M = C ∨ M = Fr); omega) (by show ¬ (F = C ∨ F = Fr); omega)⟩, k1.mono (fun k hk => by rcases hk with h | h; exact .inl (.inl h); exact .inr (by omega))⟩
    | 2, _, hSt, hs =>
      obtain ⟨⟨R, Fr, hc, hR, hF⟩, hms⟩ := hs
      refine (feed_end C C R Fr 1 w hc).mono ?_
      rintro e w' ⟨rfl, ⟨cp, hc'⟩, k1⟩
      exact ⟨rfl, ⟨⟨R, cp, hc'⟩, hms.kp k1 (by show ¬ M = C; omega) (by show ¬ F = C; omega)⟩, k1.mono (fun k hk => .inl (.inl hk))⟩
  case r2 =>
    intro i hi w hW hm
    match i, hi, hm with
    | 0, _, hm =>
      refine (fold_list F _ 11 _ _ _ _ w hm.2.f).mono ?_
      rintro e w' ⟨rfl, hf, k1⟩
      exact ⟨⟨_, rfl⟩, ⟨chk_ex hm.1 k1 (by show ¬ C = F; omega) (fun i hi => by show ¬ i = F; omega), hf, k1.heap hm.2.m (by show ¬ M = F; omega)⟩, k1.mono (fun k hk => .inr (.inr hk))⟩
    | 1, _, hm =>
      refine (fold_null F _ _ _ _ 0 (by decide) w hm.2.f).mono ?_
      rintro e w' ⟨rfl, hf, k1⟩
      exact ⟨⟨_, rfl⟩, ⟨chk_ex hm.1 k1 (by show ¬ C = F; omega) (fun i hi => by show ¬ i = F; omega), hf, k1.heap hm.2.m (by show ¬ M = F; omega)⟩, k1.mono (fun k hk => .inr (.inr hk))⟩
    | 2, _, hm =>
      refine (fold_end_count F M (by omega) _ _ _ _ _ (fun w => itoa_one w) (fun w => parse_one w) w hm.2.f hm.2.m).mono ?_
      rintro e w' ⟨rfl, hf, ht, k1⟩
      exact ⟨⟨_, rfl⟩, ⟨hm.1.kp k1 (by show ¬ (C = F ∨ C = M); omega), ht.mono (by omega)⟩, k1.mono (fun k hk => by rcases hk with h | h; exact .inr (.inr h); exact .inr (.inl h))⟩
  case m1 =>
    intro i w h
    match i, h with
    | 0, h => exact ⟨_, _, _, _, h.2.m⟩
    | 1, h => exact ⟨_, _, _, _, h.2.m⟩
    | 2, h => exact ⟨_, _, _, _, h.2.m⟩
    | _ + 3, h =>
      obtain ⟨g, cap, t1, _⟩ := h.2.t
      exact ⟨_, _, _, _, t1⟩
  case m2 =>
    intro i w h
    match i, h with
    | 0, h => exact ⟨_, _, _, _, h.2.m⟩
    | 1, h => exact ⟨_, _, _, _, h.2.m⟩
    | _ + 2, h => exact ⟨_, _, _, _, h.2.m⟩
  refine H.mono ?_
  rintro e w' ⟨W, A, ln, cp, k, hSt, hMW, k1, rfl, hM', k2⟩
  obtain ⟨⟨R, cap2, hcl⟩, ht⟩ := hSt
  obtain ⟨h, cp2, t1, t2, t3, t4, t5⟩ := ht.t
  rw [hMW] at t1
  obtain ⟨e1, e2⟩ := mB_inj (Option.some.inj t1)
  injection e1 with e1 e3 e4
  subst e1 e3 e4
  refine ⟨h, _, rfl, by omega, Nat.lt_of_lt_of_le t3 k2.size, fun j hj => (World.cell?_of_block (w := W) (k2.block h t3 (by omega))).trans (t5 j hj), ⟨k, hM'⟩, ?_, ?_⟩
  · exact (blk3 (k2.heap hcl (by omega))).2.1
  · exact k1.trans k2 (fun i hi => by rcases hi with h | h | h; exact .inl (.inr (.inl h)); exact .inr (by omega); exact .inr (by omega))
end Go.Proofs.YtcpgcjmamjjokaaGreatDoor
