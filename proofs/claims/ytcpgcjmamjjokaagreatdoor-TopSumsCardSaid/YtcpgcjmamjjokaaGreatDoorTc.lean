/- The machine of a sum: one event at a time. -/
import Derived.Test.YtcpgcjmamjjokaaGreatDoorTb
import Derived.Test.YtcpgcjmamjjokaaGreatDoorAh
namespace Go.Proofs.YtcpgcjmamjjokaaGreatDoor
open Go.RowKit Go.Proofs.YtcpgcjmamjjokaaGreatDoorW.PrintWords Go.Proofs.YtcpgcjmamjjokaaGreatDoorW.PrintMore
set_option linter.unusedVariables false
set_option linter.unusedSimpArgs false
/-- The machine's block, told nothing. -/
def mN (M C F : Nat) (w : World) : Prop := w.heap[M]? = some (mB (.iface 125 (.pointer (some ⟨F, 0, none⟩))) (.pointer (some ⟨C, 0, none⟩)) (.slice none 0 0) 0)
def evL (k : Int) (neg : Bool) (d : ByteArray) (x : Int) : List Value := [.int .i64 k, .bool false, .bool neg, .string d, .int .i64 x, .int .u64 0, .string ⟨#[]⟩]
def two (Pre Post : World → Prop) : Nat → World → Prop
  | 0, w => Pre w
  | _, w => Post w
theorem feed_one {M C F g cap : Nat} {k : Int} {neg : Bool} {d : ByteArray} {x : Int} {S : Nat → Prop} (Pre Mid Post : World → Prop) (w0 : World) (hcap : 1 ≤ cap)
    (hrow : ∀ j, j < 7 → w0.cell? ⟨g, j, none⟩ = (evL k neg d x)[j]?) (hgl : g < w0.heap.size) (hg : ¬ S g)
    (r1 : ∀ W w, w0.heap.size + 3 ≤ W.heap.size → Pre W → Below W.heap.size W w → Calls Tryz.prog 33 #[.pointer (some ⟨C, 0, none⟩), ev k neg d x] w fun e w' => e = .returned (.int .i64 0) ∧ Mid w' ∧ Kp w w' (fun k => S k ∨ (w0.heap.size + 3 ≤ k ∧ k < W.heap.size)))
    (r2 : ∀ w, w0.heap.size + 3 ≤ w.heap.size → Mid w → Calls Tryz.prog 323 #[.pointer (some ⟨F, 0, none⟩), ev k neg d x] w fun e w' => (∃ b : Bool, e = .returned (.bool b)) ∧ Post w' ∧ Kp w w' S)
    (s0 : ∀ w w', Pre w → Kp w w' (fun _ => False) → Pre w') (s1 : ∀ w w', Mid w → Kp w w' (fun _ => False) → Mid w') (s2 : ∀ w w', Post w → Kp w w' (fun _ => False) → Post w')
    (m0 : ∀ w, Pre w → mN M C F w) (m1 : ∀ w, Mid w → mN M C F w)
    (m2 : ∀ w, Post w → ∃ (A : Option Addr) (ln cp : Nat) (k : Int), w.heap[M]? = some (mB (.iface 125 (.pointer (some ⟨F, 0, none⟩))) (.pointer (some ⟨C, 0, none⟩)) (.slice A ln cp) k))
    (hS : ∀ k, S k → k < w0.heap.size) (h0 : Pre w0) :
    Calls Tryz.prog 8 #[.pointer (some ⟨M, 0, none⟩), .slice (some ⟨g, 0, none⟩) 1 cap] w0 (FeedPost 1 M C F S (two Pre Post) w0) := by
  refine Feed_any (n := 1) (K := fun _ => k) (N := fun _ => neg) (D := fun _ => d) (X := fun _ => x) (M := M) (C := C) (F := F) (g := g) (off := 0) (cap := cap) (S := S)
    (St := two Pre Post) (Mid := fun _ => Mid) w0 (by decide) hcap ⟨fun i hi j hj => ?_⟩ hgl hg ?_ ?_ ?_ (fun i w w' => s1 w w') ?_ (fun i w h => ⟨_, _, _, _, m1 w h⟩) hS h0
  · obtain rfl : i = 0 := by omega
    rw [show 0 + 0 * 7 + j = j by omega]
    exact hrow j hj
  · intro i hi W w hW hSt hB
    obtain rfl : i = 0 := by omega
    exact r1 W w hW hSt hB
  · intro i hi w hW hm
    obtain rfl : i = 0 := by omega
    exact r2 w hW hm
  · intro i w w' h k
    match i, h with
    | 0, h => exact s0 w w' h k
    | _ + 1, h => exact s2 w w' h k
  · intro i w h
    match i, h with
    | 0, h => exact ⟨_, _, _, _, m0 w h⟩
    | _ + 1, h => exact m2 w h
/-- A sum, within its list: m numbers, their sum t. -/
structure SumAt (B m : Nat) (t : Int) (M C F R Fr : Nat) (w : World) : Prop where
  c : Chk C C R Fr m w
  f : w.heap[F]? = some (fB (outV M) 1 10 (NB t) ⟨(ND t).toArray⟩ (NE t : Nat) 0)
  m : mN M C F w
  bc : B ≤ C
  cm : C < M
  mf : M < F
  fr : F < R
  ff : F < Fr
theorem SumAt.kp {B m : Nat} {t : Int} {M C F R Fr : Nat} {w w' : World} {S : Nat → Prop} (h : SumAt B m t M C F R Fr w) (k : Kp w w' S) (h1 : ¬ S C) (h2 : ¬ S M) (h3 : ¬ S F) (h4 : ¬ S R) (h5 : ¬ S Fr) : SumAt B m t M C F R Fr w' :=
  ⟨h.c.kp k h1 h4 h5, k.heap h.f h3, k.heap h.m h2, h.bc, h.cm, h.mf, h.fr, h.ff⟩
theorem mN_pull {M C F : Nat} {W : World} {A : Option Addr} {ln cp : Nat} {k : Int} (h1 : W.heap[M]? = some (mB (.iface 125 (.pointer (some ⟨F, 0, none⟩))) (.pointer (some ⟨C, 0, none⟩)) (.slice A ln cp) k)) (h2 : mN M C F W) : A = none ∧ ln = 0 ∧ cp = 0 ∧ k = 0 := by
  unfold mN at h2
  rw [h1] at h2
  obtain ⟨e1, e2⟩ := mB_inj (Option.some.inj h2)
  injection e1 with e1 e3 e4
  exact ⟨e1, e3, e4, e2⟩
def ListPost (B M C F : Nat) (w0 : World) (e : Ending) (w' : World) : Prop := e = .returned (.tuple #[.slice none 0 0, .int .i64 0]) ∧ (∃ R Fr, SumAt B 0 0 M C F R Fr w' ∧ w0.heap.size ≤ R ∧ w0.heap.size ≤ Fr) ∧ Kp w0 w' (fun k => k = C ∨ k = M ∨ k = F)
theorem feed_list_m (M C F g B : Nat) (w0 : World) (hM : Mach 10 M C F B w0) (hrow : ∀ j, j < 7 → w0.cell? ⟨g, j, none⟩ = (evL 7 false ⟨#[]⟩ 0)[j]?) (hgl : g < w0.heap.size) (hg : F < g) :
    Calls Tryz.prog 8 #[.pointer (some ⟨M, 0, none⟩), .slice (some ⟨g, 0, none⟩) 1 1] w0 (ListPost B M C F w0) := by
  have hlM := blk_lt hM.m
  have hlC := blk_lt hM.c
  have hlF := blk_lt hM.f
  have hbc := hM.bc
  have hcm := hM.cm
  have hmf := hM.mf
  have H := feed_one (M := M) (C := C) (F := F) (g := g) (cap := 1) (k := 7) (neg := false) (d := ⟨#[]⟩) (x := 0) (S := fun k => k = C ∨ k = M ∨ k = F)
    (fun w => Fresh C w ∧ MS M C F 10 0 false ⟨#[48]⟩ 0 0 w) (fun w => (∃ R Fr, Chk C C R Fr 0 w ∧ w0.heap.size + 3 ≤ R ∧ w0.heap.size + 3 ≤ Fr) ∧ MS M C F 10 0 false ⟨#[48]⟩ 0 0 w)
    (fun w => (∃ R Fr, Chk C C R Fr 0 w ∧ w0.heap.size + 3 ≤ R ∧ w0.heap.size + 3 ≤ Fr) ∧ MS M C F 10 1 false ⟨#[48]⟩ 0 0 w) w0 (Nat.le_refl _) hrow hgl (by omega) ?r1 ?r2
    (fun w w' h k => ⟨h.1.kp k id, h.2.kp k id id⟩) (fun w w' h k => ⟨chk_ex h.1 k id (fun _ _ => id), h.2.kp k id id⟩) (fun w w' h k => ⟨chk_ex h.1 k id (fun _ _ => id), h.2.kp k id id⟩)
    (fun w h => h.2.m) (fun w h => h.2.m) (fun w h => ⟨_, _, _, _, h.2.m⟩) (fun k hk => by rcases hk with h | h | h <;> omega) ⟨hM.c, hM.f, hM.m⟩
  case r1 =>
    intro W w hW hP hB
    have k0 := Kp.of_below hB (fun _ => False)
    have hs := hB.size
    refine (feed_list C w (hP.1.kp k0 id)).mono ?_
    rintro e w' ⟨rfl, ⟨R, Fr, hc, hR, hF⟩, k1⟩
    exact ⟨rfl, ⟨⟨R, Fr, hc, by omega, by omega⟩, (hP.2.kp k0 id id).kp k1 (by show ¬ M = C; omega) (by show ¬ F = C; omega)⟩, k1.mono (fun k hk => .inl (.inl hk))⟩
  case r2 =>
    intro w hW hm
    refine (fold_list F _ 10 _ _ _ _ w hm.2.f).mono ?_
    rintro e w' ⟨rfl, hf, k1⟩
    exact ⟨⟨_, rfl⟩, ⟨chk_ex hm.1 k1 (by show ¬ C = F; omega) (fun i hi => by show ¬ i = F; omega), hf, k1.heap hm.2.m (by show ¬ M = F; omega)⟩, k1.mono (fun k hk => .inr (.inr hk))⟩
  refine H.mono ?_
  rintro e w' ⟨W, A, ln, cp, k, ⟨⟨R, Fr, hc, hR, hF⟩, hms⟩, hMW, k1, rfl, hM', k2⟩
  obtain ⟨rfl, rfl, rfl, rfl⟩ := mN_pull hMW hms.m
  refine ⟨rfl, ⟨R, Fr, ⟨hc.kp k2 (by omega) (by omega) (by omega), ?_, hM', hbc, hcm, hmf, by omega, by omega⟩, by omega, by omega⟩, k1.trans k2 (fun i hi => by rcases hi with h | h | h; exact .inl (.inr (.inl h)); exact .inr (by omega); exact .inr (by omega))⟩
  have := k2.heap hms.f (by omega)
  rw [ND_zero, NE_zero]
  exact this
def NumPost (B m : Nat) (t : Int) (M C F R Fr : Nat) (w0 : World) (e : Ending) (w' : World) : Prop := e = .returned (.tuple #[.slice none 0 0, .int .i64 0]) ∧ SumAt B m t M C F R Fr w' ∧ Kp w0 w' (fun k => k = C ∨ k = M ∨ k = F ∨ k = Fr)
theorem chk_lt {B C R F : Nat} {m : Int} {w : World} (h : Chk B C R F m w) : C < w.heap.size ∧ R < w.heap.size ∧ F < w.heap.size := by
  obtain ⟨_, h1⟩ := h.c
  obtain ⟨_, h2⟩ := h.f
  exact ⟨blk_lt h1, World.block_lt_of_cell? w _ h.r, blk_lt h2⟩
theorem feed_num_m (M C F R Fr g B m : Nat) (t v : Int) (hm : m < 1000000) (ht : t.natAbs < 1000000000000000) (hv : v.natAbs < 1000000000000000) (htv : (t + v).natAbs < 1000000000000000) (w0 : World) (hS : SumAt B m t M C F R Fr w0)
    (hrow : ∀ j, j < 7 → w0.cell? ⟨g, j, none⟩ = (evL 3 (NB v) ⟨(ND v).toArray⟩ (NE v : Nat))[j]?) (hgl : g < w0.heap.size) (hg : ¬ (g = C ∨ g = M ∨ g = F ∨ g = Fr)) :
    Calls Tryz.prog 8 #[.pointer (some ⟨M, 0, none⟩), .slice (some ⟨g, 0, none⟩) 1 1] w0 (NumPost B (m + 1) (t + v) M C F R Fr w0) := by
  have hlM := blk_lt hS.m
  have hlF := blk_lt hS.f
  obtain ⟨hlC, hlR, hlFr⟩ := chk_lt hS.c
  have hbc := hS.bc
  have hcm := hS.cm
  have hmf := hS.mf
  have hfr := hS.fr
  have hff := hS.ff
  have hne3 := hS.c.ne3
  have hN := fun w => check_num trimD v hv w
  have hA := fun w => add_num t v ht hv htv w
  unfold numV at hN hA
  have H := feed_one (M := M) (C := C) (F := F) (g := g) (cap := 1) (k := 3) (neg := NB v) (d := ⟨(ND v).toArray⟩) (x := (NE v : Nat)) (S := fun k => k = C ∨ k = M ∨ k = F ∨ k = Fr)
    (fun w => Chk C C R Fr m w ∧ MS M C F 10 1 (NB t) ⟨(ND t).toArray⟩ (NE t : Nat) 0 w) (fun w => Chk C C R Fr (m + 1 : Nat) w ∧ MS M C F 10 1 (NB t) ⟨(ND t).toArray⟩ (NE t : Nat) 0 w)
    (fun w => Chk C C R Fr (m + 1 : Nat) w ∧ MS M C F 10 1 (NB (t + v)) ⟨(ND (t + v)).toArray⟩ (NE (t + v) : Nat) 0 w) w0 (Nat.le_refl _) hrow hgl hg ?r1 ?r2
    (fun w w' h k => ⟨h.1.kp k id id id, h.2.kp k id id⟩) (fun w w' h k => ⟨h.1.kp k id id id, h.2.kp k id id⟩) (fun w w' h k => ⟨h.1.kp k id id id, h.2.kp k id id⟩)
    (fun w h => h.2.m) (fun w h => h.2.m) (fun w h => ⟨_, _, _, _, h.2.m⟩) (fun k hk => by rcases hk with h | h | h | h <;> omega) ⟨hS.c, hS.f, hS.m⟩
  case r1 =>
    intro W w hW hP hB
    have k0 := Kp.of_below hB (fun _ => False)
    refine (feed_num _ _ _ hN C C R Fr m hm w (hP.1.kp k0 id id id)).mono ?_
    rintro e w' ⟨rfl, hc, k1⟩
    exact ⟨rfl, ⟨hc, (hP.2.kp k0 id id).kp k1 (by show ¬ (M = C ∨ M = Fr); omega) (by show ¬ (F = C ∨ F = Fr); omega)⟩, k1.mono (fun k hk => by rcases hk with h | h; exact .inl (.inl h); exact .inl (.inr (.inr (.inr h))))⟩
  case r2 =>
    intro w hW hmd
    refine (fold_num F _ _ _ _ _ _ _ _ _ _ _ hA w hmd.2.f).mono ?_
    rintro e w' ⟨rfl, hf, k1⟩
    exact ⟨⟨_, rfl⟩, ⟨hmd.1.kp k1 (by show ¬ C = F; omega) (by show ¬ R = F; omega) (by show ¬ Fr = F; omega), hf, k1.heap hmd.2.m (by show ¬ M = F; omega)⟩, k1.mono (fun k hk => .inr (.inr (.inl hk)))⟩
  refine H.mono ?_
  rintro e w' ⟨W, A, ln, cp, k, ⟨hc, hms⟩, hMW, k1, rfl, hM', k2⟩
  obtain ⟨rfl, rfl, rfl, rfl⟩ := mN_pull hMW hms.m
  exact ⟨rfl, ⟨hc.kp k2 (by omega) (by omega) (by omega), k2.heap hms.f (by omega), hM', hbc, hcm, hmf, hfr, hff⟩, k1.trans k2 (fun i hi => by rcases hi with h | h | h; exact .inl (.inr (.inl h)); exact .inr (by omega); exact .inr (by omega))⟩
def EndPost (t : Int) (M C F Fr : Nat) (w0 : World) (e : Ending) (w' : World) : Prop := ∃ h cp, e = .returned (.tuple #[.slice (some ⟨h, 0, none⟩) 1 cp, .int .i64 0]) ∧ w0.heap.size ≤ h ∧ h < w'.heap.size ∧ (∀ j, j < 7 → w'.cell? ⟨h, j, none⟩ = (evL 3 (NB t) ⟨(ND t).toArray⟩ (NE t : Nat))[j]?) ∧
  (∃ k, w'.heap[M]? = some (mB (.iface 125 (.pointer (some ⟨F, 0, none⟩))) (.pointer (some ⟨C, 0, none⟩)) (.slice none 0 0) k)) ∧ w'.cell? ⟨C, 1, none⟩ = some (.bool true) ∧ Kp w0 w' (fun k => k = C ∨ k = M ∨ k = F ∨ k = Fr)
theorem feed_end_m (M C F R Fr g B m : Nat) (t : Int) (w0 : World) (hS : SumAt B m t M C F R Fr w0)
    (hrow : ∀ j, j < 7 → w0.cell? ⟨g, j, none⟩ = (evL 11 false ⟨#[]⟩ 0)[j]?) (hgl : g < w0.heap.size) (hg : ¬ (g = C ∨ g = M ∨ g = F ∨ g = Fr)) :
    Calls Tryz.prog 8 #[.pointer (some ⟨M, 0, none⟩), .slice (some ⟨g, 0, none⟩) 1 1] w0 (EndPost t M C F Fr w0) := by
  have hlM := blk_lt hS.m
  have hlF := blk_lt hS.f
  obtain ⟨hlC, hlR, hlFr⟩ := chk_lt hS.c
  have hcm := hS.cm
  have hmf := hS.mf
  have hfr := hS.fr
  have hff := hS.ff
  have H := feed_one (M := M) (C := C) (F := F) (g := g) (cap := 1) (k := 11) (neg := false) (d := ⟨#[]⟩) (x := 0) (S := fun k => k = C ∨ k = M ∨ k = F ∨ k = Fr)
    (fun w => Chk C C R Fr m w ∧ MS M C F 10 1 (NB t) ⟨(ND t).toArray⟩ (NE t : Nat) 0 w) (fun w => Closed C w ∧ MS M C F 10 1 (NB t) ⟨(ND t).toArray⟩ (NE t : Nat) 0 w)
    (fun w => Closed C w ∧ Told M (.iface 125 (.pointer (some ⟨F, 0, none⟩))) (.pointer (some ⟨C, 0, none⟩)) 3 (NB t) ⟨(ND t).toArray⟩ (NE t : Nat) (w0.heap.size + 3) w) w0 (Nat.le_refl _) hrow hgl hg ?r1 ?r2
    (fun w w' h k => ⟨h.1.kp k id id id, h.2.kp k id id⟩) (fun w w' h k => ⟨h.1.kp k id, h.2.kp k id id⟩) (fun w w' h k => ⟨h.1.kp k id, told_kp h.2 k id (fun _ _ => id)⟩)
    (fun w h => h.2.m) (fun w h => h.2.m) (fun w h => by obtain ⟨g, cap, t1, _⟩ := h.2.t; exact ⟨_, _, _, _, t1⟩) (fun k hk => by rcases hk with h | h | h | h <;> omega) ⟨hS.c, hS.f, hS.m⟩
  case r1 =>
    intro W w hW hP hB
    have k0 := Kp.of_below hB (fun _ => False)
    refine (feed_end C C R Fr m w (hP.1.kp k0 id id id)).mono ?_
    rintro e w' ⟨rfl, ⟨cp, hc⟩, k1⟩
    exact ⟨rfl, ⟨⟨R, cp, hc⟩, (hP.2.kp k0 id id).kp k1 (by show ¬ M = C; omega) (by show ¬ F = C; omega)⟩, k1.mono (fun k hk => .inl (.inl hk))⟩
  case r2 =>
    intro w hW hmd
    refine (fold_end_sum F M (by omega) _ _ _ _ _ _ w hmd.2.f hmd.2.m).mono ?_
    rintro e w' ⟨rfl, hf, ht, k1⟩
    exact ⟨⟨_, rfl⟩, ⟨hmd.1.kp k1 (by show ¬ (C = F ∨ C = M); omega), ht.mono hW⟩, k1.mono (fun k hk => by rcases hk with h | h; exact .inr (.inr (.inl h)); exact .inr (.inl h))⟩
  refine H.mono ?_
  rintro e w' ⟨W, A, ln, cp, k, ⟨⟨R2, cap2, hcl⟩, ht⟩, hMW, k1, rfl, hM', k2⟩
  obtain ⟨h, cp2, t1, t2, t3, t4, t5⟩ := ht.t
  rw [hMW] at t1
  obtain ⟨e1, e2⟩ := mB_inj (Option.some.inj t1)
  injection e1 with e1 e3 e4
  subst e1 e3 e4
  refine ⟨h, _, rfl, by omega, Nat.lt_of_lt_of_le t3 k2.size, fun j hj => (World.cell?_of_block (w := W) (k2.block h t3 (by omega))).trans (t5 j hj), ⟨k, hM'⟩, ?_, ?_⟩
  · exact (blk3 (k2.heap hcl (by omega))).2.1
  · exact k1.trans k2 (fun i hi => by rcases hi with h | h | h; exact .inl (.inr (.inl h)); exact .inr (by omega); exact .inr (by omega))
end Go.Proofs.YtcpgcjmamjjokaaGreatDoor
