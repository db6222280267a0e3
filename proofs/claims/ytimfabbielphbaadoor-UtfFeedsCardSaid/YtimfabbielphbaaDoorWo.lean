/- The law UtfFeeds, walked. -/
import Derived.Test.YtimfabbielphbaaDoorWn
namespace Go.Proofs.YtimfabbielphbaaDoor
open Go.RowKit Go.Lib Go.Proofs.YtimfabbielphbaaDoorW.PrintWords Go.Proofs.YtimfabbielphbaaDoorW.PrintMore
set_option linter.unusedVariables false
set_option linter.unusedSimpArgs false

/-- The parts, one behind the other. -/
def cat (X : Nat → List UInt8) : Nat → List UInt8
  | 0 => []
  | j + 1 => cat X j ++ X j
/-- The parts as they lie in memory. -/
def RowsRead (w : World) (A : Option Addr) (n : Nat) (B : Nat → Option Addr) (L C : Nat → Nat) (X : Nat → List UInt8) : Prop :=
  ∀ i, i < n → ∃ ad, A = some ad ∧ w.cell? (ad.add i) = some (.slice (B i) (L i) (C i)) ∧ ReadsInt w .u8 (B i) (L i) ((X i).map fun x => (x.toNat : Int)) ∧ L i ≤ C i ∧ L i ≤ 281474976710656
theorem RowsRead.below {w w' : World} {A : Option Addr} {n : Nat} {B : Nat → Option Addr} {L C : Nat → Nat} {X : Nat → List UInt8} (h : RowsRead w A n B L C X) (hb : Below w.heap.size w w') : RowsRead w' A n B L C X := by
  intro i hi
  obtain ⟨ad, e, hc, hr, h1, h2⟩ := h i hi
  exact ⟨ad, e, cell_later hb hc, hr.below hb, h1, h2⟩

theorem Tryd.size5' : (Tryd.prog.info? 5).map (·.size) = some 1 := by kernel_rfl
theorem Tryd.info5' : (Tryd.prog.info? 5).map (fun i => (i.zero, i.size, i.bytes)) = some (some (.int .u8 0), 1, 1) := by kernel_rfl
theorem fill_one (l : List Int) (m : Nat) (h : l.length = m) : l.take m ++ (List.replicate (m + 1) (0 : Int)).drop m = l ++ [0] := by
  subst h
  have e : (List.replicate (l.length + 1) (0 : Int)).drop l.length = [0] := by
    rw [List.drop_replicate, show l.length + 1 - l.length = 1 from by omega]; rfl
  rw [List.take_length, e]
theorem set_one (l : List Int) (m : Nat) (h : l.length = m) (a x : Int) : (l ++ [a]).set m x = l ++ [x] := by
  subst h; rw [List.set_append_right _ _ (Nat.le_refl _)]; simp
theorem rd_one (l : List Int) (m : Nat) (h : l.length = m) (a : Int) : rd (l ++ [a]) (m : Int) = a := by
  subst h; simp [rd, List.getD_eq_getElem?_getD]
theorem take_one (l : List Int) (m : Nat) (h : l.length = m) (a : Int) : (nums .u8 (l ++ [a])).take (m * 1) = nums .u8 l := by
  subst h; rw [Nat.mul_one, nums, ← List.map_take, List.take_left']; rfl; rfl

theorem state_is (s : ByteArray) (w : World) (hs : s.size ≤ 1000000000) (E F : Nat) (hE : (Pl.cnt s.data.toList).2 = E) (hF : begE E = F) :
    Calls Tryd.prog 20 #[.string s] w fun e w' => e = .returned (.tuple #[.int .i64 F, .int .i64 E]) ∧ Below w.heap.size w w' := by
  have := state_any s w hs
  rw [hE, hF] at this; exact this
set_option maxHeartbeats 1000000 in
set_option maxRecDepth 1000000 in
theorem feeds_walk (w : World) (hT : Lib.Utf8Tabs 0 1 w) (A : Option Addr) (n cap : Nat) (B : Nat → Option Addr) (L C : Nat → Nat) (X : Nat → List UInt8) (hr : RowsRead w A n B L C X) :
    Calls Tryd.prog 5 #[.slice A n cap] w fun e w' => e = .returned (.bool true) ∧ Below w.heap.size w w' := by
  replace hT := Aside0.mk hT
  by_cases hlong : (n : Int) > 200
  · go_enter Tryd.func5, Tryd.ntmps5
    go_wp2
    go_ret
    exact ⟨rfl, Below.refl _ _⟩
  have hg0 := tabs_size hT.out
  obtain ⟨g, hgg⟩ : ∃ g, w.heap.size = g := ⟨_, rfl⟩
  have hgl : w.heap.size ≤ g := Nat.le_of_eq hgg
  replace hr := Aside0.mk hr
  obtain ⟨i0, hi0, hsz⟩ := Option.map_eq_some_iff.1 Tryd.size5'
  replace hi0 := Aside0.mk hi0
  clear hsz
  go_enter Tryd.func5, Tryd.ntmps5
  go_wp2_with fail
  refine (new_is _).mono ?_
  rintro e w1 ⟨rfl, C1, B1⟩
  have hT1 := Aside0.mk (Utf8Tabs_below hT.out B1)
  rw [hgg] at C1 hg0
  rw [hgg]
  replace hgg := Aside0.mk hgg
  go_wp2_with fail
  go_loopw [4, 5] (fun a i w' => ∃ (j : Nat) (u : ByteArray), a = .string u ∧ i = .int .i64 j ∧ j ≤ n ∧ u.size ≤ 16384 ∧ Aside0 (u.data.toList = cat X j) ∧ ChkIs w' g (fed ([], false) (cat X j)) ∧ Below w.heap.size w w' ∧ Aside0 (Lib.Utf8Tabs 0 1 w')) (fun _ i _ => n - (RowKit.intOf i).toNat)
  case atStart => exact ⟨0, ⟨#[]⟩, rfl, rfl, by omega, by decide, ⟨rfl⟩, C1, B1, hT1⟩
  case round =>
    obtain ⟨j, u, rfl, rfl, hj, hu, HU, CK, HB, HT⟩ := hrel
    by_cases hjn : j < n
    · have hd : decide ((j : Int) < (n : Int)) = true := decide_eq_true (by omega)
      obtain ⟨ad, rfl, hcell, hrd, hlc, hlb⟩ := hr.out.below HB j hjn
      obtain ⟨E, hE⟩ : ∃ E, (Pl.cnt (cat X (j + 1))).2 = E := ⟨_, rfl⟩
      have hfe : feedE (fed (fed ([], false) (cat X j)) (X j)) = begE E := by
        rw [← fed_app, fed_feed]; unfold begE; rw [← hE]; rfl
      have hen : endS (fed (fed ([], false) (cat X j)) (X j)) = E := by
        rw [← fed_app, fed_end, ← hE]; rfl
      have hfd : fed (fed ([], false) (cat X j)) (X j) = fed ([], false) (cat X (j + 1)) := by rw [← fed_app]; rfl
      have hxl : (X j).length = L j := by have := hrd.1; simpa using this
      obtain ⟨F, hF⟩ : ∃ F, begE E = F := ⟨_, rfl⟩
      rw [hF] at hfe
      obtain ⟨b, hb⟩ : ∃ b, B j = b := ⟨_, rfl⟩
      obtain ⟨m, hmm⟩ : ∃ m, L j = m := ⟨_, rfl⟩
      obtain ⟨c, hcc⟩ : ∃ c, C j = c := ⟨_, rfl⟩
      have hrow : ∀ w', Below w.heap.size w w' → w'.cell? (ad.add j) = some (.slice b m c) ∧ ReadsInt w' .u8 b m ((X j).map fun x => (x.toNat : Int)) := by
        intro w' hb'
        obtain ⟨ad', e, h1, h2, _⟩ := hr.out.below hb' j hjn
        injection e with e; subst e
        rw [hb, hmm, hcc] at h1; rw [hb, hmm] at h2
        exact ⟨h1, h2⟩
      rw [hb, hmm, hcc] at hcell
      rw [hb, hmm] at hrd
      rw [hmm] at hxl hlc hlb
      rw [hcc] at hlc
      clear hb hmm hcc
      replace hrow := Aside0.mk hrow
      replace hE := Aside0.mk hE
      replace hF := Aside0.mk hF
      replace hfe := Aside0.mk hfe
      replace hen := Aside0.mk hen
      replace hfd := Aside0.mk hfd
      replace hxl := Aside0.mk hxl
      by_cases hbig : (u.size : Int) + (m : Int) > 16384
      · clear hrd
        go_wp2
        go_ret
        exact ⟨rfl, HB⟩
      · have hm : m ≤ 16384 := by omega
        have hmk := print_make (P := Tryd.prog) 35 5 .u8 1 Tryd.underlying35 Tryd.info5' (by omega) (m + 1) (by omega)
        rw [show ((m + 1 : Nat) : Int) = (m : Int) + 1 from by omega] at hmk
        have hto := cut_to (P := Tryd.prog) 35 5 .i64 Tryd.underlying35 hi0.out (some ⟨wr.heap.size, 0, none⟩) (m + 1) (m + 1) (m : Int) (by omega) (by omega) (Nat.le_refl _)
        rw [Int.toNat_natCast] at hto
        have ba : Below wr.heap.size wr (wr.alloc (.cells (madeCells #[.int .u8 0] (m + 1)) 5)) := (Below.refl _ wr).alloc (Nat.le_refl _) _
        have HO1 := Aside0.mk (own_made wr wr.heap.size 5 .u8 (m + 1) (Nat.le_refl _) (by omega))
        have HR1 := Aside0.mk (hrd.below ba)
        have HL : Aside0 (((X j).map fun x => (x.toNat : Int)).length = m) := ⟨by simp [hxl.out]⟩
        have hca := cell_later ba hcell
        have hgw := CK.lt
        have hgs := HB.size
        replace hrd := Aside0.mk hrd
        have hcell' := Aside0.mk hcell
        clear ba
        go_wp2_with (with_reducible refine wpList_copy_read rfl (.tmp 38) (.tmp 42) 35 35 5 .u8 rfl Tryd.underlying35 Tryd.size5' wr.heap.size wr.heap.size (m + 1) (m + 1) (List.replicate (m + 1) 0) ((X j).map fun x => (x.toNat : Int)) b m c m (by omega) rfl rfl HO1.out HR1.out ?_; intro w1 h1 g1; rw [fill_one _ m HL.out] at h1; clear hmk HO1 HR1; have hA1 := own_at h1 (m : Int) (by omega) (by omega); rw [Int.toNat_natCast] at hA1; obtain ⟨q1, f1⟩ := hA1; have b1 : Below wr.heap.size wr w1 := (((Below.refl _ wr).alloc (Nat.le_refl _) _).grown g1 (by simp) (fun k hk => by injection hk with hk; omega)); have hc1 := cell_later b1 hcell'.out; have s1 := own_store h1 (m : Int) 77; rw [Int.toNat_natCast, set_one _ m HL.out] at s1; have b2 := b1.grown s1.2 b1.size (fun k hk => by injection hk with hk; omega); have hc2 := cell_later b2 hcell'.out)
        have OW := s1.1
        clear h1 g1 q1 f1 hc1 b1 s1 hto
        generalize (w1.setCell ⟨wr.heap.size, m, none⟩ (.int .u8 77)) = w2 at *
        have C2 := CK.below b2
        have HT2 := Aside0.mk (Utf8Tabs_below HT.out b2)
        have HB2 := below_then HB HB.size b2
        have OT := own_take OW (m := m) (by omega)
        rw [take_one _ m HL.out] at OT
        refine (feed_any w2 g _ C2 _ m (m + 1) _ HT2.out hg0 (own_reads' OT) (fun ad had j hj => far _ g j (by omega) ad had) (by omega) (by omega)).mono ?_
        rw [hfe.out, hfd.out]
        rintro e w3 ⟨rfl, C3, K3⟩
        have OW3 := K3.own OW (fun k hk h => by have hk : some wr.heap.size = some k := hk; injection hk with hk; have h : k = g := h; omega)
        have HT3 := Aside0.mk (tabs_kp HT2.out K3 hg0)
        have HB3 : Below w.heap.size w w3 := K3.toBelow HB2 HB2.size (fun k hk => by have hk : k = g := hk; omega)
        have OT3 := own_take OW3 (m := m) (by omega)
        rw [take_one _ m HL.out] at OT3
        obtain ⟨hcell3, hrd3⟩ := hrow.out w3 HB3
        obtain ⟨V, hV⟩ : ∃ V : ByteArray, (⟨(X j).toArray⟩ : ByteArray) = V := ⟨_, rfl⟩
        have hVl : V.data.toList = X j := by rw [← hV]
        have hVs : V.size = m := by rw [← ba_size, hVl, hxl.out]
        have hcx : ∀ q, (convert 35 9 (.slice (some ⟨wr.heap.size, 0, none⟩) m (m + 1))).run Tryd.prog (w3.drewN q) = .ok (.string V) (w3.drewN q) := fun q => by
          rw [own_string (e := 5) Tryd.underlying35 Tryd.underlying5 Tryd.underlying9 (pw_own_drewN OT3 q), strOf_bytes, hV]
        have hcb : ∀ q, (convert 35 9 (.slice b m c)).run Tryd.prog (w3.drewN q) = .ok (.string V) (w3.drewN q) := fun q => by
          rw [string_of_reads (e := 5) Tryd.underlying35 Tryd.underlying5 Tryd.underlying9 (hrd3.drewN q), strOf_bytes, hV]
        have hto := cut_to (P := Tryd.prog) 35 5 .i64 Tryd.underlying35 hi0.out (some ⟨wr.heap.size, 0, none⟩) (m + 1) (m + 1) (m : Int) (by omega) (by omega) (Nat.le_refl _)
        rw [Int.toNat_natCast] at hto
        have q3 := (own_at OW3 (m : Int) (by omega) (by omega)).1
        rw [Int.toNat_natCast, rd_one _ m HL.out] at q3
        have hul : (u ++ V).data.toList = cat X (j + 1) := by rw [app_list, HU.out, hVl]; rfl
        have hus : (u ++ V).size ≤ 16384 := by rw [ByteArray.size_append, hVs]; omega
        have hV2 : u.size + V.size ≤ 16384 := by omega
        replace hul := Aside0.mk hul
        replace hus := Aside0.mk hus
        replace HB3 := Aside0.mk HB3
        clear C2 CK HB2 OW OT hrd3 hV hVl hVs hcell hca hc2 OW3 OT3 b2 K3 HT2
        go_wp2_with fail
        go_quiet (fail)
        have HBq := pw_below_drewN HB3.out nq
        have HTq := Aside0.mk (tabs_heap HT3.out (rfl : (w3.drewN nq).heap = w3.heap))
        have Cq : ChkIs (w3.drewN nq) g (fed ([], false) (cat X (j + 1))) := C3.kept (Kp.drewN (Kp.refl w3 (fun _ => False)) nq) (fun h => h)
        clear q3 hto
        go_wp2_with fail
        refine (state_is (u ++ V) _ (by have := hus.out; omega) E F (by rw [hul.out]; exact hE.out) hF.out).mono ?_
        rintro e w4 ⟨rfl, B4⟩
        have C4 := Cq.below B4
        have HB4 := below_then HBq HBq.size B4
        have HT4 := Aside0.mk (Utf8Tabs_below HTq.out B4)
        have hen4 := hen.out
        rw [hfd.out] at hen4
        replace hen4 := Aside0.mk hen4
        clear HBq HTq Cq C3 hcx hcb hcell3 HT3 B4
        go_wp2_with fail
        refine (end_is' _ g _ C4).mono ?_
        rw [hen4.out]
        rintro e w5 ⟨rfl, rfl⟩
        go_wp2_with fail
        refine (end_is' _ g _ C4).mono ?_
        rw [hen4.out]
        rintro e w5 ⟨rfl, rfl⟩
        go_wp2
        go_roundw
        case rel => exact ⟨j + 1, u ++ V, rfl, by go_num, by omega, hus.out, hul, C4, HB4, HT4⟩
        case measure => simp [RowKit.intOf]; omega
    · have hd : decide ((j : Int) < (n : Int)) = false := decide_eq_false (by omega)
      clear CK
      go_wp2_with fail
      refine (aw _ HT.out).mono ?_
      rintro e w4 ⟨rfl, B4⟩
      replace HB := below_then HB HB.size B4
      go_wp2
      go_ret
      exact ⟨rfl, HB⟩
end Go.Proofs.YtimfabbielphbaaDoor
