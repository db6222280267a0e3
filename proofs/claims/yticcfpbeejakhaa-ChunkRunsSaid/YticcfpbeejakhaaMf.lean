/- The contracts of the helpers: Lend, Back. -/
import Derived.Test.YticcfpbeejakhaaMe
namespace Go.Proofs.Yticcfpbeejakhaa
open Go.RowKit Go.Proofs.YticcfpbeejakhaaW.PrintWords Go.Proofs.YticcfpbeejakhaaW.PrintMore
set_option linter.unusedVariables false
set_option linter.unusedSimpArgs false

theorem fill_part (l : List Int) (m : Nat) (h : l.length = m) : l.take m ++ (List.replicate (m + 2) (0 : Int)).drop m = l ++ [0, 0] := by
  subst h
  have e : (List.replicate (l.length + 2) (0 : Int)).drop l.length = [0, 0] := by
    rw [List.drop_replicate, show l.length + 2 - l.length = 2 from by omega]; rfl
  rw [List.take_length, e]
theorem set_first (l : List Int) (m : Nat) (h : l.length = m) (a b x : Int) : (l ++ [a, b]).set m x = l ++ [x, b] := by
  subst h; rw [List.set_append_right _ _ (Nat.le_refl _)]; simp
theorem set_second (l : List Int) (m : Nat) (h : l.length = m) (a b x : Int) : (l ++ [a, b]).set (m + 1) x = l ++ [a, x] := by
  subst h; rw [List.set_append_right _ _ (by omega)]; simp
theorem rd_first (l : List Int) (m : Nat) (h : l.length = m) (a b : Int) : rd (l ++ [a, b]) (m : Int) = a := by
  subst h; simp [rd, List.getD_eq_getElem?_getD]
theorem rd_second (l : List Int) (m : Nat) (h : l.length = m) (a b : Int) : rd (l ++ [a, b]) ((m + 1 : Nat) : Int) = b := by
  subst h
  rw [rd, Int.toNat_natCast, List.getD_eq_getElem?_getD, List.getElem?_append_right (by omega)]
  simp

set_option maxHeartbeats 400000 in
set_option maxRecDepth 100000 in
theorem lend_any (w : World) (A : Option Addr) (m c : Nat) (ys : List Int) (HR : ReadsInt w .u8 A m ys) (hm : m ≤ 1000000) :
    Calls Try.prog 18 #[.slice A m c] w fun e w' => ∃ gx : Nat, e = .returned (.slice (some ⟨gx, 0, none⟩) m (m + 2)) ∧ w.heap.size ≤ gx ∧
      w'.ownsRow w.heap.size 5 1 (.slice (some ⟨gx, 0, none⟩) (m + 2) (m + 2)) (m + 2) (nums .u8 (ys ++ [165, 90])) ∧ Below w.heap.size w w' := by
  have hyl : ys.length = m := HR.1
  have hmk := print_make (P := Try.prog) 33 5 .u8 1 Try.underlying33 Try.info5 (by omega) (m + 2) (by omega)
  rw [show ((m + 2 : Nat) : Int) = (m : Int) + 2 from by omega] at hmk
  obtain ⟨i0, hi0, hsz⟩ := Option.map_eq_some_iff.1 Try.size5
  have hto := cut_to (P := Try.prog) 33 5 .i64 Try.underlying33 hi0 (some ⟨w.heap.size, 0, none⟩) (m + 2) (m + 2) (m : Int) (by omega) (by omega) (Nat.le_refl _)
  rw [Int.toNat_natCast] at hto
  have HO1 := Lib.hid (own_made w w.heap.size 5 .u8 (m + 2) (Nat.le_refl _) (by omega))
  have HR1 := Lib.hid (HR.below ((Below.refl _ w).alloc (Nat.le_refl _) (.cells (madeCells #[.int .u8 0] (m + 2)) 5)))
  have HL := Lib.hid hyl
  clear hyl HR
  go_enter Try.func18, Try.ntmps18
  go_wp2_with (with_reducible refine wpList_copy_read rfl (.tmp 8) (.tmp 9) 33 33 5 .u8 rfl Try.underlying33 Try.size5 w.heap.size w.heap.size (m + 2) (m + 2) (List.replicate (m + 2) 0) ys A m c m (by omega) rfl rfl HO1.out HR1.out ?_; intro w1 h1 g1; rw [fill_part ys m HL.out] at h1; clear hmk HO1 HR1; have hA1 := own_at h1 (m : Int) (by omega) (by omega); rw [Int.toNat_natCast] at hA1; obtain ⟨q1, f1⟩ := hA1; have hA2 := own_at h1 ((m + 1 : Nat) : Int) (by omega) (by omega); rw [Int.toNat_natCast] at hA2; obtain ⟨q2, f2⟩ := hA2)
  go_ret
  have s1 := own_store h1 (m : Int) 165
  rw [Int.toNat_natCast, set_first ys m HL.out] at s1
  have s2 := own_store s1.1 ((m + 1 : Nat) : Int) 90
  rw [Int.toNat_natCast, set_second ys m HL.out] at s2
  refine ⟨_, rfl, Nat.le_refl _, s2.1, ?_⟩
  exact (((((Below.refl _ w).alloc (Nat.le_refl _) _).grown g1 (by simp) (fun k hk => by injection hk with hk; omega)).grown s1.2 (by have := g1.size; simp at this; omega) (fun k hk => by injection hk with hk; omega)).grown s2.2 (by have := g1.size; simp at this; simp [World.setCell]; omega) (fun k hk => by injection hk with hk; omega))

theorem cut_cap {P : Program} (t e : TypeId) (kh : IntKind) {i : TypeInfo} (ht : P.underlying t = some (.slice e)) (hi : P.info? e = some i) (A : Option Addr) (n c : Nat) (j : Int) (h0 : 0 ≤ j) (hm : j ≤ c) :
    ∀ W : World, (Instr.slice t (.slice A n c) none (some (.int kh j)) none).run P W = .ok (.slice A j.toNat c) W := by
  intro W
  have hel : P.elem t = e := by simp [Program.elem, ht]
  have hu : P.underlying t = some (.slice (P.elem t)) := by rw [hel]; exact ht
  have ha : (A.map fun x => x.add 0) = A := by cases A <;> simp [Addr.add]
  rw [run_slice_h W t A n c hu kh j h0 hm, hel]
  simp [sizeOf, typeInfo, hi, sliced, Result.andThen, ha]

theorem take_first (l : List Int) (m : Nat) (h : l.length = m) (a b : Int) : (nums .u8 (l ++ [a, b])).take (m * 1) = nums .u8 l := by
  subst h; rw [Nat.mul_one, nums, ← List.map_take, List.take_left']; rfl; rfl

set_option maxHeartbeats 400000 in
set_option maxRecDepth 100000 in
theorem keepback_any (w : World) (B gx : Nat) (A : Option Addr) (m c : Nat) (ys : List Int) (HR : ReadsInt w .u8 A m ys) (hm : m ≤ 1000000)
    (HO : w.ownsRow B 5 1 (.slice (some ⟨gx, 0, none⟩) (m + 2) (m + 2)) (m + 2) (nums .u8 (ys ++ [165, 90]))) :
    Calls Try.prog 19 #[.slice (some ⟨gx, 0, none⟩) m (m + 2), .slice A m c] w fun e w' => e = .returned (.bool true) ∧ Kp w w' (fun k => k = gx) := by
  have hyl : ys.length = m := HR.1
  obtain ⟨i0, hi0, hsz⟩ := Option.map_eq_some_iff.1 Try.size5
  have hto := cut_cap (P := Try.prog) 33 5 .i64 Try.underlying33 hi0 (some ⟨gx, 0, none⟩) m (m + 2) ((m : Int) + 2) (by omega) (by omega)
  rw [show ((m : Int) + 2).toNat = m + 2 from by omega] at hto
  have hA1 := own_at HO (m : Int) (by omega) (by omega)
  rw [Int.toNat_natCast, rd_first ys m hyl] at hA1
  obtain ⟨q1, f1⟩ := hA1
  have hA2 := own_at HO ((m + 1 : Nat) : Int) (by omega) (by omega)
  rw [Int.toNat_natCast, rd_second ys m hyl] at hA2
  obtain ⟨q2, f2⟩ := hA2
  have HT := own_take HO (m := m) (by omega)
  rw [take_first ys m hyl] at HT
  have hcx := own_string (P := Try.prog) (src := 33) (dst := 9) (e := 5) Try.underlying33 Try.underlying5 Try.underlying9 HT
  have hcb := string_of_reads (P := Try.prog) (src := 33) (dst := 9) (e := 5) (c := c) Try.underlying33 Try.underlying5 Try.underlying9 HR
  clear HT HR hyl f1 f2
  have H0 := Lib.hid HO
  clear HO
  go_enter Try.func19, Try.ntmps19
  go_wp2
  go_loopw [7] (fun i wr => ∃ (k : Nat) (zs : List Int), k ≤ m + 2 ∧ i = .int .i64 k ∧ wr.ownsRow B 5 1 (.slice (some ⟨gx, 0, none⟩) (m + 2) (m + 2)) (m + 2) (nums .u8 zs) ∧ Kp w wr (fun k => k = gx)) (fun i _ => m + 2 - (intOf i).toNat)
  case atStart => exact ⟨0, _, Nat.zero_le _, rfl, H0.out, Kp.refl _ _⟩
  case round =>
    obtain ⟨k, zs, hk, rfl, hO, hK⟩ := hrel
    clear hcx hcb H0 q1 q2
    by_cases hlt : k < m + 2
    · obtain ⟨hc, hf⟩ := own_at hO (k : Int) (by omega) (by omega)
      rw [Int.toNat_natCast] at hc hf
      have hst := own_store hO (k : Int) ((rd zs k + 77) % 256)
      rw [Int.toNat_natCast] at hst
      have H1 := Lib.hid hst
      have H2 := Lib.hid hK
      clear hst hO hK
      have hltz : (k : Int) < (m : Int) + 2 := by omega
      go_wp2
      go_roundw
      case rel => exact ⟨k + 1, _, by omega, by go_num, H1.out.1, H2.out.set_ (p := ⟨gx, k, none⟩) (.inl rfl) _⟩
      case measure => simp [intOf]; omega
    · go_wp2
      go_ret
      exact ⟨by simp, hK⟩
end Go.Proofs.Yticcfpbeejakhaa
