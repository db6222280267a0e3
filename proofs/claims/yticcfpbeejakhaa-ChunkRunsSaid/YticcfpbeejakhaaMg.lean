/- The contracts of the reference's methods. -/
import Derived.Test.YticcfpbeejakhaaMf
namespace Go.Proofs.Yticcfpbeejakhaa
open Go.RowKit Go.Proofs.YticcfpbeejakhaaW.PrintWords Go.Proofs.YticcfpbeejakhaaW.PrintMore
attribute [local go_sem] max2_int min2_int max_two min_two
set_option linter.unusedVariables false
set_option linter.unusedSimpArgs false

theorem strOfNums_append (a b : List Int) : strOfNums a ++ strOfNums b = strOfNums (a ++ b) := by
  apply ByteArray.ext
  simp [strOfNums]
theorem strOfNums_extract (a : List Int) (p m : Nat) : (strOfNums a).extract p (p + m) = strOfNums ((a.drop p).take m) := by
  apply ByteArray.ext
  simp [strOfNums, ByteArray.data_extract, List.extract_eq_drop_take', List.map_take, List.map_drop]

/-- The reference's own block. -/
def RefB (w : World) (g : Nat) (limit pos once : Int) (all : List Int) : Prop :=
  w.heap[g]? = some (.cells #[.int .i64 limit, .int .i64 pos, .int .i64 once, .string (strOfNums all)] 31 (0, 0))

theorem RefB.cells {w : World} {g : Nat} {limit pos once : Int} {all : List Int} (h : RefB w g limit pos once all) :
    w.cell? ⟨g, 0, none⟩ = some (.int .i64 limit) ∧ w.cell? ⟨g, 1, none⟩ = some (.int .i64 pos) ∧ w.cell? ⟨g, 2, none⟩ = some (.int .i64 once) ∧
    w.cell? ⟨g, 3, none⟩ = some (.string (strOfNums all)) ∧ (∀ j, w.frozen? ⟨g, j, none⟩ = false) := by
  refine ⟨(blk_cell h 0).trans rfl, (blk_cell h 1).trans rfl, (blk_cell h 2).trans rfl, (blk_cell h 3).trans rfl, fun j => blk_frozen h j⟩
section
variable {w w' : World} {g : Nat} {limit pos once : Int} {all : List Int}
theorem RefB.below (h : RefB w g limit pos once all) (hb : Below w.heap.size w w') : RefB w' g limit pos once all := (hb.block g (blk_lt h)).trans h
theorem RefB.kept {S : Nat → Prop} (h : RefB w g limit pos once all) (hk : Kp w w' S) (hg : ¬ S g) : RefB w' g limit pos once all := hk.heap h hg
theorem RefB.set1 (h : RefB w g limit pos once all) (x : Int) : RefB (w.setCell ⟨g, 1, none⟩ (.int .i64 x)) g limit x once all := by simpa [RefB] using blk_set h 1 (.int .i64 x)
theorem RefB.set2 (h : RefB w g limit pos once all) (x : Int) : RefB (w.setCell ⟨g, 2, none⟩ (.int .i64 x)) g limit pos x all := by simpa [RefB] using blk_set h 2 (.int .i64 x)
theorem RefB.set3 (h : RefB w g limit pos once all) (l : List Int) : RefB (w.setCell ⟨g, 3, none⟩ (.string (strOfNums l))) g limit pos once l := by simpa [RefB] using blk_set h 3 (.string (strOfNums l))
end

set_option maxHeartbeats 400000 in
set_option maxRecDepth 100000 in
theorem rfeed_no (w : World) (g : Nat) (limit pos once : Int) (all : List Int) (h : RefB w g limit pos once all) (h0 : 0 ≤ limit) (h1 : limit ≤ 1000000) (h2 : all.length ≤ 1000000)
    (A : Option Addr) (m c : Nat) (hm : limit < all.length + m) :
    Calls Try.prog 20 #[.pointer (some ⟨g, 0, none⟩), .slice A m c] w fun e w' => e = .returned (.int .i64 2) ∧ Below w.heap.size w w' := by
  obtain ⟨k0, k1, k2, k3, kf⟩ := h.cells
  clear h
  have hs := strOfNums_size all
  have e1 : IntKind.i64.wrap (limit - (all.length : Int)) = limit - all.length := IntWalk.i64_in _ (by omega)
  have hd : decide (limit - (all.length : Int) < (m : Int)) = true := decide_eq_true (by omega)
  go_enter Try.func20, Try.ntmps20
  go_wp2
  go_quiet (fail)
  go_wp2
  go_ret
  exact ⟨rfl, drewN_below _ _⟩

set_option maxHeartbeats 400000 in
set_option maxRecDepth 100000 in
theorem rfeed_yes (w : World) (g : Nat) (limit pos once : Int) (all : List Int) (h : RefB w g limit pos once all) (h0 : 0 ≤ limit) (h1 : limit ≤ 1000000) (h2 : all.length ≤ 1000000)
    (A : Option Addr) (m c : Nat) (ys : List Int) (HR : ReadsInt w .u8 A m ys) (hm : all.length + m ≤ limit) :
    Calls Try.prog 20 #[.pointer (some ⟨g, 0, none⟩), .slice A m c] w fun e w' => e = .returned (.int .i64 0) ∧ RefB w' g limit pos once (all ++ ys) ∧ Kp w w' (fun k => k = g) := by
  have HS := Lib.hid h
  obtain ⟨k0, k1, k2, k3, kf⟩ := h.cells
  clear h
  have hcb : ∀ q, (convert 33 9 (.slice A m c)).run Try.prog (w.drewN q).drew = .ok (.string (strOfNums ys)) (w.drewN q).drew := fun q => string_of_reads (P := Try.prog) (src := 33) (dst := 9) (e := 5) Try.underlying33 Try.underlying5 Try.underlying9 HR
  have hs2 : (strOfNums ys).size = m := by rw [strOfNums_size]; exact HR.1
  have hbd : ¬ (9223372036854775807 < all.length + m) := by omega
  clear HR
  have hs := strOfNums_size all
  have e1 : IntKind.i64.wrap (limit - (all.length : Int)) = limit - all.length := IntWalk.i64_in _ (by omega)
  have hd : decide (limit - (all.length : Int) < (m : Int)) = false := decide_eq_false (by omega)
  go_enter Try.func20, Try.ntmps20
  go_wp2
  go_quiet (fail)
  go_wp2
  have hcb1 := hcb nq
  have HS1 : Hid (RefB (w.drewN nq) g limit pos once all) := HS
  have HK1 : Hid (Kp w (w.drewN nq) (fun k => k = g)) := (Kp.refl w _).drewN nq
  clear hcb HS k0 k1 k2 k3 kf
  generalize w.drewN nq = W1 at *
  obtain ⟨k0, k1, k2, k3, kf⟩ := HS1.out.cells
  go_region
  all_goals go_wp2
  all_goals go_ret
  all_goals
    refine ⟨rfl, ?_, (HK1.out.set_ (p := ⟨g, 3, none⟩) (.inl rfl) _).drew⟩
    rw [strOfNums_append]
    exact HS1.out.set3 _

set_option maxHeartbeats 400000 in
set_option maxRecDepth 100000 in
theorem rpeek_no (w : World) (g : Nat) (limit pos once : Int) (all : List Int) (h : RefB w g limit pos once all) (h0 : 0 ≤ pos) (h1 : pos ≤ 1000000) (h2 : all.length ≤ 1000000)
    (m : Int) (hm : m < 0 ∨ (all.length : Int) - pos < m) :
    Calls Try.prog 23 #[.pointer (some ⟨g, 0, none⟩), .int .i64 m] w fun e w' => e = .returned (.tuple #[.string (strOfNums []), .bool false]) ∧ Below w.heap.size w w' := by
  obtain ⟨k0, k1, k2, k3, kf⟩ := h.cells
  clear h
  have hs := strOfNums_size all
  have e1 : IntKind.i64.wrap ((all.length : Int) - pos) = all.length - pos := IntWalk.i64_in _ (by omega)
  by_cases hm0 : m < 0
  · clear hm
    have hd : decide (m < 0) = true := decide_eq_true hm0
    go_enter Try.func23, Try.ntmps23
    go_wp2
    go_quiet (fail)
    go_wp2
    go_ret2
    exact ⟨rfl, drewN_below _ _⟩
  · have hd : decide (m < 0) = false := decide_eq_false hm0
    have hd1 : decide ((all.length : Int) - pos < m) = true := decide_eq_true (by omega)
    go_enter Try.func23, Try.ntmps23
    go_wp2
    go_quiet (fail)
    go_wp2
    go_ret2
    exact ⟨rfl, drewN_below _ _⟩

set_option maxHeartbeats 400000 in
set_option maxRecDepth 100000 in
theorem rpeek_yes (w : World) (g : Nat) (limit pos once : Int) (all : List Int) (h : RefB w g limit pos once all) (h0 : 0 ≤ pos) (h1 : pos ≤ 1000000) (h2 : all.length ≤ 1000000)
    (m : Int) (hm0 : 0 ≤ m) (hm : m ≤ (all.length : Int) - pos) :
    Calls Try.prog 23 #[.pointer (some ⟨g, 0, none⟩), .int .i64 m] w fun e w' => e = .returned (.tuple #[.string (strOfNums ((all.drop pos.toNat).take m.toNat)), .bool true]) ∧ Below w.heap.size w w' := by
  obtain ⟨m, rfl⟩ := Int.eq_ofNat_of_zero_le hm0
  obtain ⟨p, rfl⟩ := Int.eq_ofNat_of_zero_le h0
  rw [Int.toNat_natCast, Int.toNat_natCast]
  obtain ⟨k0, k1, k2, k3, kf⟩ := h.cells
  clear h
  have hs := strOfNums_size all
  have e1 : IntKind.i64.wrap ((all.length : Int) - p) = all.length - p := IntWalk.i64_in _ (by omega)
  have e2 : IntKind.i64.wrap ((p : Int) + m) = p + m := IntWalk.i64_in _ (by omega)
  have e3 : ((p : Int) + (m : Int)).toNat = p + m := by omega
  have hd : decide ((m : Int) < 0) = false := decide_eq_false (by omega)
  have hd1 : decide ((all.length : Int) - p < (m : Int)) = false := decide_eq_false (by omega)
  have b1 : (p : Int) ≤ (p : Int) + m := by omega
  have b2 : (p : Int) + m ≤ (all.length : Int) := by omega
  have b3 : (0 : Int) ≤ (p : Int) + m := by omega
  go_enter Try.func23, Try.ntmps23
  go_wp2
  go_quiet (fail)
  go_wp2
  go_quiet (fail)
  go_wp2
  go_ret2
  exact ⟨by rw [strOfNums_extract]; rfl, by first | exact drewN_below _ _ | (rw [World.drewN_drewN]; exact drewN_below _ _)⟩

set_option maxHeartbeats 400000 in
set_option maxRecDepth 100000 in
theorem rtake_no (w : World) (g : Nat) (limit pos once : Int) (all : List Int) (h : RefB w g limit pos once all) (h0 : 0 ≤ pos) (h1 : pos ≤ 1000000) (h2 : all.length ≤ 1000000) (h3 : pos ≤ once) (h4 : once ≤ 1000000)
    (m : Int) (hm : m < 0 ∨ (all.length : Int) - pos < m) :
    Calls Try.prog 21 #[.pointer (some ⟨g, 0, none⟩), .int .i64 m] w fun e w' => e = .returned (.tuple #[.string (strOfNums []), .bool false]) ∧ RefB w' g limit pos once all ∧ Kp w w' (fun k => k = g) := by
  have hz : (strOfNums []).size = 0 := rfl
  have e1 : IntKind.i64.wrap (pos + 0) = pos := by rw [Int.add_zero]; exact IntWalk.i64_in _ (by omega)
  go_enter Try.func21, Try.ntmps21
  go_wp2_with (go_at_call 23; refine (rpeek_no _ _ _ _ _ _ h h0 h1 h2 _ hm).mono ?_; rintro e w1 ⟨rfl, HB⟩; have HS := RefB.below h HB; obtain ⟨k0, k1, k2, k3, kf⟩ := HS.cells)
  have HK : Kp w (w1.setCell ⟨g, 1, none⟩ (.int .i64 pos)) (fun k => k = g) := (Kp.of_below HB (fun k => k = g)).set_ (p := ⟨g, 1, none⟩) (.inl rfl) _
  have HS2 := HS.set1 pos
  clear HS k0 k1 k2 k3 kf HB
  generalize (w1.setCell ⟨g, 1, none⟩ (.int .i64 pos)) = W2 at *
  obtain ⟨k0, k1, k2, k3, kf⟩ := HS2.cells
  go_region
  all_goals go_wp2
  all_goals go_ret2
  all_goals
    refine ⟨rfl, ?_, (HK.set_ (p := ⟨g, 2, none⟩) (.inl rfl) _).drew⟩
    first
    | exact HS2.set2 _
    | (exfalso; omega)

set_option maxHeartbeats 400000 in
set_option maxRecDepth 100000 in
theorem rtake_yes (w : World) (g : Nat) (limit pos once : Int) (all : List Int) (h : RefB w g limit pos once all) (h0 : 0 ≤ pos) (h1 : pos ≤ 1000000) (h2 : all.length ≤ 1000000)
    (m : Int) (hm0 : 0 ≤ m) (hm : m ≤ (all.length : Int) - pos) :
    Calls Try.prog 21 #[.pointer (some ⟨g, 0, none⟩), .int .i64 m] w fun e w' => e = .returned (.tuple #[.string (strOfNums ((all.drop pos.toNat).take m.toNat)), .bool true]) ∧
      RefB w' g limit (pos + m) (max once (pos + m)) all ∧ Kp w w' (fun k => k = g) := by
  have hz : ((strOfNums ((all.drop pos.toNat).take m.toNat)).size : Int) = m := by
    rw [strOfNums_size, List.length_take, List.length_drop]; omega
  have e1 : IntKind.i64.wrap (pos + m) = pos + m := IntWalk.i64_in _ (by omega)
  obtain ⟨sx, hsx⟩ : ∃ sx, strOfNums ((all.drop pos.toNat).take m.toNat) = sx := ⟨_, rfl⟩
  have H := rpeek_yes w g limit pos once all h h0 h1 h2 m hm0 hm
  rw [hsx] at H hz ⊢
  clear hsx
  have hH := Lib.hid H
  clear H
  go_enter Try.func21, Try.ntmps21
  go_wp2_with (go_at_call 23; refine hH.out.mono ?_; rintro e w1 ⟨rfl, HB⟩; have HS := RefB.below h HB; obtain ⟨k0, k1, k2, k3, kf⟩ := HS.cells)
  have HK : Kp w (w1.setCell ⟨g, 1, none⟩ (.int .i64 (pos + m))) (fun k => k = g) := (Kp.of_below HB (fun k => k = g)).set_ (p := ⟨g, 1, none⟩) (.inl rfl) _
  have HS2 := HS.set1 (pos + m)
  clear HS k0 k1 k2 k3 kf HB
  generalize (w1.setCell ⟨g, 1, none⟩ (.int .i64 (pos + m))) = W2 at *
  obtain ⟨k0, k1, k2, k3, kf⟩ := HS2.cells
  go_region
  all_goals go_wp2
  all_goals go_ret2
  all_goals
    refine ⟨rfl, ?_, (HK.set_ (p := ⟨g, 2, none⟩) (.inl rfl) _).drew⟩
    first
    | (rw [show max once (pos + m) = once from by omega]; exact HS2.set2 _)
    | (rw [show max once (pos + m) = pos + m from by omega]; exact HS2.set2 _)

set_option maxHeartbeats 400000 in
set_option maxRecDepth 100000 in
theorem rback_arg (w : World) (g : Nat) (m : Int) (hm : m < 0) :
    Calls Try.prog 24 #[.pointer (some ⟨g, 0, none⟩), .int .i64 m] w fun e w' => e = .returned (.int .i64 1) ∧ w = w' := by
  go_enter Try.func24, Try.ntmps24
  go_wp2
  go_ret
  exact ⟨rfl, rfl⟩

set_option maxHeartbeats 400000 in
set_option maxRecDepth 100000 in
theorem rback_no (w : World) (g : Nat) (limit pos once : Int) (all : List Int) (h : RefB w g limit pos once all)
    (h0 : 0 ≤ pos) (h1 : pos ≤ 1000000) (h2 : 0 ≤ once) (h3 : once ≤ 1000000) (m : Int) (hm0 : 0 ≤ m) (hm : pos < m ∨ pos - m < once - 16) :
    Calls Try.prog 24 #[.pointer (some ⟨g, 0, none⟩), .int .i64 m] w fun e w' => e = .returned (.int .i64 60) ∧ Below w.heap.size w w' := by
  obtain ⟨k0, k1, k2, k3, kf⟩ := h.cells
  clear h
  have hd0 : decide (m < 0) = false := decide_eq_false (by omega)
  by_cases hp : pos < m
  · clear hm
    have hd : decide (pos < m) = true := decide_eq_true hp
    go_enter Try.func24, Try.ntmps24
    go_wp2
    go_quiet (fail)
    go_wp2
    go_ret
    exact ⟨rfl, drewN_below _ _⟩
  · have hm2 : pos - m < once - 16 := by omega
    clear hm
    have hd : decide (pos < m) = false := decide_eq_false hp
    have e1 : IntKind.i64.wrap (pos - m) = pos - m := IntWalk.i64_in _ (by omega)
    have e2 : IntKind.i64.wrap (once - 16) = once - 16 := IntWalk.i64_in _ (by omega)
    have hd2 : decide (pos - m < once - 16) = true := decide_eq_true hm2
    go_enter Try.func24, Try.ntmps24
    go_wp2
    go_quiet (fail)
    go_wp2
    go_ret
    exact ⟨rfl, drewN_below _ _⟩

set_option maxHeartbeats 400000 in
set_option maxRecDepth 100000 in
theorem rback_yes (w : World) (g : Nat) (limit pos once : Int) (all : List Int) (h : RefB w g limit pos once all)
    (h0 : 0 ≤ pos) (h1 : pos ≤ 1000000) (h2 : 0 ≤ once) (h3 : once ≤ 1000000) (m : Int) (hm0 : 0 ≤ m) (hp : m ≤ pos) (hm : once - 16 ≤ pos - m) :
    Calls Try.prog 24 #[.pointer (some ⟨g, 0, none⟩), .int .i64 m] w fun e w' => e = .returned (.int .i64 0) ∧ RefB w' g limit (pos - m) once all ∧ Kp w w' (fun k => k = g) := by
  have HS := h
  obtain ⟨k0, k1, k2, k3, kf⟩ := h.cells
  clear h
  have hd0 : decide (m < 0) = false := decide_eq_false (by omega)
  have hd : decide (pos < m) = false := decide_eq_false (by omega)
  have e1 : IntKind.i64.wrap (pos - m) = pos - m := IntWalk.i64_in _ (by omega)
  have e2 : IntKind.i64.wrap (once - 16) = once - 16 := IntWalk.i64_in _ (by omega)
  have hd2 : decide (pos - m < once - 16) = false := decide_eq_false (by omega)
  go_enter Try.func24, Try.ntmps24
  go_wp2
  go_quiet (fail)
  go_wp2
  go_ret
  exact ⟨rfl, HS.set1 _, ((Kp.refl w (fun k => k = g)).set_ (p := ⟨g, 1, none⟩) (.inl rfl) _).drewN _⟩
end Go.Proofs.Yticcfpbeejakhaa
