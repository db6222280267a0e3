/- strconv.FormatUint at base 16; fbits.Hex. -/
import Derived.Test.YtocmmdheegkbaaaDoorGh
import Derived.LoopTactic
namespace Go.Proofs.YtocmmdheegkbaaaDoor
open Go.RowKit Go.Proofs.YtocmmdheegkbaaaDoorW.PrintWords Go.Proofs.YtocmmdheegkbaaaDoorW.PrintMore
set_option linter.unusedVariables false
set_option linter.unusedSimpArgs false

set_option maxHeartbeats 1000000 in
set_option maxRecDepth 1000000 in
theorem pow2_16 (w : World) : Calls Tryd.prog 66 #[.int .i64 16] w fun e w' => e = .returned (.bool true) ∧ w = w' := by
  have h : bits .and .i64 16 15 = 0 := by decide
  go_enter Tryd.func66, Tryd.ntmps66
  go_wp2
  go_ret
  exact ⟨rfl, rfl⟩
set_option maxHeartbeats 1000000 in
set_option maxRecDepth 1000000 in
theorem tz_16 (w : World) (hc : w.cell? ⟨7, 15, none⟩ = some (.int .u8 4)) : Calls Tryd.prog 67 #[.int .u64 16] w fun e w' => e = .returned (.int .i64 4) ∧ w = w' := by
  have hA : bits .and .u64 16 (IntKind.u64.wrap (-16)) = 16 := by decide
  have hB : IntKind.u64.wrap 4573923408821661840 / 288230376151711744 = 15 := by decide
  go_enter Tryd.func67, Tryd.ntmps67
  go_wp2
  go_ret
  exact ⟨rfl, rfl⟩

/-! ### digits -/
def dgt (d : Nat) : UInt8 := UInt8.ofNat (if d < 10 then 48 + d else 87 + d)
/-- A number's digits. -/
def hx : Nat → Nat → List UInt8
  | 0, _ => []
  | f + 1, n => if n < 16 then [dgt n] else hx f (n / 16) ++ [dgt (n % 16)]
theorem hx_len : ∀ (f n : Nat), n < 16 ^ f → 1 ≤ f → 1 ≤ (hx f n).length ∧ (hx f n).length ≤ f
  | 0, n, h, h1 => by omega
  | f + 1, n, h, _ => by
    rw [hx]
    split
    · simp
    · rename_i hn
      have hf : 1 ≤ f := by
        rcases f with _ | f
        · simp at h; omega
        · omega
      have := hx_len f (n / 16) (by rw [Nat.pow_succ] at h; omega) hf
      simp; omega
/-- A block of 65 bytes, filled from k on. -/
def ArrB (w : World) (g k : Nat) (ds : List UInt8) : Prop :=
  ∃ arr : Array Value, w.heap[g]? = some (.cells arr 91 (0, 0)) ∧ arr.size = 65 ∧ arr.toList.drop k = (ds.map fun (x : UInt8) => Value.int .u8 x.toNat) ∧ k + ds.length = 65 ∧ ∀ i, i < 65 → ∃ x : Int, arr[i]? = some (.int .u8 x)
theorem ArrB.cell {w : World} {g k : Nat} {ds : List UInt8} (h : ArrB w g k ds) (i : Nat) (hi : i < 65) : (∃ x : Int, w.cell? ⟨g, i, none⟩ = some (.int .u8 x)) ∧ w.frozen? ⟨g, i, none⟩ = false := by
  obtain ⟨arr, h1, h2, h3, h4, h5⟩ := h
  obtain ⟨x, hx⟩ := h5 i hi
  exact ⟨⟨x, (blk_cell h1 i).trans hx⟩, blk_frozen h1 i⟩
theorem ArrB.put {w : World} {g k : Nat} {ds : List UInt8} (h : ArrB w g (k + 1) ds) (x : UInt8) (hk : k < 65) : ArrB (w.setCell ⟨g, k, none⟩ (.int .u8 x.toNat)) g k (x :: ds) := by
  obtain ⟨arr, h1, h2, h3, h4, h5⟩ := h
  refine ⟨arr.setIfInBounds k (.int .u8 x.toNat), blk_set h1 k _, by simp [h2], ?_, by simp; omega, fun i hi => ?_⟩
  · rw [Array.toList_setIfInBounds, List.drop_eq_getElem_cons (by simp; omega), List.map_cons, ← h3]
    congr 1
    · simp
    · rw [List.drop_set_of_lt (by omega)]
  · by_cases hik : i = k
    · subst hik
      exact ⟨x.toNat, by rw [Array.getElem?_setIfInBounds_self_of_lt (by omega)]⟩
    · obtain ⟨y, hy⟩ := h5 i hi
      exact ⟨y, by rw [Array.getElem?_setIfInBounds_ne (by omega)]; exact hy⟩
theorem ArrB.reads {w : World} {g k : Nat} {ds : List UInt8} (h : ArrB w g k ds) : ReadsInt w .u8 (some ⟨g, k, none⟩) ds.length (ds.map fun x => (x.toNat : Int)) := by
  obtain ⟨arr, h1, h2, h3, h4, h5⟩ := h
  refine ⟨by simp, by omega, fun _ => ⟨_, rfl, fun j hj => ?_⟩⟩
  have e : (Addr.add ⟨g, k, none⟩ j) = ⟨g, k + j, none⟩ := by rcases j with _ | j <;> simp [Addr.add]
  rw [e]
  refine (blk_cell h1 (k + j)).trans ?_
  have : arr.toList[k + j]? = (arr.toList.drop k)[j]? := by rw [List.getElem?_drop]
  rw [← Array.getElem?_toList, this, h3]
  simp [List.getD_eq_getElem?_getD, hj]

theorem dig_get (d : Nat) (h : d < 16) (hh : d < (⟨#[48, 49, 50, 51, 52, 53, 54, 55, 56, 57, 97, 98, 99, 100, 101, 102, 103, 104, 105, 106, 107, 108, 109, 110, 111, 112, 113, 114, 115, 116, 117, 118, 119, 120, 121, 122]⟩ : ByteArray).size) : (⟨#[48, 49, 50, 51, 52, 53, 54, 55, 56, 57, 97, 98, 99, 100, 101, 102, 103, 104, 105, 106, 107, 108, 109, 110, 111, 112, 113, 114, 115, 116, 117, 118, 119, 120, 121, 122]⟩ : ByteArray)[d]'hh = dgt d := by
  have : ∀ d : Fin 16, (⟨#[48, 49, 50, 51, 52, 53, 54, 55, 56, 57, 97, 98, 99, 100, 101, 102, 103, 104, 105, 106, 107, 108, 109, 110, 111, 112, 113, 114, 115, 116, 117, 118, 119, 120, 121, 122]⟩ : ByteArray)[d.1]'(Nat.lt_of_lt_of_le d.2 (by decide)) = dgt d.1 := by decide
  exact this ⟨d, h⟩
theorem strOf_bytes (xs : List UInt8) : strOfNums (xs.map fun x => (x.toNat : Int)) = ⟨xs.toArray⟩ := by
  simp only [strOfNums, List.map_map]
  congr 1
  congr 1
  conv => rhs; rw [← List.map_id xs]
  apply List.map_congr_left
  intro x _
  simp
theorem slice65 (G j : Nat) (hj : j < 65) (w : World) : (Instr.sliceAt 91 (.pointer (some ⟨G, 0, none⟩)) (some (.int .i64 (j : Int))) none none).run Tryd.prog w = .ok (.slice (some ⟨G, j, none⟩) (65 - j) (65 - j)) w := by
  have hal : Tryd.prog.arrayLen 91 = 65 := by kernel_rfl
  have hel : Tryd.prog.elem 91 = 5 := by kernel_rfl
  have hs : (sizeOf 5).run Tryd.prog w = .ok 1 w := by kernel_rfl
  rw [run_sliceAt_array_l (P := Tryd.prog) w 91 ⟨G, 0, none⟩ (by kernel_rfl) .i64 (j : Int) (by omega) (by rw [hal]; omega), hel, hs]
  simp only [Result.andThen, slicedAt, hal, Int.toNat_natCast, Nat.mul_one]
  rw [if_neg (by omega)]
  rcases j with _ | j <;> simp [Addr.add]
set_option maxHeartbeats 1000000 in
set_option maxRecDepth 1000000 in
theorem formatBits_16 (b : Nat) (hb : b < 18446744073709551616) (w : World) (hc : w.cell? ⟨7, 15, none⟩ = some (.int .u8 4)) :
    Calls Tryd.prog 56 #[.slice none 0 0, .int .u64 (b : Int), .int .i64 16, .bool false, .bool false] w fun e w' => e = .returned (.tuple #[.slice none 0 0, .string ⟨(hx 16 b).toArray⟩]) ∧ Below w.heap.size w w' := by
  have hA0 : ArrB (w.alloc (.cells Tryd.zeroCells91 91)) w.heap.size 65 [] := by
    refine ⟨Tryd.zeroCells91, heap_alloc_new w _, by kernel_rfl, ?_, rfl, fun i hi => ⟨0, ?_⟩⟩
    · have : Tryd.zeroCells91.size = 65 := by kernel_rfl
      rw [List.drop_of_length_le (by rw [Array.length_toList, this]; exact Nat.le_refl _)]; rfl
    · have : Tryd.zeroCells91 = Array.replicate 65 (Value.int .u8 0) := by kernel_rfl
      rw [this, Array.getElem?_replicate, if_pos hi]
  have hH0 : hx 16 b = hx 16 b ++ [] := (List.append_nil _).symm
  have hb16 : b < 16 ^ 16 := hb
  replace hA0 := Lib.hid hA0
  replace hH0 := Lib.hid hH0
  replace hb16 := Lib.hid hb16
  go_enter Tryd.func56, Tryd.ntmps56
  go_wp2_with (first | (go_at_call 66; refine (pow2_16 _).mono ?_; rintro e w1 ⟨rfl, rfl⟩) | (go_at_call 67; refine (tz_16 _ (cell_later (below_alloc (Below.refl _ _) _) hc)).mono ?_; rintro e w2 ⟨rfl, rfl⟩))
  go_loopw [1, 13] (fun u i w' => ∃ (f m k : Nat) (ds : List UInt8), u = .int .u64 m ∧ i = .int .i64 k ∧ ArrB w' w.heap.size k ds ∧ k + ds.length = 65 ∧ f + ds.length = 16 ∧ 1 ≤ f ∧ Aside0 (m < 16 ^ f) ∧ m < 18446744073709551616 ∧ Aside0 (hx 16 b = hx f m ++ ds) ∧ Below w.heap.size w w') (fun u _ _ => (RowKit.intOf u).toNat)
  case atStart => exact ⟨16, b, 65, [], rfl, rfl, hA0.out, rfl, rfl, by omega, ⟨hb16.out⟩, hb, ⟨hH0.out⟩, below_alloc (Below.refl _ _) _⟩
  case round =>
    obtain ⟨f, m, k, ds, rfl, rfl, HA, hk, hfd, hf1, hmf, hm, HH, HB⟩ := hrel
    by_cases h16 : 16 ≤ m
    · have hd : decide ((m : Int) ≥ 16) = true := decide_eq_true (by omega)
      obtain ⟨j, rfl⟩ : ∃ j, k = j + 1 := ⟨k - 1, by omega⟩
      obtain ⟨⟨x0, hc0⟩, hfz⟩ := HA.cell j (by omega)
      obtain ⟨d, hdm⟩ : ∃ d, m % 16 = d := ⟨_, rfl⟩
      have hd16 : d < 16 := by omega
      have hAnd : bits .and .u64 (m : Int) 15 = (d : Int) := and_low 4 m 15 d rfl hdm hm (by decide) _ _ rfl rfl
      have hget := fun hh => dig_get d hd16 hh
      have hx0 := UInt8.toNat_lt (dgt d)
      obtain ⟨q, hq⟩ : ∃ q, m / 16 = q := ⟨_, rfl⟩
      have hqi : (m : Int) / 16 = (q : Int) := by omega
      have HP := Lib.hid (HA.put (dgt d) (by omega))
      replace hdm := Lib.hid hdm
      replace hq := Lib.hid hq
      replace HH := Lib.hid HH
      replace hmf := Lib.hid hmf
      go_wp2
      go_roundw
      case rel =>
        refine ⟨f - 1, q, j, dgt d :: ds, rfl, rfl, HP.out, by simp; omega, by simp; omega, ?_, ⟨?_⟩, by have := hq.out; omega, ⟨?_⟩, HB.setCell (Nat.le_refl _) _⟩
        · have := hmf.out
          have hf : f ≠ 1 := by
            intro c; rw [c] at this; have h1 := this.out; omega
          omega
        · have := hmf.out.out
          rw [← hq.out]
          rw [show f = (f - 1) + 1 by omega, Nat.pow_succ] at this
          omega
        · rw [HH.out.out]
          have hf : f = (f - 1) + 1 := by omega
          rw [hf, hx, if_neg (by omega), hq.out, hdm.out]
          simp
      case measure => simp [RowKit.intOf]; have := hq.out; omega
    · have hd : decide ((m : Int) ≥ 16) = false := decide_eq_false (by omega)
      obtain ⟨j, rfl⟩ : ∃ j, k = j + 1 := ⟨k - 1, by omega⟩
      obtain ⟨⟨x0, hc0⟩, hfz⟩ := HA.cell j (by omega)
      have hm16 : m < 16 := by omega
      have hget := fun hh => dig_get m hm16 hh
      have hx0 := UInt8.toNat_lt (dgt m)
      have HP := HA.put (dgt m) (by omega)
      have hlen : (dgt m :: ds).length = 65 - j := by simp; omega
      have hall : hx 16 b = dgt m :: ds := by
        rw [HH.out, show f = (f - 1) + 1 by omega, hx, if_pos hm16]; rfl
      have hR := HP.reads
      rw [hlen, ← hall] at hR
      have hcv : ∀ c, (convert 70 9 (.slice (some ⟨w.heap.size, j, none⟩) (65 - j) c)).run Tryd.prog (wr.setCell ⟨w.heap.size, j, none⟩ (.int .u8 ((dgt m).toNat : Int))) = .ok (.string ⟨(hx 16 b).toArray⟩) (wr.setCell ⟨w.heap.size, j, none⟩ (.int .u8 ((dgt m).toNat : Int))) := fun c => by
        rw [string_of_reads (e := 5) Tryd.underlying70 Tryd.underlying5 Tryd.underlying9 hR, strOf_bytes]
      have hcv1 := hcv (65 - j)
      have hsl := fun w' => slice65 w.heap.size j (by omega) w'
      clear hcv
      replace hall := Lib.hid hall
      replace HH := Lib.hid HH
      replace hR := Lib.hid hR
      replace hlen := Lib.hid hlen
      go_wp2
      go_ret2
      exact ⟨rfl, HB.setCell (Nat.le_refl _) _⟩
end Go.Proofs.YtocmmdheegkbaaaDoor
