/- The law UtfParts, walked. -/
import Derived.Test.YtimfabbielphbaaDoorWm
namespace Go.Proofs.YtimfabbielphbaaDoor
open Go.RowKit Go.Lib Go.Proofs.YtimfabbielphbaaDoorW.PrintWords Go.Proofs.YtimfabbielphbaaDoorW.PrintMore
set_option linter.unusedVariables false
set_option linter.unusedSimpArgs false

theorem bytes_of (l : List Int) (h : ∀ n ∈ l, (Lit.int .u8 n).wf = true) : ∃ xs : List UInt8, l = xs.map fun x => (x.toNat : Int) := by
  refine ⟨l.map fun n => UInt8.ofNat n.toNat, ?_⟩
  rw [List.map_map]
  conv => lhs; rw [← List.map_id l]
  apply List.map_congr_left
  intro n hn
  have := h n hn
  have hb : 0 ≤ n ∧ n ≤ 255 := by simpa [Lit.wf, IntKind.min, IntKind.max, IntKind.signed, IntKind.bits] using this
  simp; omega
theorem reads_ne {w : World} {k : IntKind} {A : Option Addr} {n g : Nat} {xs : List Int} (hr : ReadsInt w k A n xs) (hg : w.heap.size ≤ g) : ∀ ad, A = some ad → ∀ j, j < n → (ad.add j).block ≠ g := by
  intro ad h j hj
  obtain ⟨ad', e, hc⟩ := hr.2.2 (by omega)
  rw [h] at e; injection e with e; subst e
  have := World.block_lt_of_cell? _ _ (hc j hj)
  omega
theorem cut_bytes (A : Option Addr) (n c p : Nat) (q : Int) (q' : Nat) (hq : q = q') (h1 : p ≤ q') (h2 : q' ≤ n) (hc : n ≤ c) (W : World) :
    (Instr.slice 35 (.slice A n c) (some (.int .i64 (p : Int))) (some (.int .i64 q)) none).run Tryd.prog W = .ok (.slice (if c = p then A else A.map (·.add p)) (q' - p) (c - p)) W := by
  subst hq
  have hinfo : (Tryd.prog.info? 5).map (·.size) = some 1 := by kernel_rfl
  obtain ⟨i, hi, hz⟩ := Option.map_eq_some_iff.1 hinfo
  have := cut_mid (P := Tryd.prog) 35 5 .i64 .i64 Tryd.underlying35 hi 1 hz A n c (p : Int) (q' : Int) (by omega) (by omega) (by omega) hc W
  rw [this, Int.toNat_natCast, Int.toNat_natCast, Nat.mul_one]
theorem fed_cut (s : List UInt8 × Bool) (xs : List UInt8) (p q : Nat) (h : p ≤ q) : fed s (xs.take q) = fed (fed s (xs.take p)) ((xs.take q).drop p) := by
  rw [← fed_app]
  congr 1
  have := List.take_append_drop p (xs.take q)
  rw [List.take_take, Nat.min_eq_left h] at this
  exact this.symm
theorem str_conv {W : World} {A : Option Addr} {n c : Nat} {xs : List UInt8} (h : ReadsInt W .u8 A n (xs.map fun x => (x.toNat : Int))) :
    (convert 35 9 (.slice A n c)).run Tryd.prog W = .ok (.string ⟨xs.toArray⟩) W := by
  rw [string_of_reads (e := 5) Tryd.underlying35 Tryd.underlying5 Tryd.underlying9 h, strOf_bytes]

set_option maxHeartbeats 1000000 in
set_option maxRecDepth 1000000 in
/-- The last line. -/
theorem parts_walk (w : World) (hT : Lib.Utf8Tabs 0 1 w) (A : Option Addr) (len cap : Nat) (l : List Int) (hr : ReadsInt w .u8 A len l) (hy : len * 1 ≤ 140737488351232) (hc : len ≤ cap) (hw : ∀ n ∈ l, (Lit.int .u8 n).wf = true)
    (A2 : Option Addr) (len2 cap2 : Nat) (l2 : List Int) (hr2 : ReadsInt w .i64 A2 len2 l2) (hy2 : len2 * 8 ≤ 140737488351232) (hc2 : len2 ≤ cap2) (hw2 : ∀ n ∈ l2, (Lit.int .i64 n).wf = true) :
    Calls Tryd.prog 6 #[.slice A len cap, .slice A2 len2 cap2] w fun e w' => e = .returned (.bool true) ∧ Below w.heap.size w w' := by
  replace hT := Aside0.mk hT
  clear hw2
  by_cases hlong : (len : Int) > 16384
  · go_enter Tryd.func6, Tryd.ntmps6
    go_wp2
    go_ret
    exact ⟨rfl, Below.refl _ _⟩
  by_cases hlong2 : (len2 : Int) > 200
  · go_enter Tryd.func6, Tryd.ntmps6
    go_wp2
    go_ret
    exact ⟨rfl, Below.refl _ _⟩
  obtain ⟨xs, rfl⟩ := bytes_of l hw
  clear hw
  have hxl : xs.length = len := by have := hr.1; simpa using this
  have HX := Aside0.mk hxl
  have hl2 := Aside0.mk hr2.1
  clear hxl
  have hg0 := tabs_size hT.out
  obtain ⟨g, hgg⟩ : ∃ g, w.heap.size = g := ⟨_, rfl⟩
  replace hr := Aside0.mk hr
  replace hr2 := Aside0.mk hr2
  go_enter Tryd.func6, Tryd.ntmps6
  go_wp2_with fail
  refine (new_is _).mono ?_
  rintro e w1 ⟨rfl, C1, B1⟩
  have hT1 := Aside0.mk (Utf8Tabs_below hT.out B1)
  have K1 : Kp w w1 (· = g) := Kp.of_below B1 _
  rw [hgg] at C1 hg0
  rw [hgg]
  replace hgg := Aside0.mk hgg
  clear B1
  go_wp2_with fail
  go_loopw [6, 7] (fun a i w' => ∃ (p j : Nat), a = .int .i64 p ∧ i = .int .i64 j ∧ j ≤ len2 + 1 ∧ p ≤ len ∧ (len2 < j → len ≤ p) ∧ ChkIs w' g (fed ([], false) (xs.take p)) ∧ Kp w w' (· = g) ∧ Aside0 (Lib.Utf8Tabs 0 1 w')) (fun _ i _ => len2 + 1 - (RowKit.intOf i).toNat)
  case atStart => exact ⟨0, 0, rfl, rfl, by omega, by omega, by omega, C1, K1, hT1⟩
  case round =>
    obtain ⟨p, j, rfl, rfl, hj, hp, hpj, C, K, HT⟩ := hrel
    have hne := reads_ne hr.out (Nat.le_of_eq hgg.out)
    have hne2 := reads_ne hr2.out (Nat.le_of_eq hgg.out)
    have RB := Aside0.mk (K.reads hr.out hne)
    have RC := K.reads hr2.out hne2
    by_cases hjm : j ≤ len2
    · have hd : decide ((j : Int) ≤ (len2 : Int)) = true := decide_eq_true (by omega)
      -- one part, up to q
      have one : ∀ (q m : Nat), p ≤ q → q ≤ len → q - p = m → ∀ (A' : Option Addr), (if cap = p then A else A.map (·.add p)) = A' →
          Calls Tryd.prog 19 #[.pointer (some ⟨g, 0, none⟩), .slice A' m (cap - p)] wr fun e w' => e = .returned (.int .i64 (feedE (fed ([], false) (xs.take q)))) ∧ ChkIs w' g (fed ([], false) (xs.take q)) ∧ Kp w w' (· = g) ∧ Aside0 (Lib.Utf8Tabs 0 1 w') := by
        intro q m h1 h2 hm A' hA'
        subst hm
        have R' : ReadsInt wr .u8 A' (q - p) (((xs.take q).drop p).map fun x => (x.toNat : Int)) := by
          have := (RB.out.take_ q h2).drop_ (c := cap) p h1 (by omega)
          rw [hA'] at this
          rw [List.map_drop, List.map_take]; exact this
        have R0 : ReadsInt w .u8 A' (q - p) (((xs.take q).drop p).map fun x => (x.toNat : Int)) := by
          have := (hr.out.take_ q h2).drop_ (c := cap) p h1 (by omega)
          rw [hA'] at this
          rw [List.map_drop, List.map_take]; exact this
        refine (feed_any wr g _ C A' (q - p) (cap - p) _ HT.out hg0 R' (reads_ne R0 (Nat.le_of_eq hgg.out)) (by omega) (by omega)).mono ?_
        rintro e w' ⟨he, hC, hK⟩
        rw [← fed_cut _ _ _ _ h1] at he hC
        exact ⟨he, hC, K.trans hK (fun i hi => .inl hi), ⟨tabs_kp HT.out hK hg0⟩⟩
      clear C K HT RB
      have all : ∀ W, (Instr.slice 35 (.slice A len cap) (some (.int .i64 (p : Int))) (some (.int .i64 (len : Int))) none).run Tryd.prog W = .ok (.slice (if cap = p then A else A.map (·.add p)) (len - p) (cap - p)) W :=
        fun W => cut_bytes A len cap p len len rfl hp (Nat.le_refl _) hc W
      have some_ : ∀ (c : Int), 0 ≤ c → c < (len : Int) - (p : Int) → ∀ W, (Instr.slice 35 (.slice A len cap) (some (.int .i64 (p : Int))) (some (.int .i64 ((p : Int) + c))) none).run Tryd.prog W = .ok (.slice (if cap = p then A else A.map (·.add p)) c.toNat (cap - p)) W :=
        fun c h1 h2 W => by have := cut_bytes A len cap p ((p : Int) + c) (p + c.toNat) (by omega) (by omega) (by omega) hc W; rwa [show p + c.toNat - p = c.toNat by omega] at this
      obtain ⟨A', hA'⟩ : ∃ A', (if cap = p then A else A.map (·.add p)) = A' := ⟨_, rfl⟩
      simp only [hA'] at all some_
      replace one := fun q m h1 h2 h3 => one q m h1 h2 h3 A' hA'
      replace hA' := Aside0.mk hA'
      replace one := Aside0.mk one
      by_cases hj2 : j < len2
      · obtain ⟨ad2, rfl, hcells⟩ := RC.2.2 (by omega)
        have hcell := hcells j hj2
        obtain ⟨c, hcv⟩ : ∃ c, l2.getD j 0 = c := ⟨_, rfl⟩
        rw [hcv] at hcell
        replace hcv := Aside0.mk hcv
        clear hcells RC
        have hd1 : decide ((j : Int) < (len2 : Int)) = true := decide_eq_true (by omega)
        by_cases c0 : 0 ≤ c
        · have c0' : decide (c ≥ 0) = true := decide_eq_true c0
          by_cases c1 : c < (len : Int) - (p : Int)
          · have c1' : decide (c < (len : Int) - (p : Int)) = true := decide_eq_true c1
            have cut := some_ c c0 c1
            clear all some_
            go_wp2_with fail
            refine (one.out (p + c.toNat) c.toNat (by omega) (by omega) (by omega)).mono ?_
            rintro e w2 ⟨rfl, C2, K2, HT2⟩
            go_wp2
            go_roundw
            case rel => exact ⟨p + c.toNat, j + 1, congrArg (Value.int .i64) (by omega), by go_num, by omega, by omega, by omega, C2, K2, HT2⟩
            case measure => simp [RowKit.intOf]; omega
          · have c1' : decide (c < (len : Int) - (p : Int)) = false := decide_eq_false c1
            clear some_
            go_wp2_with fail
            refine (one.out len (len - p) (by omega) (by omega) rfl).mono ?_
            rintro e w2 ⟨rfl, C2, K2, HT2⟩
            go_wp2
            go_roundw
            case rel => exact ⟨len, j + 1, rfl, by go_num, by omega, by omega, by omega, C2, K2, HT2⟩
            case measure => simp [RowKit.intOf]; omega
        · have c0' : decide (c ≥ 0) = false := decide_eq_false c0
          clear some_
          go_wp2_with fail
          refine (one.out len (len - p) (by omega) (by omega) rfl).mono ?_
          rintro e w2 ⟨rfl, C2, K2, HT2⟩
          go_wp2
          go_roundw
          case rel => exact ⟨len, j + 1, rfl, by go_num, by omega, by omega, by omega, C2, K2, HT2⟩
          case measure => simp [RowKit.intOf]; omega
      · have hd1 : decide ((j : Int) < (len2 : Int)) = false := decide_eq_false (by omega)
        clear some_ RC
        go_wp2_with fail
        refine (one.out len (len - p) (by omega) (by omega) rfl).mono ?_
        rintro e w2 ⟨rfl, C2, K2, HT2⟩
        go_wp2
        go_roundw
        case rel => exact ⟨len, j + 1, rfl, by go_num, by omega, by omega, by omega, C2, K2, HT2⟩
        case measure => simp [RowKit.intOf]; omega
    · have hd : decide ((j : Int) ≤ (len2 : Int)) = false := decide_eq_false (by omega)
      have hall : xs.take p = xs := List.take_of_length_le (by have := HX.out; have := hpj (by omega); omega)
      rw [hall] at C
      have hend : (endS (fed ([], false) xs)) = (Pl.cnt xs).2 := fed_end xs
      obtain ⟨k, x, hcn⟩ : ∃ k x, Pl.cnt xs = (k, x) := ⟨_, _, rfl⟩
      rw [hcn] at hend
      obtain ⟨b, hb⟩ : ∃ b, decide (x = 0) = b := ⟨_, rfl⟩
      have hz : ((x : Int) == 0) = b := by
        rw [← hb]; by_cases h : x = 0
        · subst h; rfl
        · rw [decide_eq_false h]; exact beq_eq_false_iff_ne.2 (by omega)
      have hsz : (⟨xs.toArray⟩ : ByteArray).size ≤ 9223372036854775807 := by
        show xs.toArray.size ≤ _
        have := HX.out
        simp; omega
      replace hall := Aside0.mk hall
      replace hend := Aside0.mk hend
      replace hcn := Aside0.mk hcn
      replace hb := Aside0.mk hb
      replace hsz := Aside0.mk hsz
      clear hne hne2 RC
      have HTd : Lib.Utf8Tabs 0 1 wr.drew := tabs_heap HT.out rfl
      have Cd : ChkIs wr.drew g (fed ([], false) xs) := C.kept (Kp.drew (Kp.refl wr (fun _ => False))) (fun h => h)
      have Kd : Kp w wr.drew (· = g) := K.drew
      have Rd : ReadsInt wr.drew .u8 A len _ := RB.out
      replace HTd := Aside0.mk HTd
      replace Rd := Aside0.mk Rd
      have hgl : w.heap.size ≤ g := Nat.le_of_eq hgg.out
      have BF := Kd.toBelow (Below.refl w.heap.size w) (Nat.le_refl _) (fun k hk => by omega)
      clear C K HT RB hgg hgl Kd
      go_wp2_with fail
      go_region_with (first | (go_at_call 12; refine (aw _ HTd.out).mono ?_; rintro e w2 ⟨rfl, B2⟩; have hcv := str_conv (c := cap) (Rd.out.below B2)) | (go_at_call 21; refine (end_is' _ g _ (Cd.below B2)).mono ?_; rw [hend.out]; rintro e w3 ⟨rfl, rfl⟩) | (go_at_call 13; refine (valid_is _ _ (Utf8Tabs_below HTd.out B2) hsz.out k x b hcn.out hb.out).mono ?_; rintro e w4 ⟨rfl, B4⟩))
      all_goals
        have BG := below_then (below_then BF BF.size B2) (below_then BF BF.size B2).size B4
        go_wp2
        go_ret
        exact ⟨rfl, BG⟩
end Go.Proofs.YtimfabbielphbaaDoor
