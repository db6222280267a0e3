/- The contract of chunk's Feed. -/
import Derived.Test.YticcfpbeejakhaaMb
namespace Go.Proofs.Yticcfpbeejakhaa
open Go.RowKit Go.Proofs.YticcfpbeejakhaaW.PrintWords Go.Proofs.YticcfpbeejakhaaW.PrintMore
set_option linter.unusedVariables false
set_option linter.unusedSimpArgs false

set_option maxHeartbeats 400000 in
set_option maxRecDepth 100000 in
theorem feed_nil (w : World) (A : Option Addr) (m c : Nat) : Calls Try.prog 12 #[.pointer none, .slice A m c] w fun e w' => e = .returned (.int .i64 3) ∧ w = w' := by
  go_enter Try.func12, Try.ntmps12
  go_wp2
  go_ret
  exact ⟨rfl, rfl⟩

set_option maxHeartbeats 400000 in
set_option maxRecDepth 100000 in
theorem feed_no (w : World) (g : Nat) (A : Option Addr) (n c : Nat) (pos once gone limit : Int) (h : SrcB w g (.slice A n c) pos once gone limit)
    (h0 : 0 ≤ gone) (h1 : gone ≤ 1000000) (h2 : n ≤ 1000000) (h3 : 0 ≤ limit) (h4 : limit ≤ 1000000) (Ab : Option Addr) (m cb : Nat) (hm : limit - (gone + n) < (m : Int)) :
    Calls Try.prog 12 #[.pointer (some ⟨g, 0, none⟩), .slice Ab m cb] w fun e w' => e = .returned (.int .i64 2) ∧ Below w.heap.size w w' := by
  have HS := h
  obtain ⟨k0, k1, k2, k3, k4, kf⟩ := h.cells
  clear h
  have HT : ∀ q, Calls Try.prog 16 #[.pointer (some ⟨g, 0, none⟩)] (w.drewN q) fun e w' => e = .returned (.int .i64 (gone + n)) ∧ ∃ m, w' = (w.drewN q).drewN m := fun q => total_any (w.drewN q) g A n c pos once gone limit HS h0 h1 h2
  have e1 : IntKind.i64.wrap (limit - (gone + (n : Int))) = limit - (gone + n) := IntWalk.i64_in _ (by omega)
  have hd : decide (limit - (gone + (n : Int)) < (m : Int)) = true := decide_eq_true hm
  go_enter Try.func12, Try.ntmps12
  go_wp2
  go_quiet ((go_at_call 16; exact Calls.quiet_of (HT _)))
  go_wp2
  go_ret
  exact ⟨rfl, drewN_below _ _⟩

theorem quo2 (n : Nat) : ((n : Int)).tdiv 2 = ((n / 2 : Nat) : Int) := by simp

set_option maxHeartbeats 800000 in
set_option maxRecDepth 100000 in
theorem feed_plain (w : World) (B g : Nat) (A : Option Addr) (n c : Nat) (pos once gone limit : Int) (h : SrcB w g (.slice A n c) pos once gone limit)
    (h0 : 0 ≤ gone) (h1 : gone ≤ 1000000) (h2 : n ≤ 1000000) (h3 : 0 ≤ limit) (h4 : limit ≤ 1000000) (h5 : 0 ≤ once) (h6 : once ≤ 1000000)
    (xs : List Int) (HO : w.ownsRow B 5 1 (.slice A n c) n (nums .u8 xs)) (hB : B ≤ w.heap.size)
    (Ab : Option Addr) (m cb : Nat) (ys : List Int) (HR : ReadsInt w .u8 Ab m ys) (hm : (m : Int) ≤ limit - (gone + n)) (hold : once - 16 ≤ ((n / 2 : Nat) : Int)) :
    Calls Try.prog 12 #[.pointer (some ⟨g, 0, none⟩), .slice Ab m cb] w fun e w' => ∃ A' c', e = .returned (.int .i64 0) ∧ SrcB w' g (.slice A' (n + m) c') pos once gone limit ∧
      w'.ownsRow B 5 1 (.slice A' (n + m) c') (n + m) (nums .u8 (xs ++ ys)) ∧ Kp w w' (fun k => k = g ∨ (Value.slice A n c).ownBlock = some k) ∧
      ((Value.slice A' (n + m) c').ownBlock = (Value.slice A n c).ownBlock ∨ ∃ b, (Value.slice A' (n + m) c').ownBlock = some b ∧ w.heap.size ≤ b) := by
  have hxl : xs.length = n := by have := HO.1; simpa [nums] using this
  have hyl : ys.length = m := HR.1
  have HS := h
  obtain ⟨k0, k1, k2, k3, k4, kf⟩ := h.cells
  clear h
  have HT : ∀ q, Calls Try.prog 16 #[.pointer (some ⟨g, 0, none⟩)] (w.drewN q) fun e w' => e = .returned (.int .i64 (gone + n)) ∧ ∃ m, w' = (w.drewN q).drewN m := fun q => total_any (w.drewN q) g A n c pos once gone limit HS h0 h1 h2
  have e1 : IntKind.i64.wrap (limit - (gone + (n : Int))) = limit - (gone + n) := IntWalk.i64_in _ (by omega)
  have hd : decide (limit - (gone + (n : Int)) < (m : Int)) = false := decide_eq_false (by omega)
  have hd2 : decide (((n : Int) / 2) < once - 16) = false := decide_eq_false (by omega)
  have HL := Lib.hid hxl
  clear hxl
  have HM := Lib.hid hyl
  clear hyl
  go_enter Try.func12, Try.ntmps12
  go_wp2
  go_quiet ((go_at_call 16; exact Calls.quiet_of (HT _)))
  have HK : Kp w (w.drewN nq) (fun k => k = g ∨ (Value.slice A n c).ownBlock = some k) := (Kp.refl _ _).drewN nq
  have HS1 : SrcB (w.drewN nq) g (.slice A n c) pos once gone limit := HS
  have HO1 : (w.drewN nq).ownsRow B 5 1 (.slice A n c) xs.length (nums .u8 xs) := by rw [HL.out]; exact HO
  have HR1 : ReadsInt (w.drewN nq) .u8 Ab m ys := HR
  have hB1 : B ≤ (w.drewN nq).heap.size := hB
  have hl1 : (xs.length + m) * 1 ≤ 140737488355328 := by rw [HL.out]; omega
  clear HT HS HO HR k0 k1 k2 k3 k4 kf
  generalize w.drewN nq = W1 at *
  obtain ⟨k0, k1, k2, k3, k4, kf⟩ := HS1.cells
  have HN := HS1.ne HO1
  have HLM : Hid ((xs ++ ys).length = n + m) := Lib.hid (by rw [List.length_append, HL.out, HM.out])
  go_wp2_with (at_builtin; refine print_append_row B rfl (.tmp 82) (.tmp 83) 33 5 .u8 1 rfl Try.underlying33 Try.info5 (by omega) (.slice A n c) xs ys Ab m cb rfl rfl HO1 HR1 (Below.refl _ _) hB1 hl1 ?_; intro v1 w2 hO2 hB2 hg2 hat2; rw [HLM.out] at hO2; have HS2 : SrcB w2 g (.slice A n c) pos once gone limit := (hg2.block g (blk_lt HS1) HN).trans HS1; obtain ⟨A', c', rfl⟩ := own_slice hO2; clear k0 k1 k2 k3 k4 kf; obtain ⟨k0, k1, k2, k3, k4, kf⟩ := HS2.cells)
  go_ret
  have HK2 := HK.grown hg2 (fun k hk => .inl (.inr hk))
  refine ⟨A', c', rfl, HS2.set0 _, HS2.keep hO2 0 _, HK2.set_ (p := ⟨g, 0, none⟩) (.inl (.inl rfl)) _, ?_⟩
  rcases hat2 with h | ⟨b, hb, hle⟩
  · exact .inl h
  · exact .inr ⟨b, hb, Nat.le_trans HK.size hle⟩

theorem own_len {w : World} {B e : Nat} {v : Value} {n m : Nat} {xs : List Value} (h : m = n) (ho : w.ownsRow B e 1 v n xs) : w.ownsRow B e 1 v m xs := by rw [h]; exact ho

theorem add_block (ad : Addr) (j : Nat) : (ad.add j).block = ad.block := by unfold Addr.add; split <;> rfl

theorem shift_row (xs : List Int) (d n : Nat) (h : xs.length = n) (hd : d ≤ n) : ((xs.drop d).take (n - d) ++ xs.drop (n - d)).take (n - d) = xs.drop d := by
  have e : (xs.drop d).take (n - d) = xs.drop d := List.take_of_length_le (by rw [List.length_drop]; omega)
  rw [e, List.take_append_of_le_length (by rw [List.length_drop]; omega), e]

set_option maxHeartbeats 800000 in
set_option maxRecDepth 100000 in
theorem feed_shift (w : World) (B g : Nat) (A : Option Addr) (n c : Nat) (pos once gone limit : Int) (h : SrcB w g (.slice A n c) pos once gone limit)
    (h0 : 0 ≤ gone) (h1 : gone ≤ 1000000) (h2 : n ≤ 1000000) (h3 : 0 ≤ limit) (h4 : limit ≤ 1000000) (h5 : once ≤ n) (h6 : 0 ≤ pos) (h7 : pos ≤ 1000000) 
    (xs : List Int) (HO : w.ownsRow B 5 1 (.slice A n c) n (nums .u8 xs)) (hB : B ≤ w.heap.size)
    (Ab : Option Addr) (m cb : Nat) (ys : List Int) (HR : ReadsInt w .u8 Ab m ys) (hap : ∀ ad, Ab = some ad → 0 < m → some ad.block ≠ (Value.slice A n c).ownBlock ∧ ad.block ≠ g)
    (hm : (m : Int) ≤ limit - (gone + n)) (d : Nat) (hd : (d : Int) = once - 16) (hold : n / 2 < d) :
    Calls Try.prog 12 #[.pointer (some ⟨g, 0, none⟩), .slice Ab m cb] w fun e w' => ∃ A' c', e = .returned (.int .i64 0) ∧ SrcB w' g (.slice A' (n - d + m) c') (pos - d) (once - d) (gone + d) limit ∧
      w'.ownsRow B 5 1 (.slice A' (n - d + m) c') (n - d + m) (nums .u8 (xs.drop d ++ ys)) ∧ Kp w w' (fun k => k = g ∨ (Value.slice A n c).ownBlock = some k) ∧
      ((Value.slice A' (n - d + m) c').ownBlock = (Value.slice A n c).ownBlock ∨ ∃ b, (Value.slice A' (n - d + m) c').ownBlock = some b ∧ w.heap.size ≤ b) := by
  have hxl : xs.length = n := by have := HO.1; simpa [nums] using this
  have hyl : ys.length = m := HR.1
  have HS := h
  clear h
  obtain ⟨gb, cap, hform, hBgb, hgbl⟩ := HO.form (by omega)
  injection hform with hA _ hc
  subst hA
  subst hc
  have hnc : n ≤ c := by
    rcases HO.2 with ⟨h, _⟩ | ⟨g', cap', cur, h, _, _, hn, _⟩
    · cases h
    · injection h with _ _ h; omega
  have hgne : gb ≠ g := fun e => HS.ne HO (by simp [Value.ownBlock, e])
  have hon : once = (d : Int) + 16 := by omega
  clear hd
  subst hon
  have e1 : IntKind.i64.wrap (limit - (gone + (n : Int))) = limit - (gone + n) := IntWalk.i64_in _ (by omega)
  have hd1 : decide (limit - (gone + (n : Int)) < (m : Int)) = false := decide_eq_false (by omega)
  have hd2 : decide (((n : Int) / 2) < (d : Int)) = true := decide_eq_true (by omega)
  have es : ((d : Int) + 16 - 16) = (d : Int) := by omega
  have HT : ∀ q, Calls Try.prog 16 #[.pointer (some ⟨g, 0, none⟩)] (w.drewN q) fun e w' => e = .returned (.int .i64 (gone + n)) ∧ ∃ m, w' = (w.drewN q).drewN m := fun q => total_any (w.drewN q) g _ n c pos _ gone limit HS h0 h1 h2
  obtain ⟨i0, hi0, hsz⟩ := Option.map_eq_some_iff.1 Try.size5
  obtain ⟨A1, hcut, hA1⟩ := print_cut (P := Try.prog) 33 5 .i64 Try.underlying33 hi0 hsz (some ⟨gb, 0, none⟩) n c d (by omega)
  have hto := cut_to (P := Try.prog) 33 5 .i64 Try.underlying33 hi0 (some ⟨gb, 0, none⟩) n c ((n - d : Nat) : Int) (by omega) (by omega) hnc
  rw [Int.toNat_natCast] at hto
  have HL := Lib.hid hxl
  clear hxl
  have HM := Lib.hid hyl
  clear hyl
  obtain ⟨k0, k1, k2, k3, k4, kf⟩ := HS.cells
  go_enter Try.func12, Try.ntmps12
  go_wp2
  go_quiet ((go_at_call 16; exact Calls.quiet_of (HT _)))
  go_wp2_with (fail)
  have HK1 : Kp w (w.drewN nq) (fun k => k = g ∨ (Value.slice (some ⟨gb, 0, none⟩) n c).ownBlock = some k) := (Kp.refl _ _).drewN nq
  have HS1 : SrcB (w.drewN nq) g (.slice (some ⟨gb, 0, none⟩) n c) pos (↑d + 16) gone limit := HS
  have HO1 : (w.drewN nq).ownsRow B 5 1 (.slice (some ⟨gb, 0, none⟩) n c) n (nums .u8 xs) := HO
  have HRo : ReadsInt (w.drewN nq) .u8 A1 (n - d) (xs.drop d) := by
    obtain ⟨A0, c0, he, hr⟩ := own_reads HO
    injection he with he1 _ he3
    subst he1
    exact hA1 _ _ _ hnc hr
  have hB1 : B ≤ (w.drewN nq).heap.size := hB
  clear HT HS HO k0 k1 k2 k3 k4 kf hA1
  generalize w.drewN nq = W1 at *
  obtain ⟨k0, k1, k2, k3, k4, kf⟩ := HS1.cells
  go_region_law (refine step_copy_read rfl (.tmp 37) (.tmp 43) 33 33 5 .u8 rfl Try.underlying33 Try.size5 B gb c n xs (xs.drop d) A1 (n - d) (c - d) (n - d) (by omega) (by simp [Act.eval, Act.put]) (by simp [Act.eval, Act.put]) HO1 HRo ?_; intro w3 h3 g3)
  all_goals
    have HS3 : SrcB w3 g (.slice (some ⟨gb, 0, none⟩) n c) pos (↑d + 16) gone limit := (g3.block g (blk_lt HS1) (fun e => by injection e with e; exact hgne e.symm)).trans HS1
    have HO4 := own_take h3 (Nat.sub_le n d)
    rw [show (nums .u8 ((xs.drop d).take (n - d) ++ xs.drop (n - d))).take ((n - d) * 1) = nums .u8 (xs.drop d) from by rw [Nat.mul_one, nums, ← List.map_take, shift_row xs d n HL.out (by omega)]; rfl] at HO4
    have HK3 := HK1.drew.grown (row := some gb) g3 (fun k hk => .inl (.inr hk))
    clear h3 g3 k0 k1 k2 k3 k4 kf HS1 HO1 HRo HK1
    obtain ⟨k0, k1, k2, k3, k4, kf⟩ := HS3.cells
  all_goals
    have HO5 := HS3.keep HO4 0 (.slice (some ⟨gb, 0, none⟩) (n - d) c)
    have HS5 := HS3.set0 (.slice (some ⟨gb, 0, none⟩) (n - d) c)
    have HK5 := HK3.set_ (p := ⟨g, 0, none⟩) (.inl (.inl rfl)) (.slice (some ⟨gb, 0, none⟩) (n - d) c)
    have HO6 := HS5.keep HO5 1 (.int .i64 (pos - (d : Int)))
    have HS6 := HS5.set1 (pos - (d : Int))
    have HK6 := HK5.set_ (p := ⟨g, 1, none⟩) (.inl (.inl rfl)) (.int .i64 (pos - (d : Int)))
    clear HO5 HS5 HK5 HO4 HK3
    have HO7 := HS6.keep HO6 2 (.int .i64 ((d : Int) + 16 - (d : Int)))
    have HS7 := HS6.set2 ((d : Int) + 16 - (d : Int))
    have HK7 := HK6.set_ (p := ⟨g, 2, none⟩) (.inl (.inl rfl)) (.int .i64 ((d : Int) + 16 - (d : Int)))
    clear HO6 HS6 HK6
    have HO8 := HS7.keep HO7 3 (.int .i64 (gone + (d : Int)))
    have HS8 := HS7.set3 (gone + (d : Int))
    have HK8 := HK7.set_ (p := ⟨g, 3, none⟩) (.inl (.inl rfl)) (.int .i64 (gone + (d : Int)))
    clear HO7 HS7 HK7
    have HR8 := HK8.reads HR (fun ad e j hj hs => by
      rw [add_block] at hs
      obtain ⟨q1, q2⟩ := hap ad e (by omega)
      rcases hs with hs | hs
      · exact q2 hs
      · exact q1 hs.symm)
    have hB8 := Nat.le_trans hB HK8.size
    have HN := HS8.ne HO8
    have HLd : Hid ((xs.drop d).length = n - d) := Lib.hid (by rw [List.length_drop, HL.out])
    have HLM : Hid ((xs.drop d ++ ys).length = n - d + m) := Lib.hid (by rw [List.length_append, HLd.out, HM.out])
    have hl8 : ((xs.drop d).length + m) * 1 ≤ 140737488355328 := by rw [HLd.out]; omega
    have F1 := Lib.hid (own_len HLd.out HO8)
    have F2 := Lib.hid HS8
    have F3 := Lib.hid HK8
    have F4 := Lib.hid HR8
    have F5 := Lib.hid hB8
    have F6 := Lib.hid hl8
    have F7 := Lib.hid HN
    clear HO8 HS8 HK8 HR8 hB8 hl8 HN HS3 hap hcut e1 HR
    go_wp2_with (at_builtin; refine print_append_row B rfl (.tmp 82) (.tmp 83) 33 5 .u8 1 rfl Try.underlying33 Try.info5 (by omega) (.slice (some ⟨gb, 0, none⟩) (n - d) c) (xs.drop d) ys Ab m cb rfl rfl F1.out F4.out (Below.refl _ _) F5.out F6.out ?_; intro v1 w9 hO9 hB9 hg9 hat9; rw [HLM.out] at hO9; have HS9 : SrcB w9 g (.slice (some ⟨gb, 0, none⟩) (n - d) c) (pos - (d : Int)) ((d : Int) + 16 - (d : Int)) (gone + (d : Int)) limit := (hg9.block g (blk_lt F2.out) F7.out).trans F2.out; obtain ⟨A', c', rfl⟩ := own_slice hO9; have HK9 := Lib.hid (F3.out.grown hg9 (fun k hk => .inl (.inr hk))); have HA9 : Hid ((Value.slice A' (n - d + m) c').ownBlock = (Value.slice (some ⟨gb, 0, none⟩) n c).ownBlock ∨ ∃ b, (Value.slice A' (n - d + m) c').ownBlock = some b ∧ w.heap.size ≤ b) := Lib.hid (hat9.imp (fun h => h) (fun ⟨b, hb, hle⟩ => ⟨b, hb, Nat.le_trans F3.out.size hle⟩)); clear hg9 hat9 hB9 F1 F2 F3 F4 F5 F6 F7 k0 k1 k2 k3 k4 kf; obtain ⟨k0, k1, k2, k3, k4, kf⟩ := HS9.cells)
    go_ret
    exact ⟨A', c', rfl, HS9.set0 _, HS9.keep hO9 0 _, HK9.out.set_ (p := ⟨g, 0, none⟩) (.inl (.inl rfl)) _, HA9.out⟩
end Go.Proofs.Yticcfpbeejakhaa
