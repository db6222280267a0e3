/- The laws UtfChars and UtfJoins, walked. -/
import Derived.Test.YtimfabbielphbaaDoorWk
import Derived.Test.YtimfabbielphbaaDoorPg
namespace Go.Proofs.YtimfabbielphbaaDoor
open Go.RowKit Go.Lib Go.Proofs.YtimfabbielphbaaDoorW.PrintWords Go.Proofs.YtimfabbielphbaaDoorW.PrintMore
set_option linter.unusedVariables false
set_option linter.unusedSimpArgs false

theorem wf_bounds {r : Int} (h : (Lit.int .i64 r).wf = true) : -9223372036854775808 ≤ r ∧ r ≤ 9223372036854775807 := by
  simpa [Lit.wf, IntKind.min, IntKind.max, IntKind.signed, IntKind.bits] using h
/-- What Encode answers, as two values. -/
def encV (r : Int) : ByteArray × Nat := if Pl.isCh r then (Utf8.encode r, 0) else (⟨#[]⟩, 1)
theorem enc_is (r : Int) (w : World) (hr : -9223372036854775808 ≤ r ∧ r ≤ 9223372036854775807) (E : ByteArray) (x : Nat) (h : encV r = (E, x)) :
    Calls Tryd.prog 14 #[.int .i64 r] w fun e w' => e = .returned (.tuple #[.string E, .int .i64 x]) ∧ w = w' := by
  refine (encode_is r w hr).mono fun e w' h' => ⟨h'.1.trans ?_, h'.2⟩
  unfold encV at h
  by_cases c : Pl.isCh r = true
  · rw [if_pos c] at h ⊢; injection h with h1 h2; subst h1; subst h2; rfl
  · rw [if_neg c] at h ⊢; injection h with h1 h2; subst h1; subst h2; rfl
theorem renc_is (r : Int) (w : World) (E : ByteArray) (x : Nat) (h : encV r = (E, x)) :
    Calls Tryd.prog 15 #[.int .i64 r] w fun e w' => e = .returned (.tuple #[.string E, .int .i64 x]) ∧ Below w.heap.size w w' := by
  refine (refEncode_any r w).mono fun e w' h' => ⟨h'.1.trans ?_, h'.2⟩
  unfold encV at h
  by_cases c : Pl.isCh r = true
  · rw [if_pos c] at h ⊢; injection h with h1 h2; subst h1; subst h2; rfl
  · rw [if_neg c] at h ⊢; injection h with h1 h2; subst h1; subst h2; rfl
theorem dec_is (s : ByteArray) (p : Int) (w : World) (hT : Lib.Utf8Tabs 0 1 w) (hs : s.size ≤ 9223372036854775806) (a b c : Nat) (h : dcL s.data.toList p = (a, b, c)) :
    Calls Tryd.prog 16 #[.string s, .int .i64 p] w fun e w' => e = .returned (.tuple #[.int .i64 a, .int .i64 b, .int .i64 c]) ∧ Below w.heap.size w w' := by
  have := decode_any s p w hT hs
  rw [h] at this; exact this
theorem rdec_is (s : ByteArray) (p : Int) (w : World) (a b c : Nat) (h : dcL s.data.toList p = (a, b, c)) :
    Calls Tryd.prog 17 #[.string s, .int .i64 p] w fun e w' => e = .returned (.tuple #[.int .i64 a, .int .i64 b, .int .i64 c]) ∧ Below w.heap.size w w' := by
  have := refDecode s p w
  rw [h] at this; exact this

set_option maxHeartbeats 4000000 in
set_option maxRecDepth 1000000 in
theorem chars_walk (w : World) (hT : Lib.Utf8Tabs 0 1 w) (r : Int) (hr : (Lit.int .i64 r).wf = true) (s : ByteArray) (hs : s.size ≤ 140737488351232) (p : Int) (hp : (Lit.int .i64 p).wf = true) :
    Calls Tryd.prog 4 #[.int .i64 r, .string s, .int .i64 p] w fun e w' => e = .returned (.bool true) ∧ Below w.heap.size w w' := by
  replace hT := Aside0.mk hT
  have hrb := wf_bounds hr
  have hpb := wf_bounds hp
  clear hr hp
  by_cases hlong : (s.size : Int) > 16384
  · go_enter Tryd.func4, Tryd.ntmps4
    go_wp2
    go_ret
    exact ⟨rfl, Below.refl _ _⟩
  obtain ⟨E, x, hE⟩ : ∃ E x, encV r = (E, x) := ⟨_, _, rfl⟩
  obtain ⟨a, b, c, hD⟩ : ∃ a b c, dcL s.data.toList p = (a, b, c) := ⟨_, _, _, rfl⟩
  replace hE := Aside0.mk hE
  replace hD := Aside0.mk hD
  go_enter Tryd.func4, Tryd.ntmps4
  go_wp2_with fail
  refine (enc_is _ _ hrb E x hE.out).mono ?_
  rintro e w1 ⟨rfl, rfl⟩
  go_wp2_with fail
  refine (renc_is _ _ E x hE.out).mono ?_
  rintro e w1 ⟨rfl, B1⟩
  have hT1 := Aside0.mk (Utf8Tabs_below hT.out B1)
  go_wp2_with fail
  refine (dec_is _ _ _ hT1.out (by omega) a b c hD.out).mono ?_
  rintro e w2 ⟨rfl, B2⟩
  have hT2 := Aside0.mk (Utf8Tabs_below hT1.out B2)
  replace B2 := below_then B1 B1.size B2
  clear B1 hT1
  go_wp2_with fail
  refine (rdec_is _ _ _ a b c hD.out).mono ?_
  rintro e w3 ⟨rfl, B3⟩
  have hT3 := Aside0.mk (Utf8Tabs_below hT2.out B3)
  replace B3 := below_then B2 B2.size B3
  clear B2 hT2
  go_wp2_with fail
  refine (aw _ hT3.out).mono ?_
  rintro e w4 ⟨rfl, B4⟩
  replace B4 := below_then B3 B3.size B4
  clear B3 hT3
  go_wp2
  go_ret
  exact ⟨rfl, B4⟩

theorem app_list (s t : ByteArray) : (s ++ t).data.toList = s.data.toList ++ t.data.toList := by simp [ByteArray.data_append]

set_option maxHeartbeats 4000000 in
set_option maxRecDepth 1000000 in
theorem joins_walk (w : World) (hT : Lib.Utf8Tabs 0 1 w) (s : ByteArray) (hs : s.size ≤ 140737488351232) (t : ByteArray) (ht : t.size ≤ 140737488351232) :
    Calls Tryd.prog 9 #[.string s, .string t] w fun e w' => e = .returned (.bool true) ∧ Below w.heap.size w w' := by
  replace hT := Aside0.mk hT
  by_cases hlong : (s.size : Int) > 16384
  · go_enter Tryd.func9, Tryd.ntmps9
    go_wp2
    go_ret
    exact ⟨rfl, Below.refl _ _⟩
  by_cases hlong2 : (t.size : Int) > 16384
  · go_enter Tryd.func9, Tryd.ntmps9
    go_wp2
    go_ret
    exact ⟨rfl, Below.refl _ _⟩
  obtain ⟨k, x, hc⟩ : ∃ k x, Pl.cnt s.data.toList = (k, x) := ⟨_, _, rfl⟩
  obtain ⟨m, y, hd⟩ : ∃ m y, Pl.cnt t.data.toList = (m, y) := ⟨_, _, rfl⟩
  obtain ⟨n, z, he⟩ : ∃ n z, Pl.cnt (s ++ t).data.toList = (n, z) := ⟨_, _, rfl⟩
  have hk : k ≤ 16384 := by
    have := cnt_le _ s.data.toList (Nat.le_refl _); rw [hc, Array.length_toList] at this
    have h2 : s.data.size = s.size := rfl
    simp only at this; omega
  have hm : m ≤ 16384 := by
    have := cnt_le _ t.data.toList (Nat.le_refl _); rw [hd, Array.length_toList] at this
    have h2 : t.data.size = t.size := rfl
    simp only at this; omega
  have hst : (s ++ t).size = s.size + t.size := ByteArray.size_append
  have hst' : (s ++ t).size ≤ 9223372036854775806 := by omega
  have hj0 := Pl.cnt_join' s.data.toList t.data.toList
  have hj1 := Pl.cnt_wrong' s.data.toList t.data.toList
  have hj2 := Pl.cnt_half' s.data.toList t.data.toList
  have hcc := Pl.cnt_cases _ s.data.toList (Nat.le_refl _)
  rw [← app_list, hc, hd, he] at hj0
  rw [← app_list, hc, he] at hj1
  rw [← app_list, hc, hd, he] at hj2
  rw [hc] at hcc
  simp only at hj0 hj1 hj2 hcc
  replace hc := Aside0.mk hc
  replace hd := Aside0.mk hd
  replace he := Aside0.mk he
  clear hst
  have fin : ∀ X Y Z : Nat, (if x = 0 then 0 else 30) = X → (if y = 0 then 0 else 30) = Y → (if z = 0 then 0 else 30) = Z →
      (X = 0 ∧ Y = 0 ∧ Z = 0 ∧ n = k + m) ∨ (X = 0 ∧ Y = 30 ∧ Z = 30) ∨ (X = 30 ∧ Y = 0 ∧ Z = 30) ∨ (X = 30 ∧ Y = 30 ∧ Z = 30) ∨ (X = 30 ∧ Y = 30 ∧ Z = 0) := by
    rintro X Y Z rfl rfl rfl
    by_cases cx : x = 0
    · have h0 := hj0 cx
      by_cases cy : y = 0
      · rw [if_pos cy] at h0
        injection h0 with h0 h1
        left; exact ⟨if_pos cx, if_pos cy, if_pos h1, h0⟩
      · rw [if_neg cy] at h0
        injection h0 with h0 h1
        right; left; exact ⟨if_pos cx, if_neg cy, if_neg (by omega)⟩
    · by_cases cy : y = 0
      · have cz : z ≠ 0 := by
          rcases hcc with h | h | h
          · exact absurd h cx
          · have := hj1 h; omega
          · exact hj2 h cy
        right; right; left; exact ⟨if_neg cx, if_pos cy, if_neg cz⟩
      · by_cases cz : z = 0
        · right; right; right; right; exact ⟨if_neg cx, if_neg cy, if_pos cz⟩
        · right; right; right; left; exact ⟨if_neg cx, if_neg cy, if_neg cz⟩
  obtain ⟨X, hX⟩ : ∃ X : Nat, (if x = 0 then 0 else 30) = X := ⟨_, rfl⟩
  obtain ⟨Y, hY⟩ : ∃ Y : Nat, (if y = 0 then 0 else 30) = Y := ⟨_, rfl⟩
  obtain ⟨Z, hZ⟩ : ∃ Z : Nat, (if z = 0 then 0 else 30) = Z := ⟨_, rfl⟩
  have F := fin X Y Z hX hY hZ
  clear fin hj0 hj1 hj2 hcc
  replace hX := Aside0.mk hX
  replace hY := Aside0.mk hY
  replace hZ := Aside0.mk hZ
  rcases F with ⟨rfl, rfl, rfl, rfl⟩ | ⟨rfl, rfl, rfl⟩ | ⟨rfl, rfl, rfl⟩ | ⟨rfl, rfl, rfl⟩ | ⟨rfl, rfl, rfl⟩
  all_goals
    go_enter Tryd.func9, Tryd.ntmps9
    go_wp2_with fail
    refine (count_is s _ hT.out (by omega) _ _ _ hc.out hX.out).mono ?_
    rintro e w1 ⟨rfl, B1⟩
    have hT1 := Aside0.mk (Utf8Tabs_below hT.out B1)
    go_wp2_with fail
    refine (count_is t _ hT1.out (by omega) _ _ _ hd.out hY.out).mono ?_
    rintro e w2 ⟨rfl, B2⟩
    have hT2 := Aside0.mk (Utf8Tabs_below hT1.out B2)
    replace B2 := below_then B1 B1.size B2
    clear B1 hT1
    go_wp2_with fail
    refine (count_is (s ++ t) _ hT2.out hst' _ _ _ he.out hZ.out).mono ?_
    rintro e w3 ⟨rfl, B3⟩
    have hT3 := Aside0.mk (Utf8Tabs_below hT2.out B3)
    replace B3 := below_then B2 B2.size B3
    clear B2 hT2
    go_wp2_with fail
    refine (aw _ hT3.out).mono ?_
    rintro e w4 ⟨rfl, B4⟩
    have hT4 := Aside0.mk (Utf8Tabs_below hT3.out B4)
    replace B4 := below_then B3 B3.size B4
    clear B3 hT3
    go_wp2_with fail
    first
    | (go_ret; exact ⟨rfl, B4⟩)
    | (refine (aw _ hT4.out).mono ?_
       rintro e w5 ⟨rfl, B5⟩
       replace B5 := below_then B4 B4.size B5
       go_wp2
       go_ret
       exact ⟨rfl, B5⟩)
end Go.Proofs.YtimfabbielphbaaDoor
