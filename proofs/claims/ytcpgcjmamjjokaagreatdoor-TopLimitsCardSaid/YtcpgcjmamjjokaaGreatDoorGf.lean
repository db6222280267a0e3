/- json's reader: list, of one element and of two. json's reader: a member of an object. json's reader: an object that stands for bytes, or for a tag; values at a bracket. -/
import Derived.Test.YtcpgcjmamjjokaaGreatDoorGe
namespace Go.Proofs.YtcpgcjmamjjokaaGreatDoor
open Go.RowKit Go.Maps Go.Proofs.YtcpgcjmamjjokaaGreatDoorW.PrintWords Go.Proofs.YtcpgcjmamjjokaaGreatDoorW.PrintMore Go.Proofs.YtcpgcjmamjjokaaGreatDoor.PTopLimits
set_option linter.unusedVariables false
set_option linter.unusedSimpArgs false
/-- The first byte is no blank. -/
def NBl : List UInt8 → Bool
  | [] => true
  | c :: _ => !([32, 9, 10, 13] : List UInt8).contains c
theorem NBl.trim {l : List UInt8} (h : NBl l = true) : Lib.trimLeftS l [32, 9, 10, 13] = l := by
  cases l with
  | nil => rfl
  | cons c l =>
    have : ([32, 9, 10, 13] : List UInt8).contains c = false := by simpa [NBl] using h
    simp only [Lib.trimLeftS, List.dropWhile, this]
theorem jb (R : Nat) (l : List UInt8) (w : World) (h : JR R l w) (hl : NBl l = true) :
    Calls Tryz.prog 182 #[.pointer (some ⟨R, 0, none⟩)] w fun e w' => e = .returned (.tuple #[]) ∧ JR R l w' ∧ Kp w w' (· = R) := jblanks R l w h (NBl.trim hl)
set_option maxHeartbeats 6400000 in
set_option maxRecDepth 100000 in
theorem jlist1 (R F : Nat) (caps : Array Value) (hcf : ∀ (w : World), (callFunc F caps).run Tryz.prog w = .ok (.enter F caps) w) (c d : UInt8) (t l2 : List UInt8) (hd : c ≠ d) (h1 : NBl (d :: t) = true) (h2 : NBl (c :: l2) = true) (P1 : World → Prop) (w : World) (h : JR R (d :: t) w)
    (hr1 : ∀ W, JR R (d :: t) W → Kp w W (· = R) → Calls Tryz.prog F caps W fun e W' => e = .returned (.tuple #[]) ∧ JR R (c :: l2) W' ∧ P1 W') :
    Calls Tryz.prog 223 #[.pointer (some ⟨R, 0, none⟩), .string ⟨[c].toArray⟩, .func (.func F) #[] caps] w fun e w' => e = .returned (.tuple #[]) ∧ JR R l2 w' ∧ ∃ W, P1 W ∧ Kp W w' (· = R) := by
  have hB := Lib.hid (fun l w h hl => jb R l w h hl)
  have hN := Lib.hid (fun c l a p hne w h => jcomes_no R c l a p hne w h)
  have hY := Lib.hid (fun c l w h => jcomes_yes R c l w h)
  have hI := Lib.hid jis_ok
  replace hr1 := Lib.hid hr1
  replace h := Lib.hid h
  go_enter Tryz.func223, Tryz.ntmps223
  go_wp2_with fail
  refine wp_loop_rounds 2 ?_
  rw [rounds_succ]
  go_wp2_with fail
  refine (hB.out _ _ h.out h1).mono ?_
  rintro e w1 ⟨rfl, j1, K1⟩
  replace K1 := Lib.hid K1
  replace j1 := Lib.hid j1
  go_wp2_with fail
  refine (hN.out d t c [] hd _ j1.out).mono ?_
  rintro e w2 ⟨rfl, j2, K2⟩
  replace K2 := Lib.hid (K1.out.trans K2 (fun _ hi => .inl hi))
  replace j2 := Lib.hid j2
  clear j1 K1
  go_wp2_with fail
  refine (hr1.out _ j2.out K2.out).mono ?_
  rintro e w3 ⟨rfl, j3, p3⟩
  replace p3 := Lib.hid p3
  replace j3 := Lib.hid j3
  clear j2 K2
  go_wp2_with fail
  rw [rounds_succ]
  go_wp2_with fail
  refine (hB.out _ _ j3.out h2).mono ?_
  rintro e w4 ⟨rfl, j4, K4⟩
  replace K4 := Lib.hid K4
  replace j4 := Lib.hid j4
  clear j3
  go_wp2_with fail
  refine (hY.out c l2 _ j4.out).mono ?_
  rintro e w5 ⟨rfl, j5, K5⟩
  replace K5 := Lib.hid (K4.out.trans K5 (fun _ hi => .inl hi))
  replace j5 := Lib.hid j5
  clear j4 K4
  go_wp2_with fail
  refine bodyPost_ret (results_none rfl _ _ _) rfl ?_
  exact ⟨rfl, j5.out, w3, p3.out, K5.out⟩
set_option maxHeartbeats 6400000 in
set_option maxRecDepth 100000 in
theorem jlist2 (R F : Nat) (caps : Array Value) (hcf : ∀ (w : World), (callFunc F caps).run Tryz.prog w = .ok (.enter F caps) w) (c d d2 : UInt8) (t t2 l3 : List UInt8) (hd : c ≠ d) (hd2 : c ≠ 44) (h1 : NBl (d :: t) = true) (h2 : NBl (d2 :: t2) = true) (h3 : NBl (c :: l3) = true) (P1 P2 : World → Prop) (w : World) (h : JR R (d :: t) w)
    (hr1 : ∀ W, JR R (d :: t) W → Kp w W (· = R) → Calls Tryz.prog F caps W fun e W' => e = .returned (.tuple #[]) ∧ JR R (44 :: d2 :: t2) W' ∧ P1 W')
    (hr2 : ∀ W W0, JR R (d2 :: t2) W → P1 W0 → Kp W0 W (· = R) → Calls Tryz.prog F caps W fun e W' => e = .returned (.tuple #[]) ∧ JR R (c :: l3) W' ∧ P2 W') :
    Calls Tryz.prog 223 #[.pointer (some ⟨R, 0, none⟩), .string ⟨[c].toArray⟩, .func (.func F) #[] caps] w fun e w' => e = .returned (.tuple #[]) ∧ JR R l3 w' ∧ ∃ W, P2 W ∧ Kp W w' (· = R) := by
  have hB := Lib.hid (fun l w h hl => jb R l w h hl)
  have hN := Lib.hid (fun c l a p hne w h => jcomes_no R c l a p hne w h)
  have hY := Lib.hid (fun c l w h => jcomes_yes R c l w h)
  have hI := Lib.hid jis_ok
  replace hr1 := Lib.hid hr1
  replace h := Lib.hid h
  replace hr2 := Lib.hid hr2
  go_enter Tryz.func223, Tryz.ntmps223
  go_wp2_with fail
  refine wp_loop_rounds 3 ?_
  rw [rounds_succ]
  go_wp2_with fail
  refine (hB.out _ _ h.out h1).mono ?_
  rintro e w1 ⟨rfl, j1, K1⟩
  replace K1 := Lib.hid K1
  replace j1 := Lib.hid j1
  go_wp2_with fail
  refine (hN.out d t c [] hd _ j1.out).mono ?_
  rintro e w2 ⟨rfl, j2, K2⟩
  replace K2 := Lib.hid (K1.out.trans K2 (fun _ hi => .inl hi))
  replace j2 := Lib.hid j2
  clear j1 K1
  go_wp2_with fail
  refine (hr1.out _ j2.out K2.out).mono ?_
  rintro e w3 ⟨rfl, j3, p3⟩
  replace p3 := Lib.hid p3
  replace j3 := Lib.hid j3
  clear j2 K2
  go_wp2_with fail
  rw [rounds_succ]
  go_wp2_with fail
  refine (hB.out _ _ j3.out rfl).mono ?_
  rintro e w4 ⟨rfl, j4, K4⟩
  replace K4 := Lib.hid K4
  replace j4 := Lib.hid j4
  clear j3
  go_wp2_with fail
  refine (hN.out 44 _ c [] hd2 _ j4.out).mono ?_
  rintro e w5 ⟨rfl, j5, K5⟩
  replace K5 := Lib.hid (K4.out.trans K5 (fun _ hi => .inl hi))
  replace j5 := Lib.hid j5
  clear j4 K4
  go_wp2_with fail
  refine (hY.out 44 _ _ j5.out).mono ?_
  rintro e w6 ⟨rfl, j6, K6⟩
  replace K6 := Lib.hid (K5.out.trans K6 (fun _ hi => .inl hi))
  replace j6 := Lib.hid j6
  clear j5 K5
  go_wp2_with fail
  refine (hI.out _).mono ?_
  rintro e w7 ⟨rfl, rfl⟩
  go_wp2_with fail
  refine (hB.out _ _ j6.out h2).mono ?_
  rintro e w8 ⟨rfl, j8, K8⟩
  replace K8 := Lib.hid (K6.out.trans K8 (fun _ hi => .inl hi))
  replace j8 := Lib.hid j8
  clear j6 K6
  go_wp2_with fail
  refine (hr2.out _ w3 j8.out p3.out K8.out).mono ?_
  rintro e w9 ⟨rfl, j9, p9⟩
  replace p9 := Lib.hid p9
  replace j9 := Lib.hid j9
  clear j8 K8
  go_wp2_with fail
  rw [rounds_succ]
  go_wp2_with fail
  refine (hB.out _ _ j9.out h3).mono ?_
  rintro e wA ⟨rfl, jA, KA⟩
  replace KA := Lib.hid KA
  replace jA := Lib.hid jA
  clear j9
  go_wp2_with fail
  refine (hY.out c l3 _ jA.out).mono ?_
  rintro e wB ⟨rfl, jB, KB⟩
  replace KB := Lib.hid (KA.out.trans KB (fun _ hi => .inl hi))
  replace jB := Lib.hid jB
  clear jA KA
  go_wp2_with fail
  refine bodyPost_ret (results_none rfl _ _ _) rfl ?_
  exact ⟨rfl, jB.out, w9, p9.out, KB.out⟩
end Go.Proofs.YtcpgcjmamjjokaaGreatDoor
namespace Go.Proofs.YtcpgcjmamjjokaaGreatDoor
open Go.RowKit Go.Maps Go.Proofs.YtcpgcjmamjjokaaGreatDoorW.PrintWords Go.Proofs.YtcpgcjmamjjokaaGreatDoorW.PrintLast Go.Proofs.YtcpgcjmamjjokaaGreatDoorW.PrintMore Go.Proofs.YtcpgcjmamjjokaaGreatDoor.PTopLimits
set_option linter.unusedVariables false
set_option linter.unusedSimpArgs false
theorem jis_eq (w : World) : Calls Tryz.prog 184 #[.bool true] w fun e w' => e = .returned (.tuple #[]) ∧ w = w' := (jis_ok w).mono (fun e w' h => ⟨h.1, h.2.symm⟩)
theorem info9 : (Tryz.prog.info? 9).map (fun i => (i.zero, i.size, i.bytes)) = some (some (.string ⟨#[]⟩), 1, 16) := by kernel_rfl
/-- Behind a member of an object. -/
def Member (R V A : Nat) (s l' : List UInt8) (v0 v1 v2 v3 v4 v5 v6 : Value) (us : List Value) (Q : World → Prop) (w w' : World) : Prop :=
  ∃ nv b g cap, w'.heap[V]? = some (.cells #[v0, v1, v2, v3, v4, v5, v6, nv, .slice (some ⟨g, 0, none⟩) 1 cap] 36 (0, 0)) ∧ w'.ownsRow b 36 9 (.slice (some ⟨g, 0, none⟩) 1 cap) 1 us ∧ w'.heap[A]? = some (.cells #[.string ⟨s.toArray⟩] 9 (0, 0)) ∧ Q w' ∧ Kp w w' (fun k => k = R ∨ V ≤ k) ∧ w.heap.size ≤ g
set_option maxHeartbeats 6400000 in
set_option maxRecDepth 100000 in
theorem jmember (R C V A M mb : Nat) (s l l' : List UInt8) (v0 v1 v2 v3 v4 v5 v6 : Value) {Z : Type} (u0 u1 u2 u3 u4 u5 u6 u7 u8 : Z → Value) (hone : ∀ z, #[u0 z, u1 z, u2 z, u3 z, u4 z, u5 z, u6 z, u7 z, u8 z].all (·.oneCell') = true) (Q : Z → World → Prop) (w0 : World)
    (hs : Plain s) (hv : Lib.validD s = true) (hlen : s.length ≤ 1000) (hdol : Lib.hasPrefix s [36, 36] = false) (hl : NBl l = true)
    (hC : w0.heap[C]? = some (.cells #[.pointer (some ⟨R, 0, none⟩)] 255 (0, 0))) (hV : w0.heap[V]? = some (.cells #[v0, v1, v2, v3, v4, v5, v6, .slice none 0 0, .slice none 0 0] 36 (0, 0)))
    (hA : w0.heap[A]? = some (.cells #[.string ⟨#[]⟩] 9 (0, 0))) (hM : w0.heap[M]? = some (.cells #[.map (some mb)] 176 (0, 0))) (hS : SetAt w0 mb 0 [])
    (hj : JR R (34 :: s ++ 34 :: 58 :: l) w0) (hT : Lib.Utf8Tabs 0 1 w0) (hR : 2 ≤ R) (hRC : R < C) (hCV : C < V) (hVb : V < mb) (hbM : mb < M) (hMA : M < A)
    (hval : ∀ W, JR R l W → Kp w0 W (fun k => k = R ∨ V ≤ k) → Val R l' (fun z => [u0 z, u1 z, u2 z, u3 z, u4 z, u5 z, u6 z, u7 z, u8 z]) Q W) (hQ : ∀ z W W', Q z W → Kp W W' (fun k => k = V) → Q z W') :
    Calls Tryz.prog 268 #[.pointer (some ⟨C, 0, none⟩), .pointer (some ⟨V, 0, none⟩), .pointer (some ⟨A, 0, none⟩), .pointer (some ⟨M, 0, none⟩)] w0 fun e w' => e = .returned (.tuple #[]) ∧ JR R l' w' ∧ ∃ z, Member R V A s l' v0 v1 v2 v3 v4 v5 v6 [u0 z, u1 z, u2 z, u3 z, u4 z, u5 z, u6 z, u7 z, u8 z] (Q z) w0 w' := by
  have hXt := Lib.hid (fun w h hT => jtext R s (58 :: l) hs hv hlen w h hT hR)
  have hP := Lib.hid (fun w => Tryz.strings_HasPrefix ⟨s.toArray⟩ ⟨#[36, 36]⟩ w)
  have hB := Lib.hid (fun l w h hl => jb R l w h hl)
  have hY := Lib.hid (fun c l w h => jcomes_yes R c l w h)
  have hI := Lib.hid jis_eq
  have hpf : Lib.hasPrefix (⟨s.toArray⟩ : ByteArray).data.toList (⟨#[36, 36]⟩ : ByteArray).data.toList = false := by simpa using hdol
  have hsz : (⟨s.toArray⟩ : ByteArray).size ≤ maxLen := by show s.toArray.size ≤ maxLen; simp; unfold maxLen; omega
  obtain ⟨i0, hi, hz0, hz1, hz2⟩ := info_parts info9
  have K0 := Lib.hid (Kp.refl w0 (fun k => k = R ∨ V ≤ k))
  have bC0 := Lib.hid hC
  have bV0 := Lib.hid hV
  have bA0 := Lib.hid hA
  have bM0 := Lib.hid hM
  have bS0 := Lib.hid hS
  replace hT := Lib.hid hT
  replace hval := Lib.hid hval
  replace hj := Lib.hid hj
  replace hQ := Lib.hid hQ
  replace hone := Lib.hid hone
  clear hC hV hA hM hS
  obtain ⟨cc0, cf0⟩ := blk1 bC0.out
  obtain ⟨vc0_0, vc1_0, vc2_0, vc3_0, vc4_0, vc5_0, vc6_0, vc7_0, vc8_0, vf0_0, vf1_0, vf2_0, vf3_0, vf4_0, vf5_0, vf6_0, vf7_0, vf8_0⟩ := blk9 bV0.out
  obtain ⟨ac0, af0⟩ := blk1 bA0.out
  obtain ⟨mc0, mf0⟩ := blk1 bM0.out
  have lC0 := blk_lt bC0.out
  have lV0 := blk_lt bV0.out
  have lA0 := blk_lt bA0.out
  have lM0 := blk_lt bM0.out
  go_enter Tryz.func268, Tryz.ntmps268
  go_wp2_with fail
  refine (hXt.out _ hj.out hT.out).mono ?_
  rintro e w1 ⟨rfl, j1, q⟩
  replace j1 := Lib.hid j1
  have K1 := Lib.hid (K0.out.trans q (fun _ hi => .inl (.inl hi)))
  have bC1 := Lib.hid (q.heap bC0.out (by omega))
  have bV1 := Lib.hid (q.heap bV0.out (by omega))
  have bA1 := Lib.hid (q.heap bA0.out (by omega))
  have bM1 := Lib.hid (q.heap bM0.out (by omega))
  have bS1 := Lib.hid (bS0.out.heap (q.block _ bS0.out.lt (by omega)))
  clear q K0
  clear cc0 cf0 vc0_0 vc1_0 vc2_0 vc3_0 vc4_0 vc5_0 vc6_0 vc7_0 vc8_0 vf0_0 vf1_0 vf2_0 vf3_0 vf4_0 vf5_0 vf6_0 vf7_0 vf8_0 ac0 af0 mc0 mf0 lC0 lV0 lA0 lM0
  clear bC0 bV0 bA0 bM0 bS0
  obtain ⟨cc1, cf1⟩ := blk1 bC1.out
  obtain ⟨vc0_1, vc1_1, vc2_1, vc3_1, vc4_1, vc5_1, vc6_1, vc7_1, vc8_1, vf0_1, vf1_1, vf2_1, vf3_1, vf4_1, vf5_1, vf6_1, vf7_1, vf8_1⟩ := blk9 bV1.out
  obtain ⟨ac1, af1⟩ := blk1 bA1.out
  obtain ⟨mc1, mf1⟩ := blk1 bM1.out
  have lC1 := blk_lt bC1.out
  have lV1 := blk_lt bV1.out
  have lA1 := blk_lt bA1.out
  have lM1 := blk_lt bM1.out
  go_wp2_with fail
  refine (hP.out _).mono ?_
  rintro e w2 ⟨rfl, rfl⟩
  rw [hpf]
  clear hpf
  generalize hw2 : World.setCell w1 _ _ = w2
  have q : Kp w1 w2 (· = A) := by rw [← hw2]; exact kp_one w1 A 0 _
  have bA2 := Lib.hid (show w2.heap[A]? = some (.cells #[.string ⟨s.toArray⟩] 9 (0, 0)) by rw [← hw2]; exact blk_put bA1.out 0 _ rfl)
  have bC2 := Lib.hid (q.heap bC1.out (by omega))
  have bV2 := Lib.hid (q.heap bV1.out (by omega))
  have bM2 := Lib.hid (q.heap bM1.out (by omega))
  have bS2 := Lib.hid (bS1.out.heap (q.block _ bS1.out.lt (by omega)))
  have j2 := Lib.hid (j1.out.kp q (by omega))
  have K2 := Lib.hid (K1.out.trans q (fun _ hi => .inl (.inr (by omega))))
  clear q K1 j1 hw2
  clear cc1 cf1 vc0_1 vc1_1 vc2_1 vc3_1 vc4_1 vc5_1 vc6_1 vc7_1 vc8_1 vf0_1 vf1_1 vf2_1 vf3_1 vf4_1 vf5_1 vf6_1 vf7_1 vf8_1 ac1 af1 mc1 mf1 lC1 lV1 lA1 lM1
  clear bC1 bV1 bA1 bM1 bS1
  obtain ⟨cc2, cf2⟩ := blk1 bC2.out
  obtain ⟨vc0_2, vc1_2, vc2_2, vc3_2, vc4_2, vc5_2, vc6_2, vc7_2, vc8_2, vf0_2, vf1_2, vf2_2, vf3_2, vf4_2, vf5_2, vf6_2, vf7_2, vf8_2⟩ := blk9 bV2.out
  obtain ⟨ac2, af2⟩ := blk1 bA2.out
  obtain ⟨mc2, mf2⟩ := blk1 bM2.out
  have lC2 := blk_lt bC2.out
  have lV2 := blk_lt bV2.out
  have lA2 := blk_lt bA2.out
  have lM2 := blk_lt bM2.out
  have hlook := bS2.out.look hsz
  rw [show inB ⟨s.toArray⟩ [] = false from rfl] at hlook
  go_wp2_with fail
  clear hlook
  refine (hI.out _).mono ?_
  rintro e w3 ⟨rfl, rfl⟩
  obtain ⟨w3, hput, hS3, hg3⟩ := bS2.out.put (by unfold maxLen; omega) hsz
  have q : Kp w2 w3 (· = mb) := (Kp.refl w2 (· = mb)).grown hg3 (fun k hk => by injection hk with hk; exact .inl hk.symm)
  have bC3 := Lib.hid (q.heap bC2.out (by omega))
  have bV3 := Lib.hid (q.heap bV2.out (by omega))
  have bA3 := Lib.hid (q.heap bA2.out (by omega))
  have bM3 := Lib.hid (q.heap bM2.out (by omega))
  have bS3 := Lib.hid hS3
  have j3 := Lib.hid (j2.out.kp q (by omega))
  have K3 := Lib.hid (K2.out.trans q (fun _ hi => .inl (.inr (by omega))))
  clear hg3 hS3 q
  obtain ⟨cc3, cf3⟩ := blk1 bC3.out
  obtain ⟨vc0_3, vc1_3, vc2_3, vc3_3, vc4_3, vc5_3, vc6_3, vc7_3, vc8_3, vf0_3, vf1_3, vf2_3, vf3_3, vf4_3, vf5_3, vf6_3, vf7_3, vf8_3⟩ := blk9 bV3.out
  obtain ⟨ac3, af3⟩ := blk1 bA3.out
  obtain ⟨mc3, mf3⟩ := blk1 bM3.out
  have lC3 := blk_lt bC3.out
  have lV3 := blk_lt bV3.out
  have lA3 := blk_lt bA3.out
  have lM3 := blk_lt bM3.out
  go_wp2_with fail
  clear hput K2 j2
  clear cc2 cf2 vc0_2 vc1_2 vc2_2 vc3_2 vc4_2 vc5_2 vc6_2 vc7_2 vc8_2 vf0_2 vf1_2 vf2_2 vf3_2 vf4_2 vf5_2 vf6_2 vf7_2 vf8_2 ac2 af2 mc2 mf2 lC2 lV2 lA2 lM2
  clear bC2 bV2 bA2 bM2 bS2
  refine (hB.out _ _ j3.out rfl).mono ?_
  rintro e w4 ⟨rfl, j4, q⟩
  replace j4 := Lib.hid j4
  clear j3
  have K4 := Lib.hid (K3.out.trans q (fun _ hi => .inl (.inl hi)))
  have bC4 := Lib.hid (q.heap bC3.out (by omega))
  have bV4 := Lib.hid (q.heap bV3.out (by omega))
  have bA4 := Lib.hid (q.heap bA3.out (by omega))
  have bM4 := Lib.hid (q.heap bM3.out (by omega))
  have bS4 := Lib.hid (bS3.out.heap (q.block _ bS3.out.lt (by omega)))
  clear q K3
  clear cc3 cf3 vc0_3 vc1_3 vc2_3 vc3_3 vc4_3 vc5_3 vc6_3 vc7_3 vc8_3 vf0_3 vf1_3 vf2_3 vf3_3 vf4_3 vf5_3 vf6_3 vf7_3 vf8_3 ac3 af3 mc3 mf3 lC3 lV3 lA3 lM3
  clear bC3 bV3 bA3 bM3 bS3
  obtain ⟨cc4, cf4⟩ := blk1 bC4.out
  obtain ⟨vc0_4, vc1_4, vc2_4, vc3_4, vc4_4, vc5_4, vc6_4, vc7_4, vc8_4, vf0_4, vf1_4, vf2_4, vf3_4, vf4_4, vf5_4, vf6_4, vf7_4, vf8_4⟩ := blk9 bV4.out
  obtain ⟨ac4, af4⟩ := blk1 bA4.out
  obtain ⟨mc4, mf4⟩ := blk1 bM4.out
  have lC4 := blk_lt bC4.out
  have lV4 := blk_lt bV4.out
  have lA4 := blk_lt bA4.out
  have lM4 := blk_lt bM4.out
  go_wp2_with fail
  refine (hY.out _ _ _ j4.out).mono ?_
  rintro e w5 ⟨rfl, j5, q⟩
  replace j5 := Lib.hid j5
  clear j4
  have K5 := Lib.hid (K4.out.trans q (fun _ hi => .inl (.inl hi)))
  have bC5 := Lib.hid (q.heap bC4.out (by omega))
  have bV5 := Lib.hid (q.heap bV4.out (by omega))
  have bA5 := Lib.hid (q.heap bA4.out (by omega))
  have bM5 := Lib.hid (q.heap bM4.out (by omega))
  have bS5 := Lib.hid (bS4.out.heap (q.block _ bS4.out.lt (by omega)))
  clear q K4
  clear cc4 cf4 vc0_4 vc1_4 vc2_4 vc3_4 vc4_4 vc5_4 vc6_4 vc7_4 vc8_4 vf0_4 vf1_4 vf2_4 vf3_4 vf4_4 vf5_4 vf6_4 vf7_4 vf8_4 ac4 af4 mc4 mf4 lC4 lV4 lA4 lM4
  clear bC4 bV4 bA4 bM4 bS4
  obtain ⟨cc5, cf5⟩ := blk1 bC5.out
  obtain ⟨vc0_5, vc1_5, vc2_5, vc3_5, vc4_5, vc5_5, vc6_5, vc7_5, vc8_5, vf0_5, vf1_5, vf2_5, vf3_5, vf4_5, vf5_5, vf6_5, vf7_5, vf8_5⟩ := blk9 bV5.out
  obtain ⟨ac5, af5⟩ := blk1 bA5.out
  obtain ⟨mc5, mf5⟩ := blk1 bM5.out
  have lC5 := blk_lt bC5.out
  have lV5 := blk_lt bV5.out
  have lA5 := blk_lt bA5.out
  have lM5 := blk_lt bM5.out
  go_wp2_with fail
  refine (hI.out _).mono ?_
  rintro e w6 ⟨rfl, rfl⟩
  go_wp2_with fail
  refine (hB.out _ _ j5.out hl).mono ?_
  rintro e w6 ⟨rfl, j6, q⟩
  replace j6 := Lib.hid j6
  clear j5
  have K6 := Lib.hid (K5.out.trans q (fun _ hi => .inl (.inl hi)))
  have bC6 := Lib.hid (q.heap bC5.out (by omega))
  have bV6 := Lib.hid (q.heap bV5.out (by omega))
  have bA6 := Lib.hid (q.heap bA5.out (by omega))
  have bM6 := Lib.hid (q.heap bM5.out (by omega))
  have bS6 := Lib.hid (bS5.out.heap (q.block _ bS5.out.lt (by omega)))
  clear q K5
  clear cc5 cf5 vc0_5 vc1_5 vc2_5 vc3_5 vc4_5 vc5_5 vc6_5 vc7_5 vc8_5 vf0_5 vf1_5 vf2_5 vf3_5 vf4_5 vf5_5 vf6_5 vf7_5 vf8_5 ac5 af5 mc5 mf5 lC5 lV5 lA5 lM5
  clear bC5 bV5 bA5 bM5 bS5
  obtain ⟨cc6, cf6⟩ := blk1 bC6.out
  obtain ⟨vc0_6, vc1_6, vc2_6, vc3_6, vc4_6, vc5_6, vc6_6, vc7_6, vc8_6, vf0_6, vf1_6, vf2_6, vf3_6, vf4_6, vf5_6, vf6_6, vf7_6, vf8_6⟩ := blk9 bV6.out
  obtain ⟨ac6, af6⟩ := blk1 bA6.out
  obtain ⟨mc6, mf6⟩ := blk1 bM6.out
  have lC6 := blk_lt bC6.out
  have lV6 := blk_lt bV6.out
  have lA6 := blk_lt bA6.out
  have lM6 := blk_lt bM6.out
  have hsz1 : ∀ o, (w6.alloc o).heap.size = w6.heap.size + 1 := fun o => Array.size_push _
  go_upto_region 11 with (at_builtin; refine wpList_append_lies _ rfl _ _ 28 rfl w6.heap.size 9 i0 _ 1 16 Tryz.underlying28 hi hz0 hz1 hz2 rfl (by omega) (.slice none 0 0) 0 [] (by rfl) (World.ownsRow_nil _ _ _ _) ⟨w6.heap.size, 0, none⟩ 1 1 [.string ⟨s.toArray⟩] (by rfl) (by rfl) (World.news_of_block (cs := #[.string ⟨s.toArray⟩]) (t := 9) (fr := (0, 0)) (heap_alloc_new _ _)) (by simp [Value.oneCell']) (by omega) (by unfold maxLen; omega) (by omega) (by rw [hsz1]; omega) _ rfl ?_; intro g7 cap7 w7 hown hgrow hat hlt7; have q7 : Kp w6 w7 (fun _ => False) := ((Kp.refl w6 (fun _ => False)).alloc _).grown hgrow (fun k hk => by cases hk); have bV7 := q7.heap bV6.out (fun h => h); obtain ⟨xc0, xc1, xc2, xc3, xc4, xc5, xc6, xc7, xc8, xf0, xf1, xf2, xf3, xf4, xf5, xf6, xf7, xf8⟩ := blk9 bV7; have lV7 := blk_lt bV7; clear hown hgrow hat hlt7)
  generalize hw8 : World.setCell w7 _ _ = w
  have q8 : Kp w7 w (· = V) := by rw [← hw8]; exact kp_one w7 V 7 _
  have hV : w.heap[V]? = some (.cells #[v0, v1, v2, v3, v4, v5, v6, .slice (some ⟨g7, 0, none⟩) 1 cap7, .slice none 0 0] 36 (0, 0)) := by rw [← hw8]; exact blk_put bV7 7 _ rfl
  have hX : w.heap[C]? = some (.cells #[.pointer (some ⟨R, 0, none⟩)] 255 (0, 0)) := q8.heap (q7.heap bC6.out (fun h => h)) (by omega)
  have hA : w.heap[A]? = some (.cells #[.string ⟨s.toArray⟩] 9 (0, 0)) := q8.heap (q7.heap bA6.out (fun h => h)) (by omega)
  have hjr : JR R l w := (j6.out.kp q7 (fun h => h)).kp q8 (by omega)
  have K8 : Kp w0 w (fun k => k = R ∨ V ≤ k) := (K6.out.trans q7 (fun _ hi => hi.elim)).trans q8 (fun _ hi => .inl (.inr (by omega)))
  clear hw8 q8 q7 bV7 xc0 xc1 xc2 xc3 xc4 xc5 xc6 xc7 xc8 xf0 xf1 xf2 xf3 xf4 xf5 xf6 xf7 xf8 lV7 K6 j6
  clear cc6 cf6 vc0_6 vc1_6 vc2_6 vc3_6 vc4_6 vc5_6 vc6_6 vc7_6 vc8_6 vf0_6 vf1_6 vf2_6 vf3_6 vf4_6 vf5_6 vf6_6 vf7_6 vf8_6 ac6 af6 mc6 mf6 lC6 lV6 lA6 lM6
  clear bC6 bV6 bA6 bM6 bS6
  clear hXt hP hB hY hI
  have hRV : V ≠ R := by omega
  have hRX : C ≠ R := by omega
  have hVX : V ≠ C := by omega
  obtain ⟨i0, hi, hz0, hz1, hz2⟩ := info_parts info36
  have hval := (fun W (hb : Below w.heap.size w W) => hval.out W (hjr.below hb) (K8.below hb))
  have hQ : ∀ z W W', Q z W → Kp W W' (fun k => k = V ∨ some k = (Value.slice none 0 0).ownBlock) → Q z W' := fun z W W' h k => hQ.out z W W' h (k.mono (fun i hi => hi.elim (fun h => h) (fun h => by cases h)))
  have hone := hone.out
  obtain ⟨b, hb0⟩ : ∃ b, b = w.heap.size := ⟨_, rfl⟩
  have hb : b ≤ w.heap.size := Nat.le_of_eq hb0
  have hown : w.ownsRow b 36 9 (.slice none 0 0) 0 [] := World.ownsRow_nil _ _ _ _
  have hlR : (Value.slice none 0 0).ownBlock ≠ some R := by intro h; cases h
  have hlV : (Value.slice none 0 0).ownBlock ≠ some V := by intro h; cases h
  have hlX : (Value.slice none 0 0).ownBlock ≠ some C := by intro h; cases h
  have hfin : ∀ w' z, ElemPost0 R V b 0 none l' v0 v1 v2 v3 v4 v5 v6 (.slice (some ⟨g7, 0, none⟩) 1 cap7) (u0 z) (u1 z) (u2 z) (u3 z) (u4 z) (u5 z) (u6 z) (u7 z) (u8 z) (Q z) w w' → JR R l' w' ∧ ∃ z, Member R V A s l' v0 v1 v2 v3 v4 v5 v6 [u0 z, u1 z, u2 z, u3 z, u4 z, u5 z, u6 z, u7 z, u8 z] (Q z) w0 w' := by
    rintro w' z ⟨g, cap, a1, a2, a3, a4, a5, a6, a7, a8⟩
    refine ⟨a3, z, _, b, g, cap, a1, a2, a5.heap hA (by rintro (e | e | e); omega; omega; cases e), a4, K8.trans a5 (fun i hi => ?_), ?_⟩
    · rcases hi with rfl | rfl | e
      · exact .inl (.inl rfl)
      · exact .inl (.inr (Nat.le_refl _))
      · cases e
    · rcases a6 with e | e
      · cases e
      · exact Nat.le_trans K8.size e
  have hV8 : w.drew.cell? ⟨V, 8, none⟩ = some (.slice none 0 0) := (blk_cell hV 8).trans rfl
  have hX0 : w.drew.cell? ⟨C, 0, none⟩ = some (.pointer (some ⟨R, 0, none⟩)) := (blk_cell hX 0).trans rfl
  replace hfin := Lib.hid hfin
  clear K8 hA
  refine start_ (n := 11) (S := fun w' => w'.cell? ⟨V, 8, none⟩ = some (.slice none 0 0) ∧ w'.cell? ⟨C, 0, none⟩ = some (.pointer (some ⟨R, 0, none⟩))) (ds := [8, 10]) #[false, false, false, false, false, false, false, false, false, false, false] (by kernel_rfl) rfl rfl ⟨hV8, hX0⟩ (fun hHeld => ?_)
  refine pure_ (i := 0) (N := some 36) (v := ?_) (a' := ?_) #[true, false, false, false, false, false, false, false, false, false, false] rfl rfl (by kernel_rfl) (fun _ _ _ h => h) (Or.inl ⟨by rfl, ?_⟩) ?_ ?_
  rotate_left
  · intro w'
    go_simp
    with_reducible rfl
  rotate_left
  · simp only [Act.put, List.setIfInBounds_toArray, List.set_cons_zero, List.set_cons_succ, i64_w, i32_w]
    rfl
  refine take_ (i := 1) (N := some 37) (v := ?_) (a' := ?_) #[true, true, false, false, false, false, false, false, false, false, false] rfl rfl (by kernel_rfl) (fun _ _ _ h => h) (Or.inl ⟨by rfl, ?_⟩) hHeld ?_ ?_
  rotate_left
  · rintro w' ⟨s0, s1⟩
    go_simp
    with_reducible rfl
  rotate_left
  · simp only [Act.put, List.setIfInBounds_toArray, List.set_cons_zero, List.set_cons_succ, i64_w, i32_w]
    rfl
  refine take_ (i := 2) (N := some 38) (v := ?_) (a' := ?_) #[true, true, true, false, false, false, false, false, false, false, false] rfl rfl (by kernel_rfl) (fun _ _ _ h => h) (Or.inl ⟨by rfl, ?_⟩) hHeld ?_ ?_
  rotate_left
  · rintro w' ⟨s0, s1⟩
    go_simp
    with_reducible rfl
  rotate_left
  · simp only [Act.put, List.setIfInBounds_toArray, List.set_cons_zero, List.set_cons_succ, i64_w, i32_w]
    rfl
  refine pure_ (i := 4) (N := some 40) (v := ?_) (a' := ?_) #[true, true, true, false, true, false, false, false, false, false, false] rfl rfl (by kernel_rfl) (fun _ _ _ h => h) (Or.inl ⟨by rfl, ?_⟩) ?_ ?_
  rotate_left
  · intro w'
    go_simp
    with_reducible rfl
  rotate_left
  · simp only [Act.put, List.setIfInBounds_toArray, List.set_cons_zero, List.set_cons_succ, i64_w, i32_w]
    rfl
  refine join_ (σ := Nat × Z) 5 #[true, true, true, true, true, true, false, false, false, false, false] (fun h => [(39, .agg #[u0 h.2, u1 h.2, u2 h.2, u3 h.2, u4 h.2, u5 h.2, u6 h.2, u7 h.2, u8 h.2]), (41, .slice (some ⟨h.1, 0, none⟩) 1 1)]) (fun h w' => w.heap.size ≤ h.1 ∧ w'.heap[h.1]? = some (.cells #[.int .i64 0, .bool false, .bool false, .string ⟨#[]⟩, .int .i64 0, .int .u64 0, .string ⟨#[]⟩, .slice none 0 0, .slice none 0 0] 36 (0, 0)) ∧ JR R l' w' ∧ Kp w w' (· = R) ∧ Q h.2 w' ∧ (w'.cell? ⟨V, 8, none⟩ = some (.slice none 0 0) ∧ w'.cell? ⟨C, 0, none⟩ = some (.pointer (some ⟨R, 0, none⟩)))) ?cont (fun hcont => ?_)
  case cont =>
    rintro ⟨h, z⟩ w4 ⟨hh, hbox, hj4, K4, hQ4, hHeld⟩
    refine norm_ (a' := ?_) ?_ ?_
    rotate_left
    · show putAll _ _ = _
      simp only [putAll, Act.put, List.setIfInBounds_toArray, List.set_cons_zero, List.set_cons_succ, i64_w, i32_w]
      rfl
    refine one_ (i := 6) (N := some 42) #[true, true, true, true, true, true, true, false, false, false, false] rfl rfl (by kernel_rfl) (by decide) (fun K hK => ?_)
    have hown4 : w4.ownsRow b 36 9 (.slice none 0 0) 0 [] := K4.own hown (fun k hk e => hlR (by rw [hk, e]))
    refine step_append_lies _ (by rfl) _ _ _ (by rfl) b 36 i0 _ 9 120 Tryz.underlying34 hi hz0 hz1 hz2 rfl (by omega) (.slice none 0 0) 0 [] (by rfl) hown4 ⟨h, 0, none⟩ 1 1 [.int .i64 0, .bool false, .bool false, .string ⟨#[]⟩, .int .i64 0, .int .u64 0, .string ⟨#[]⟩, .slice none 0 0, .slice none 0 0] (by rfl) (by rfl) (World.news_of_block (cs := #[.int .i64 0, .bool false, .bool false, .string ⟨#[]⟩, .int .i64 0, .int .u64 0, .string ⟨#[]⟩, .slice none 0 0, .slice none 0 0]) (t := 36) (fr := (0, 0)) hbox) (by simp [Value.oneCell']) (by omega) (by unfold maxLen; omega) (by omega) (Nat.le_trans hb K4.size) _ rfl ?_
    intro g cap w5 hown5 hgrow hat hlt5
    have hV4 := K4.heap hV (fun e => hRV e)
    have hV5 := row_grow hV4 hgrow (fun e => hlV e.symm)
    have hX5 : w5.cell? ⟨C, 0, none⟩ = some (.pointer (some ⟨R, 0, none⟩)) := (World.cell?_of_block (hgrow.block _ (World.block_lt_of_cell? _ _ hHeld.2) (fun e => hlX e.symm))).trans hHeld.2
    have hHeld5 : w5.cell? ⟨V, 8, none⟩ = some (.slice none 0 0) ∧ w5.cell? ⟨C, 0, none⟩ = some (.pointer (some ⟨R, 0, none⟩)) := ⟨(blk_cell hV5 8).trans rfl, hX5⟩
    have K5 := Kp.grown_ hgrow
    have hgf : (Value.slice none 0 0).ownBlock = some g ∨ (w.heap.size ≤ g ∧ w4.heap.size ≤ g) := hat.imp_right (fun e => by have := K4.size; omega)
    have hgV : g ≠ V := by
      have h1 := blk_lt hV
      rcases hgf with e | e
      · intro h2; exact hlV (by rw [e, h2])
      · omega
    have hgR : g ≠ R := by
      have h1 := blk_lt (show w.heap[R]? = _ from hjr)
      rcases hgf with e | e
      · intro h2; exact hlR (by rw [e, h2])
      · omega
    clear hat
    refine hK.out _ _ hHeld5 (fun hHeld => ?_)
    clear hK K
    refine norm_ (a' := ?_) ?_ ?_
    rotate_left
    · show Act.put _ (some 42) _ = _
      simp only [Act.put, List.setIfInBounds_toArray, List.set_cons_zero, List.set_cons_succ, i64_w, i32_w]
      rfl
    refine pure_ (i := 7) (N := some 43) (v := ?_) (a' := ?_) #[true, true, true, true, true, true, true, true, false, false, false] rfl rfl (by kernel_rfl) (fun _ _ _ h => h) (Or.inl ⟨by rfl, ?_⟩) ?_ ?_
    rotate_left
    · intro w'
      go_simp
      with_reducible rfl
    rotate_left
    · simp only [Act.put, List.setIfInBounds_toArray, List.set_cons_zero, List.set_cons_succ, i64_w, i32_w]
      rfl
    refine pure_ (i := 9) (N := some 44) (v := ?_) (a' := ?_) #[true, true, true, true, true, true, true, true, false, true, false] rfl rfl (by kernel_rfl) (fun _ _ _ h => h) (Or.inl ⟨by rfl, ?_⟩) ?_ ?_
    rotate_left
    · intro w'
      go_simp
      with_reducible rfl
    rotate_left
    · simp only [Act.put, List.setIfInBounds_toArray, List.set_cons_zero, List.set_cons_succ, i64_w, i32_w]
      rfl
    obtain ⟨e0, e1, e2, e3, e4, e5, e6, e7, e8, e9, e10, e11, e12, e13, e14, e15, e16, e17⟩ := row_nine0 hown5
    have fV := blk_frozen hV5 8
    have cV := hHeld.1
    have hgl := hlt5
    have hVl := blk_lt hV5
    have hVg : V ≠ g := fun e => hgV e.symm
    have hpost := elem_post0 hown5 hV5 hj4 (hgrow.block R (blk_lt hj4) (fun e => hlR e.symm)) K4 K5 hQ4 (hQ z) hgf hgV hgR hRV (u0 z) (u1 z) (u2 z) (u3 z) (u4 z) (u5 z) (u6 z) (u7 z) (u8 z)
    have hthere : w5.there g 0 9 := there9 e0 e1 e2 e3 e4 e5 e6 e7 e8 e9 e10 e11 e12 e13 e14 e15 e16 e17
    replace hown5 := Lib.hid hown5
    clear hown4
    refine twoL_ (i := 8) (j := 10) (Ni := none) (Nj := none) #[true, true, true, true, true, true, true, true, true, true, false] #[true, true, true, true, true, true, true, true, false, true, true] rfl rfl rfl rfl (by kernel_rfl) (by decide) (by decide) (fun K hK => ?_) (fun K hK => ?_)
    · rw [if_pos (by rfl)]
      refine wp_store_mid 36 _ _ rfl g 0 #[u0 z, u1 z, u2 z, u3 z, u4 z, u5 z, u6 z, u7 z, u8 z] (by rfl) (by rfl) hthere info36s (hone z) ?_
      refine hK.out _ _ ?_
      clear hK
      clear K
      refine last_ (i := 10) (N := none) #[true, true, true, true, true, true, true, true, true, true, true] rfl rfl (by kernel_rfl) (by decide) (fun K hK => ?_)
      generalize hWq : World.setCells w5 g 0 [u0 z, u1 z, u2 z, u3 z, u4 z, u5 z, u6 z, u7 z, u8 z] = W
      have cW : W.cell? ⟨V, 8, none⟩ = some (.slice none 0 0) := by rw [← hWq]; exact (World.cell?_setCells_out g _ _ _ ⟨V, 8, none⟩ (fun h => absurd h hVg)).trans cV
      have fW : W.frozen? ⟨V, 8, none⟩ = false := by rw [← hWq, World.frozen?_setCells]; exact fV
      have hcl : V < W.heap.size := World.block_lt_of_cell? _ _ cW
      refine skip_ (w1 := ?_) (by rfl) rfl ?_ ?_
      rotate_left
      · go_simp
        rfl
      subst hWq
      refine hK.out _ _ ?_
      clear hK
      clear K
      refine done_ (by kernel_rfl) ?_
      go_end0
      exact ⟨rfl, hfin.out _ z hpost.1⟩
    · refine skip_ (w1 := ?_) (by rfl) rfl ?_ ?_
      rotate_left
      · go_simp
        rfl
      refine hK.out _ _ ?_
      clear hK
      clear K
      refine last_ (i := 8) (N := none) #[true, true, true, true, true, true, true, true, true, true, true] rfl rfl (by kernel_rfl) (by decide) (fun K hK => ?_)
      rw [if_pos (by rfl)]
      refine wp_store_mid 36 _ _ rfl g 0 #[u0 z, u1 z, u2 z, u3 z, u4 z, u5 z, u6 z, u7 z, u8 z] (by rfl) (by rfl) (there_set hthere (V, 8) _) info36s (hone z) ?_
      refine hK.out _ _ ?_
      clear hK
      clear K
      refine done_ (by kernel_rfl) ?_
      go_end0
      exact ⟨rfl, hfin.out _ z hpost.2⟩
  refine two_ (i := 3) (j := 5) (Ni := some 39) (Nj := some 41) #[true, true, true, true, true, false, false, false, false, false, false] #[true, true, true, false, true, true, false, false, false, false, false] rfl rfl rfl rfl (by kernel_rfl) (by decide) (by decide) (fun K hK => ?_) (fun K hK => ?_)
  · refine goes_ Tryz.func183 (by kernel_rfl) rfl #[.pointer (some ⟨R, 0, none⟩)] (by rfl) rfl rfl (by simp [Act.eval]) ?_
    refine (hval _ (Below.refl _ _).drew).mono ?_
    rintro e w3 ⟨z, rfl, hj3, K3, hQ3⟩
    replace K3 := Kp.undrew K3
    have hc8 := K3.cell hV8 (fun e => hRV e)
    have hcX := K3.cell hX0 (fun e => hRX e)
    refine ⟨_, rfl, hK.out _ _ ⟨hc8, hcX⟩ (fun hHeld3 => ?_)⟩
    clear hK K
    refine one_ (i := 5) (N := some 41) #[true, true, true, true, true, true, false, false, false, false, false] rfl rfl (by kernel_rfl) (by decide) (fun K hK => ?_)
    refine value_ (v := .slice (some ⟨w3.heap.size, 0, none⟩) 1 1) (w1 := w3.alloc (.cells #[.int .i64 0, .bool false, .bool false, .string ⟨#[]⟩, .int .i64 0, .int .u64 0, .string ⟨#[]⟩, .slice none 0 0, .slice none 0 0] 36 (0, 0))) (by rfl) rfl ?_ ?_
    · go_simp
    have K4 := K3.alloc (.cells #[.int .i64 0, .bool false, .bool false, .string ⟨#[]⟩, .int .i64 0, .int .u64 0, .string ⟨#[]⟩, .slice none 0 0, .slice none 0 0] 36 (0, 0))
    refine hK.out _ _ ⟨(Kp.refl w3 (fun _ => False)).alloc _ |>.cell hc8 (fun h => h), (Kp.refl w3 (fun _ => False)).alloc _ |>.cell hcX (fun h => h)⟩ (fun hHeld4 => ?_)
    exact hcont (w3.heap.size, z) _ ⟨K3.size, alloc1 w3 _, hj3.kp ((Kp.refl w3 (fun _ => False)).alloc _) (fun h => h), K4, hQ z _ _ hQ3 (((Kp.refl w3 (fun _ => False)).alloc _).mono (fun _ h => h.elim)), hHeld4⟩
  · refine value_ (v := .slice (some ⟨w.heap.size, 0, none⟩) 1 1) (w1 := w.drew.alloc (.cells #[.int .i64 0, .bool false, .bool false, .string ⟨#[]⟩, .int .i64 0, .int .u64 0, .string ⟨#[]⟩, .slice none 0 0, .slice none 0 0] 36 (0, 0))) (by rfl) rfl ?_ ?_
    · go_simp
    have B1 : Below w.heap.size w (w.drew.alloc (.cells #[.int .i64 0, .bool false, .bool false, .string ⟨#[]⟩, .int .i64 0, .int .u64 0, .string ⟨#[]⟩, .slice none 0 0, .slice none 0 0] 36 (0, 0))) := below_alloc (Below.refl _ _).drew _
    have K1 := Kp.of_below B1 (fun _ => False)
    have hc8 := K1.cell hV8 (fun h => h)
    have hcX := K1.cell hX0 (fun h => h)
    refine hK.out _ _ ⟨hc8, hcX⟩ (fun hHeld1 => ?_)
    clear hK K
    refine one_ (i := 3) (N := some 39) #[true, true, true, true, true, true, false, false, false, false, false] rfl rfl (by kernel_rfl) (by decide) (fun K hK => ?_)
    refine goes_ Tryz.func183 (by kernel_rfl) rfl #[.pointer (some ⟨R, 0, none⟩)] (by rfl) rfl rfl (by simp [Act.eval, Act.put]) ?_
    refine (hval _ B1).mono ?_
    rintro e w3 ⟨z, rfl, hj3, K3, hQ3⟩
    have hc8' := K3.cell hc8 (fun e => hRV e)
    have hcX' := K3.cell hcX (fun e => hRX e)
    have hRw := blk_lt (show w.heap[R]? = _ from hjr)
    refine ⟨_, rfl, hK.out _ _ ⟨hc8', hcX'⟩ (fun hHeld3 => ?_)⟩
    refine norm_ ?_ (hcont (w.heap.size, z) w3 ⟨Nat.le_refl _, K3.heap (alloc1 w.drew _) (fun e => by have : w.drew.heap.size = w.heap.size := rfl; omega), hj3, (K1.mono (fun _ h => h.elim)).trans K3 (fun i hi => .inl hi), hQ3, hHeld3⟩)
    simp only [putAll, Act.put, List.setIfInBounds_toArray, List.set_cons_zero, List.set_cons_succ, i64_w, i32_w]
end Go.Proofs.YtcpgcjmamjjokaaGreatDoor
namespace Go.Proofs.YtcpgcjmamjjokaaGreatDoor
open Go.RowKit Go.Maps Go.Proofs.YtcpgcjmamjjokaaGreatDoorW.PrintWords Go.Proofs.YtcpgcjmamjjokaaGreatDoorW.PrintLast Go.Proofs.YtcpgcjmamjjokaaGreatDoorW.PrintMore Go.Proofs.YtcpgcjmamjjokaaGreatDoor.PTopLimits
set_option linter.unusedVariables false
set_option linter.unusedSimpArgs false
def Tryz.laysSlE041_f57_ren : Go.Shelf.Ren := ⟨fun | 41 => 57 | n => n, fun | 22 => 34 | 23 => 36 | 4 => 4 | n => n, fun | n => n⟩
theorem Tryz.laysSlE041_f57 : Go.Proofs.SlLaysE0.n41 Tryz.prog Tryz.laysSlE041_f57_ren := {
  mixed := by kernel_rfl
  f41 := ⟨Tryz.f57.name, by decide, Tryz.func57.trans (congrArg some (by kernel_rfl))⟩
  t4 := Tryz.underlying4
  a4 := Tryz.isAgg4
  z4 := Tryz.sizeOf4
  v4 := Tryz.zeroValue4
  t22 := Tryz.underlying34
  a22 := Tryz.isAgg34
  z22 := Tryz.sizeOf34
  v22 := Tryz.zeroValue34 }
/-- Bytes as a value. -/
def kidJ : Value := .agg #[.int .i64 6, .bool false, .bool false, .string ⟨#[]⟩, .int .i64 0, .int .u64 0, .string ⟨#[0]⟩, .slice none 0 0, .slice none 0 0]
/-- A row of one value, cloned. -/
theorem clone_one (b off c : Nat) (us : List Value) (w : World) (hl : us.length = 9) (hc : ∀ j u, us[j]? = some u → w.cell? ⟨b, off + j, none⟩ = some u) (h1 : ∀ u ∈ us, u.oneCell' = true) :
    Calls Tryz.prog 57 #[.slice (some ⟨b, off, none⟩) 1 c] w fun e w' => ∃ v', e = .returned v' ∧ w'.ownsRow w.heap.size 36 9 v' 1 us ∧ v' ≠ .slice none 0 0 ∧ Below w.heap.size w w' := by
  obtain ⟨i0, hi, hz0, hz1, hz2⟩ := info_parts info36
  exact AnyE.slices_Clone Tryz.laysSlE041_f57 i0 _ 9 120 hi hz0 hz1 hz2 rfl (by decide) Tryz.sizeOf36 b off 1 c us w (by omega) (by unfold maxLen; omega) (by omega) hc h1
theorem alloc6 (w : World) (o0 o1 o2 o3 o4 o5 : Obj) : ∀ W, ((((((w.alloc o0).alloc o1).alloc o2).alloc o3).alloc o4).alloc o5) = W → W.heap[w.heap.size]? = some o0 ∧ W.heap[w.heap.size + 1]? = some o1 ∧ W.heap[w.heap.size + 1 + 1]? = some o2 ∧ W.heap[w.heap.size + 1 + 1 + 1]? = some o3 ∧ W.heap[w.heap.size + 1 + 1 + 1 + 1]? = some o4 ∧ W.heap[w.heap.size + 1 + 1 + 1 + 1 + 1]? = some o5 ∧ Below w.heap.size w W ∧ W.heap.size = w.heap.size + 6 := by
  rintro W rfl
  have B0 := below_alloc (Below.refl w.heap.size w) o0
  have hs : ∀ (w : World) o, (w.alloc o).heap.size = w.heap.size + 1 := fun w o => Array.size_push _
  refine ⟨?_, ?_, ?_, ?_, ?_, ?_, ?_, ?_⟩
  · exact blk_alloc (blk_alloc (blk_alloc (blk_alloc (blk_alloc (heap_alloc_new _ _) _) _) _) _) _
  · exact blk_alloc (blk_alloc (blk_alloc (blk_alloc (by rw [← hs w o0]; exact heap_alloc_new _ _) _) _) _) _
  · exact blk_alloc (blk_alloc (blk_alloc (by rw [← hs w o0, ← hs _ o1]; exact heap_alloc_new _ _) _) _) _
  · exact blk_alloc (blk_alloc (by rw [← hs w o0, ← hs _ o1, ← hs _ o2]; exact heap_alloc_new _ _) _) _
  · exact blk_alloc (by rw [← hs w o0, ← hs _ o1, ← hs _ o2, ← hs _ o3]; exact heap_alloc_new _ _) _
  · rw [← hs w o0, ← hs _ o1, ← hs _ o2, ← hs _ o3, ← hs _ o4]; exact heap_alloc_new _ _
  · exact ((((B0.alloc (by rw [hs]; omega) _).alloc (by rw [hs, hs]; omega) _).alloc (by rw [hs, hs, hs]; omega) _).alloc (by rw [hs, hs, hs, hs]; omega) _).alloc (by rw [hs, hs, hs, hs, hs]; omega) _
  · rw [hs, hs, hs, hs, hs, hs]
theorem alloc_at {w W : World} {o : Obj} (h : w.alloc o = W) : W.heap[w.heap.size]? = some o ∧ Below w.heap.size w W := by
  rw [← h]
  exact ⟨heap_alloc_new w _, below_alloc (Below.refl _ _) _⟩
theorem SetAt.of_block {w : World} {b : Nat} (h : w.heap[b]? = some (.map #[] 0)) : SetAt w b 0 [] := by
  have h1 := SetAt.made { w with heap := (w.heap.toList.take b).toArray }
  have hs : (w.heap.toList.take b).toArray.size = b := by
    have := blk_lt h
    simp
    omega
  refine (hs ▸ h1 : SetAt _ b 0 []).heap ?_
  rw [h]
  have h2 := heap_alloc_new { w with heap := (w.heap.toList.take b).toArray } (.map #[] 0)
  rw [show ({ w with heap := (w.heap.toList.take b).toArray } : World).heap.size = b from hs] at h2
  exact h2.symm
theorem row9 {w : World} {b g cap : Nat} {u0 u1 u2 u3 u4 u5 u6 u7 u8 : Value} (h : w.ownsRow b 36 9 (.slice (some ⟨g, 0, none⟩) 1 cap) 1 [u0, u1, u2, u3, u4, u5, u6, u7, u8]) : w.cell? ⟨g, 0, none⟩ = some u0 ∧ w.cell? ⟨g, 1, none⟩ = some u1 ∧ w.cell? ⟨g, 2, none⟩ = some u2 ∧ w.cell? ⟨g, 3, none⟩ = some u3 ∧ w.cell? ⟨g, 4, none⟩ = some u4 ∧ w.cell? ⟨g, 5, none⟩ = some u5 ∧ w.cell? ⟨g, 6, none⟩ = some u6 ∧ w.cell? ⟨g, 7, none⟩ = some u7 ∧ w.cell? ⟨g, 8, none⟩ = some u8 :=
  ⟨(World.ownsRow.cellAt h 0 (by decide)).trans rfl, (World.ownsRow.cellAt h 1 (by decide)).trans rfl, (World.ownsRow.cellAt h 2 (by decide)).trans rfl, (World.ownsRow.cellAt h 3 (by decide)).trans rfl, (World.ownsRow.cellAt h 4 (by decide)).trans rfl, (World.ownsRow.cellAt h 5 (by decide)).trans rfl, (World.ownsRow.cellAt h 6 (by decide)).trans rfl, (World.ownsRow.cellAt h 7 (by decide)).trans rfl, (World.ownsRow.cellAt h 8 (by decide)).trans rfl⟩
set_option maxHeartbeats 6400000 in
set_option maxRecDepth 100000 in
theorem jobject_bytes (R : Nat) (l r : List UInt8) (hl2 : l = 34 :: [48, 48] ++ 34 :: 125 :: r) (w : World) (h : JR R (34 :: [36, 98, 121, 116, 101, 115] ++ 34 :: 58 :: l) w) (hl : NBl l = true) (hT : Lib.Utf8Tabs 0 1 w) (hR : 2 ≤ R)
    :
    Calls Tryz.prog 225 #[.pointer (some ⟨R, 0, none⟩)] w fun e w' => e = .returned kidJ ∧ JR R r w' ∧ Kp w w' (· = R) := by
  subst hl2
  have hmm := @run_makeMap Tryz.prog
  have hRX : R < w.heap.size := blk_lt h
  have hP1 := Lib.hid (fun w => (Tryz.strings_HasPrefix ⟨[36, 98, 121, 116, 101, 115].toArray⟩ ⟨#[36]⟩ w).mono (fun e w' h => (⟨h.1, h.2.symm⟩ : e = .returned (.bool true) ∧ w = w')))
  have hP2 := Lib.hid (fun w => (Tryz.strings_HasPrefix ⟨[36, 98, 121, 116, 101, 115].toArray⟩ ⟨#[36, 36]⟩ w).mono (fun e w' h => (⟨h.1, h.2.symm⟩ : e = .returned (.bool false) ∧ w = w')))
  have hI := Lib.hid jis_eq
  replace h := Lib.hid h
  replace hT := Lib.hid hT
  go_enter Tryz.func225, Tryz.ntmps225
  go_wp2_with fail
  generalize hw1 : World.alloc _ _ = w1
  obtain ⟨x0, x1, x2, x3, x4, x5, B1, hs1⟩ := alloc6 w _ _ _ _ _ _ _ hw1
  have j1 := h.out.below B1
  obtain ⟨X, hXe⟩ : ∃ X, w.heap.size = X := ⟨_, rfl⟩
  rw [hXe] at x0 x1 x2 x3 x4 x5 hs1 hRX
  rw [hXe]
  clear hw1
  have hwX := Nat.le_of_eq hXe
  have K1 := Lib.hid (Kp.of_below B1 (· = R))
  have hT1 := Utf8Tabs_below hT.out B1
  replace B1 := Lib.hid B1
  replace hwX := Lib.hid hwX
  clear hXe
  refine (jlist1 R 268 #[.pointer (some ⟨X, 0, none⟩), .pointer (some ⟨X + 1 + 1, 0, none⟩), .pointer (some ⟨X + 1 + 1 + 1 + 1 + 1, 0, none⟩), .pointer (some ⟨X + 1 + 1 + 1 + 1, 0, none⟩)] (fun w => enters_ Tryz.func268 (by kernel_rfl) rfl _ w) 125 34 _ r (by decide) rfl rfl (fun W => ∃ (z : Unit) (WA : World), Kp w1 WA (· = R) ∧ Member R (X + 1 + 1) (X + 1 + 1 + 1 + 1 + 1) [36, 98, 121, 116, 101, 115] (125 :: r) (.int .i64 8) (.bool false) (.bool false) (.string ⟨#[]⟩) (.int .i64 0) (.int .u64 0) (.string ⟨#[]⟩) [.int .i64 5, .bool false, .bool false, .string ⟨#[]⟩, .int .i64 0, .int .u64 0, .string ⟨#[48,48]⟩, .slice none 0 0, .slice none 0 0] (fun _ => True) WA W) w1 j1 ?_).mono ?_
  · intro W jW KW
    refine (jmember R (X) (X + 1 + 1) (X + 1 + 1 + 1 + 1 + 1) (X + 1 + 1 + 1 + 1) (X + 1 + 1 + 1) [36, 98, 121, 116, 101, 115] _ (125 :: r) _ _ _ _ _ _ _ (Z := Unit) (fun _ => .int .i64 5) (fun _ => .bool false) (fun _ => .bool false) (fun _ => .string ⟨#[]⟩) (fun _ => .int .i64 0) (fun _ => .int .u64 0) (fun _ => .string ⟨#[48,48]⟩) (fun _ => .slice none 0 0) (fun _ => .slice none 0 0) (fun _ => by simp [Value.oneCell']) (fun _ _ => True) W (by unfold Plain; decide) (by decide) (by decide) (by decide) hl (KW.heap x0 (by omega)) (KW.heap x2 (by omega)) (KW.heap x5 (by omega)) (KW.heap x4 (by omega)) (SetAt.of_block (KW.heap x3 (by omega))) jW (KW.tabs hT1 (by omega) (by omega)) hR hRX (by omega) (by omega) (by omega) (by omega) ?_ ?_).mono ?_
    · intro W2 j K
      refine (jvalue_text R [48, 48] (125 :: r) (by unfold Plain; decide) (by decide) (by decide) W2 j (K.tabs (KW.tabs hT1 (by omega) (by omega)) (by omega) (by omega)) hR).mono ?_
      rintro e W' ⟨rfl, a1, a2⟩
      exact ⟨(), rfl, a1, a2, trivial⟩
    · exact fun _ _ _ _ _ => trivial
    · rintro e W' ⟨rfl, a1, z, a2⟩
      exact ⟨rfl, a1, z, W, KW, a2⟩
  rintro e w2 ⟨rfl, j2, W, ⟨z, WA, KA, nv, b, g, cap, mV, hown, mA, hQ, KM, hg⟩, KW⟩
  have hg2 : X + 6 ≤ g := by have := KA.size; omega
  have y1 := KW.heap (KM.heap (KA.heap x1 (by omega)) (by omega)) (by omega)
  have yV := KW.heap mV (by omega)
  have yA := KW.heap mA (by omega)
  have hrow := row9 (KW.own hown (fun k hk e => by simp [Value.ownBlock] at hk; omega))
  have K2 := Lib.hid ((((K1.out.trans KA (fun i hi => .inl hi)).trans KM (fun i hi => by rcases hi with rfl | h; exact .inl rfl; exact .inr (by have := hwX.out; omega))).trans KW (fun i hi => .inl hi)))
  obtain ⟨gc0, gc1, gc2, gc3, gc4, gc5, gc6, gc7, gc8, gf0, gf1, gf2, gf3, gf4, gf5, gf6, gf7, gf8⟩ := blk9 y1
  obtain ⟨vc0, vc1, vc2, vc3, vc4, vc5, vc6, vc7, vc8, vf0, vf1, vf2, vf3, vf4, vf5, vf6, vf7, vf8⟩ := blk9 yV
  obtain ⟨ac, af⟩ := blk1 yA
  obtain ⟨rc0, rc1, rc2, rc3, rc4, rc5, rc6, rc7, rc8⟩ := hrow
  have ly1 := blk_lt y1
  have lyV := blk_lt yV
  have lyA := blk_lt yA
  have hgl := World.block_lt_of_cell? _ _ rc0
  replace y1 := Lib.hid y1
  replace j2 := Lib.hid j2
  replace hQ := Lib.hid hQ
  replace KW := Lib.hid KW
  clear x0 x1 x2 x3 x4 x5 mV mA KM KA yV yA hown K1 hT1 B1
  go_wp2_with fail
  refine (hP1.out _).mono ?_
  rintro e w3 ⟨rfl, rfl⟩
  go_wp2_with fail
  refine (hP2.out _).mono ?_
  rintro e w3 ⟨rfl, rfl⟩
  go_wp2_with fail
  refine (hI.out _).mono ?_
  rintro e w3 ⟨rfl, rfl⟩
  go_wp2_with fail
  generalize hw4 : World.alloc w2 _ = w4
  obtain ⟨x4, B4⟩ := alloc_at hw4
  clear hw4
  obtain ⟨xc0, xc1, xc2, xc3, xc4, xc5, xc6, xc7, xc8, xf0, xf1, xf2, xf3, xf4, xf5, xf6, xf7, xf8⟩ := blk9 x4
  have lx4 := blk_lt x4
  replace B4 := Lib.hid B4
  refine (hI.out _).mono ?_
  rintro e w5 ⟨rfl, rfl⟩
  go_wp2_with fail
  refine (junhex _ jis_ok).mono ?_
  rintro e w5 ⟨rfl, B5⟩
  have B5 := below_then B4.out B4.out.size B5
  have y5 := blk_below y1.out B5
  clear gc0 gc1 gc2 gc3 gc4 gc5 gc6 gc7 gc8 gf0 gf1 gf2 gf3 gf4 gf5 gf6 gf7 gf8 ly1
  obtain ⟨gc0, gc1, gc2, gc3, gc4, gc5, gc6, gc7, gc8, gf0, gf1, gf2, gf3, gf4, gf5, gf6, gf7, gf8⟩ := blk9 y5
  have ly5 := blk_lt y5
  replace y5 := Lib.hid y5
  replace B5 := Lib.hid B5
  go_wp2_with fail
  refine bodyPost_ret (results_cell_row rfl _ _ (X + 1) 36 #[.int .i64 6, .bool false, .bool false, .string ⟨#[]⟩, .int .i64 0, .int .u64 0, .string ⟨#[0]⟩, .slice none 0 0, .slice none 0 0] (0, 0) _ rfl (set9_heap y5.out) Tryz.underlying36 rfl (by kernel_rfl)) rfl ?_
  refine ⟨rfl, (j2.out.below B5.out).kp (set9_kp _ _ _ _ _ _ _ _ _ _ _) (by omega), (K2.out.below B5.out).trans (set9_kp _ _ _ _ _ _ _ _ _ _ _) (fun i hi => .inr (by have := hwX.out; omega))⟩
end Go.Proofs.YtcpgcjmamjjokaaGreatDoor
