/- unicode/utf8.FullRuneInString, at every string. -/
import Derived.Test.YtimfabbielphbaaDoorSh
import Derived.Test.YtimfabbielphbaaDoorPb
import Derived.Test.YtimfabbielphbaaDoorWMore
namespace Go.Proofs.YtimfabbielphbaaDoor
open Go.RowKit Go.Lib Go.Proofs.YtimfabbielphbaaDoorW.PrintWords Go.Proofs.YtimfabbielphbaaDoorW.PrintMore
set_option linter.unusedVariables false
set_option linter.unusedSimpArgs false

/-- Is it a character, or no beginning of one? -/
def fullN (n b1 b2 x : Nat) : Bool :=
  if x % 8 ≤ n then true
  else if 1 < n ∧ (b1 < accLo (x / 16) ∨ accHi (x / 16) < b1) then true
  else if 2 < n ∧ (b2 < 128 ∨ 191 < b2) then true
  else false

set_option maxHeartbeats 4000000 in
set_option maxRecDepth 1000000 in
theorem full_alone (s : ByteArray) (w : World) (X : Nat) (hp : 0 < s.size) (x0 : UInt8) (hs0 : s[0]'hp = x0) (l0 : x0.toNat < 256)
    (hc0 : w.cell? ⟨0, x0.toNat, none⟩ = some (.int .u8 (X : Nat))) (k : Nat) (hk : k ≤ 1) (ek : bits .and .u8 ((X : Nat) : Int) 7 = (k : Int)) :
    Calls Tryd.prog 27 #[.string s] w fun e w' => e = .returned (.bool true) ∧ Below w.heap.size w w' := by
  have hz0 : (0 : Int) < (s.size : Int) := by omega
  have hzn : ((s.size : Int) == 0) = false := beq_eq_false_iff_ne.2 (by omega)
  have hd : k ≤ s.size := by omega
  go_enter Tryd.func27, Tryd.ntmps27
  go_wp2
  go_ret
  exact ⟨rfl, Below.refl _ _⟩

set_option maxHeartbeats 4000000 in
set_option maxRecDepth 1000000 in
theorem full_2 (s : ByteArray) (w : World) (hp : 0 < s.size) (x0 x1 x2 : UInt8) (hs0 : s[0]'hp = x0) (hx1 : s.get! 1 = x1) (hx2 : s.get! 2 = x2) (l0 : x0.toNat < 256) (l1 : x1.toNat < 256) (l2 : x2.toNat < 256)
    (hc0 : w.cell? ⟨0, x0.toNat, none⟩ = some (.int .u8 2)) (ha : w.cell? ⟨1, 0, none⟩ = some (.int .u8 128)) (hb : w.cell? ⟨1, 1, none⟩ = some (.int .u8 191)) :
    Calls Tryd.prog 27 #[.string s] w fun e w' => e = .returned (.bool (decide (2 ≤ s.size) || (decide (1 < s.size) && (decide (x1.toNat < 128) || decide (191 < x1.toNat))) || (decide (2 < s.size) && (decide (x2.toNat < 128) || decide (191 < x2.toNat))))) ∧ Below w.heap.size w w' := by
  have hz0 : (0 : Int) < (s.size : Int) := by omega
  have hzn : ((s.size : Int) == 0) = false := beq_eq_false_iff_ne.2 (by omega)
  by_cases hd : 2 ≤ s.size
  · have hdz : (2 : Int) ≤ (s.size : Int) := by omega
    go_enter Tryd.func27, Tryd.ntmps27
    go_wp2
    go_ret
    exact ⟨by simp [hd], Below.refl _ _⟩
  have hdz : ¬ (2 : Int) ≤ (s.size : Int) := by omega
  by_cases c1 : 1 < s.size
  · omega
  · have c1z : decide ((1 : Int) < (s.size : Int)) = false := decide_eq_false (by omega)
    have c2 : ¬ 2 < s.size := by omega
    have c2z : decide ((2 : Int) < (s.size : Int)) = false := decide_eq_false (by omega)
    go_enter Tryd.func27, Tryd.ntmps27
    go_wp2
    go_quiet (fail)
    go_wp2
    go_ret
    exact ⟨by simp [hd, c1, c2], by first | exact pw_below_drewN ((Below.refl _ _).alloc (Nat.le_refl _) _) _ | exact (Below.refl _ _).alloc (Nat.le_refl _) _⟩

set_option maxHeartbeats 4000000 in
set_option maxRecDepth 1000000 in
theorem full_19 (s : ByteArray) (w : World) (hp : 0 < s.size) (x0 x1 x2 : UInt8) (hs0 : s[0]'hp = x0) (hx1 : s.get! 1 = x1) (hx2 : s.get! 2 = x2) (l0 : x0.toNat < 256) (l1 : x1.toNat < 256) (l2 : x2.toNat < 256)
    (hc0 : w.cell? ⟨0, x0.toNat, none⟩ = some (.int .u8 19)) (ha : w.cell? ⟨1, 2, none⟩ = some (.int .u8 160)) (hb : w.cell? ⟨1, 3, none⟩ = some (.int .u8 191)) :
    Calls Tryd.prog 27 #[.string s] w fun e w' => e = .returned (.bool (decide (3 ≤ s.size) || (decide (1 < s.size) && (decide (x1.toNat < 160) || decide (191 < x1.toNat))) || (decide (2 < s.size) && (decide (x2.toNat < 128) || decide (191 < x2.toNat))))) ∧ Below w.heap.size w w' := by
  have hz0 : (0 : Int) < (s.size : Int) := by omega
  have hzn : ((s.size : Int) == 0) = false := beq_eq_false_iff_ne.2 (by omega)
  by_cases hd : 3 ≤ s.size
  · have hdz : (3 : Int) ≤ (s.size : Int) := by omega
    go_enter Tryd.func27, Tryd.ntmps27
    go_wp2
    go_ret
    exact ⟨by simp [hd], Below.refl _ _⟩
  have hdz : ¬ (3 : Int) ≤ (s.size : Int) := by omega
  by_cases c1 : 1 < s.size
  · have c1z : decide ((1 : Int) < (s.size : Int)) = true := decide_eq_true (by omega)
    have hs1 : s[1]'(by omega) = x1 := by rw [← hx1]; exact (Utf8W.get!_of_lt s 1 (by omega)).symm
    have q1 : (1 : Int) < (s.size : Int) := by omega
    by_cases k1 : x1.toNat < 160
    · have k1z : decide ((x1.toNat : Int) < 160) = true := decide_eq_true (by omega)
      go_enter Tryd.func27, Tryd.ntmps27
      go_wp2
      go_quiet (fail)
      go_wp2
      go_ret
      exact ⟨by simp [hd, c1, k1], by first | exact pw_below_drewN ((Below.refl _ _).alloc (Nat.le_refl _) _) _ | exact (Below.refl _ _).alloc (Nat.le_refl _) _⟩
    have k1z : decide ((x1.toNat : Int) < 160) = false := decide_eq_false (by omega)
    by_cases k2 : 191 < x1.toNat
    · have k2z : decide (191 < (x1.toNat : Int)) = true := decide_eq_true (by omega)
      go_enter Tryd.func27, Tryd.ntmps27
      go_wp2
      go_quiet (fail)
      go_wp2
      go_ret
      exact ⟨by simp [hd, c1, k1, k2], by first | exact pw_below_drewN ((Below.refl _ _).alloc (Nat.le_refl _) _) _ | exact (Below.refl _ _).alloc (Nat.le_refl _) _⟩
    have k2z : decide (191 < (x1.toNat : Int)) = false := decide_eq_false (by omega)
    by_cases c2 : 2 < s.size
    · omega
    · have c2z : decide ((2 : Int) < (s.size : Int)) = false := decide_eq_false (by omega)
      go_enter Tryd.func27, Tryd.ntmps27
      go_wp2
      go_quiet (fail)
      go_wp2
      go_ret
      exact ⟨by simp [hd, c1, k1, k2, c2], by first | exact pw_below_drewN ((Below.refl _ _).alloc (Nat.le_refl _) _) _ | exact (Below.refl _ _).alloc (Nat.le_refl _) _⟩
  · have c1z : decide ((1 : Int) < (s.size : Int)) = false := decide_eq_false (by omega)
    have c2 : ¬ 2 < s.size := by omega
    have c2z : decide ((2 : Int) < (s.size : Int)) = false := decide_eq_false (by omega)
    go_enter Tryd.func27, Tryd.ntmps27
    go_wp2
    go_quiet (fail)
    go_wp2
    go_ret
    exact ⟨by simp [hd, c1, c2], by first | exact pw_below_drewN ((Below.refl _ _).alloc (Nat.le_refl _) _) _ | exact (Below.refl _ _).alloc (Nat.le_refl _) _⟩

set_option maxHeartbeats 4000000 in
set_option maxRecDepth 1000000 in
theorem full_3 (s : ByteArray) (w : World) (hp : 0 < s.size) (x0 x1 x2 : UInt8) (hs0 : s[0]'hp = x0) (hx1 : s.get! 1 = x1) (hx2 : s.get! 2 = x2) (l0 : x0.toNat < 256) (l1 : x1.toNat < 256) (l2 : x2.toNat < 256)
    (hc0 : w.cell? ⟨0, x0.toNat, none⟩ = some (.int .u8 3)) (ha : w.cell? ⟨1, 0, none⟩ = some (.int .u8 128)) (hb : w.cell? ⟨1, 1, none⟩ = some (.int .u8 191)) :
    Calls Tryd.prog 27 #[.string s] w fun e w' => e = .returned (.bool (decide (3 ≤ s.size) || (decide (1 < s.size) && (decide (x1.toNat < 128) || decide (191 < x1.toNat))) || (decide (2 < s.size) && (decide (x2.toNat < 128) || decide (191 < x2.toNat))))) ∧ Below w.heap.size w w' := by
  have hz0 : (0 : Int) < (s.size : Int) := by omega
  have hzn : ((s.size : Int) == 0) = false := beq_eq_false_iff_ne.2 (by omega)
  by_cases hd : 3 ≤ s.size
  · have hdz : (3 : Int) ≤ (s.size : Int) := by omega
    go_enter Tryd.func27, Tryd.ntmps27
    go_wp2
    go_ret
    exact ⟨by simp [hd], Below.refl _ _⟩
  have hdz : ¬ (3 : Int) ≤ (s.size : Int) := by omega
  by_cases c1 : 1 < s.size
  · have c1z : decide ((1 : Int) < (s.size : Int)) = true := decide_eq_true (by omega)
    have hs1 : s[1]'(by omega) = x1 := by rw [← hx1]; exact (Utf8W.get!_of_lt s 1 (by omega)).symm
    have q1 : (1 : Int) < (s.size : Int) := by omega
    by_cases k1 : x1.toNat < 128
    · have k1z : decide ((x1.toNat : Int) < 128) = true := decide_eq_true (by omega)
      go_enter Tryd.func27, Tryd.ntmps27
      go_wp2
      go_quiet (fail)
      go_wp2
      go_ret
      exact ⟨by simp [hd, c1, k1], by first | exact pw_below_drewN ((Below.refl _ _).alloc (Nat.le_refl _) _) _ | exact (Below.refl _ _).alloc (Nat.le_refl _) _⟩
    have k1z : decide ((x1.toNat : Int) < 128) = false := decide_eq_false (by omega)
    by_cases k2 : 191 < x1.toNat
    · have k2z : decide (191 < (x1.toNat : Int)) = true := decide_eq_true (by omega)
      go_enter Tryd.func27, Tryd.ntmps27
      go_wp2
      go_quiet (fail)
      go_wp2
      go_ret
      exact ⟨by simp [hd, c1, k1, k2], by first | exact pw_below_drewN ((Below.refl _ _).alloc (Nat.le_refl _) _) _ | exact (Below.refl _ _).alloc (Nat.le_refl _) _⟩
    have k2z : decide (191 < (x1.toNat : Int)) = false := decide_eq_false (by omega)
    by_cases c2 : 2 < s.size
    · omega
    · have c2z : decide ((2 : Int) < (s.size : Int)) = false := decide_eq_false (by omega)
      go_enter Tryd.func27, Tryd.ntmps27
      go_wp2
      go_quiet (fail)
      go_wp2
      go_ret
      exact ⟨by simp [hd, c1, k1, k2, c2], by first | exact pw_below_drewN ((Below.refl _ _).alloc (Nat.le_refl _) _) _ | exact (Below.refl _ _).alloc (Nat.le_refl _) _⟩
  · have c1z : decide ((1 : Int) < (s.size : Int)) = false := decide_eq_false (by omega)
    have c2 : ¬ 2 < s.size := by omega
    have c2z : decide ((2 : Int) < (s.size : Int)) = false := decide_eq_false (by omega)
    go_enter Tryd.func27, Tryd.ntmps27
    go_wp2
    go_quiet (fail)
    go_wp2
    go_ret
    exact ⟨by simp [hd, c1, c2], by first | exact pw_below_drewN ((Below.refl _ _).alloc (Nat.le_refl _) _) _ | exact (Below.refl _ _).alloc (Nat.le_refl _) _⟩

set_option maxHeartbeats 4000000 in
set_option maxRecDepth 1000000 in
theorem full_35 (s : ByteArray) (w : World) (hp : 0 < s.size) (x0 x1 x2 : UInt8) (hs0 : s[0]'hp = x0) (hx1 : s.get! 1 = x1) (hx2 : s.get! 2 = x2) (l0 : x0.toNat < 256) (l1 : x1.toNat < 256) (l2 : x2.toNat < 256)
    (hc0 : w.cell? ⟨0, x0.toNat, none⟩ = some (.int .u8 35)) (ha : w.cell? ⟨1, 4, none⟩ = some (.int .u8 128)) (hb : w.cell? ⟨1, 5, none⟩ = some (.int .u8 159)) :
    Calls Tryd.prog 27 #[.string s] w fun e w' => e = .returned (.bool (decide (3 ≤ s.size) || (decide (1 < s.size) && (decide (x1.toNat < 128) || decide (159 < x1.toNat))) || (decide (2 < s.size) && (decide (x2.toNat < 128) || decide (191 < x2.toNat))))) ∧ Below w.heap.size w w' := by
  have hz0 : (0 : Int) < (s.size : Int) := by omega
  have hzn : ((s.size : Int) == 0) = false := beq_eq_false_iff_ne.2 (by omega)
  by_cases hd : 3 ≤ s.size
  · have hdz : (3 : Int) ≤ (s.size : Int) := by omega
    go_enter Tryd.func27, Tryd.ntmps27
    go_wp2
    go_ret
    exact ⟨by simp [hd], Below.refl _ _⟩
  have hdz : ¬ (3 : Int) ≤ (s.size : Int) := by omega
  by_cases c1 : 1 < s.size
  · have c1z : decide ((1 : Int) < (s.size : Int)) = true := decide_eq_true (by omega)
    have hs1 : s[1]'(by omega) = x1 := by rw [← hx1]; exact (Utf8W.get!_of_lt s 1 (by omega)).symm
    have q1 : (1 : Int) < (s.size : Int) := by omega
    by_cases k1 : x1.toNat < 128
    · have k1z : decide ((x1.toNat : Int) < 128) = true := decide_eq_true (by omega)
      go_enter Tryd.func27, Tryd.ntmps27
      go_wp2
      go_quiet (fail)
      go_wp2
      go_ret
      exact ⟨by simp [hd, c1, k1], by first | exact pw_below_drewN ((Below.refl _ _).alloc (Nat.le_refl _) _) _ | exact (Below.refl _ _).alloc (Nat.le_refl _) _⟩
    have k1z : decide ((x1.toNat : Int) < 128) = false := decide_eq_false (by omega)
    by_cases k2 : 159 < x1.toNat
    · have k2z : decide (159 < (x1.toNat : Int)) = true := decide_eq_true (by omega)
      go_enter Tryd.func27, Tryd.ntmps27
      go_wp2
      go_quiet (fail)
      go_wp2
      go_ret
      exact ⟨by simp [hd, c1, k1, k2], by first | exact pw_below_drewN ((Below.refl _ _).alloc (Nat.le_refl _) _) _ | exact (Below.refl _ _).alloc (Nat.le_refl _) _⟩
    have k2z : decide (159 < (x1.toNat : Int)) = false := decide_eq_false (by omega)
    by_cases c2 : 2 < s.size
    · omega
    · have c2z : decide ((2 : Int) < (s.size : Int)) = false := decide_eq_false (by omega)
      go_enter Tryd.func27, Tryd.ntmps27
      go_wp2
      go_quiet (fail)
      go_wp2
      go_ret
      exact ⟨by simp [hd, c1, k1, k2, c2], by first | exact pw_below_drewN ((Below.refl _ _).alloc (Nat.le_refl _) _) _ | exact (Below.refl _ _).alloc (Nat.le_refl _) _⟩
  · have c1z : decide ((1 : Int) < (s.size : Int)) = false := decide_eq_false (by omega)
    have c2 : ¬ 2 < s.size := by omega
    have c2z : decide ((2 : Int) < (s.size : Int)) = false := decide_eq_false (by omega)
    go_enter Tryd.func27, Tryd.ntmps27
    go_wp2
    go_quiet (fail)
    go_wp2
    go_ret
    exact ⟨by simp [hd, c1, c2], by first | exact pw_below_drewN ((Below.refl _ _).alloc (Nat.le_refl _) _) _ | exact (Below.refl _ _).alloc (Nat.le_refl _) _⟩

set_option maxHeartbeats 4000000 in
set_option maxRecDepth 1000000 in
theorem full_52 (s : ByteArray) (w : World) (hp : 0 < s.size) (x0 x1 x2 : UInt8) (hs0 : s[0]'hp = x0) (hx1 : s.get! 1 = x1) (hx2 : s.get! 2 = x2) (l0 : x0.toNat < 256) (l1 : x1.toNat < 256) (l2 : x2.toNat < 256)
    (hc0 : w.cell? ⟨0, x0.toNat, none⟩ = some (.int .u8 52)) (ha : w.cell? ⟨1, 6, none⟩ = some (.int .u8 144)) (hb : w.cell? ⟨1, 7, none⟩ = some (.int .u8 191)) :
    Calls Tryd.prog 27 #[.string s] w fun e w' => e = .returned (.bool (decide (4 ≤ s.size) || (decide (1 < s.size) && (decide (x1.toNat < 144) || decide (191 < x1.toNat))) || (decide (2 < s.size) && (decide (x2.toNat < 128) || decide (191 < x2.toNat))))) ∧ Below w.heap.size w w' := by
  have hz0 : (0 : Int) < (s.size : Int) := by omega
  have hzn : ((s.size : Int) == 0) = false := beq_eq_false_iff_ne.2 (by omega)
  by_cases hd : 4 ≤ s.size
  · have hdz : (4 : Int) ≤ (s.size : Int) := by omega
    go_enter Tryd.func27, Tryd.ntmps27
    go_wp2
    go_ret
    exact ⟨by simp [hd], Below.refl _ _⟩
  have hdz : ¬ (4 : Int) ≤ (s.size : Int) := by omega
  by_cases c1 : 1 < s.size
  · have c1z : decide ((1 : Int) < (s.size : Int)) = true := decide_eq_true (by omega)
    have hs1 : s[1]'(by omega) = x1 := by rw [← hx1]; exact (Utf8W.get!_of_lt s 1 (by omega)).symm
    have q1 : (1 : Int) < (s.size : Int) := by omega
    by_cases k1 : x1.toNat < 144
    · have k1z : decide ((x1.toNat : Int) < 144) = true := decide_eq_true (by omega)
      go_enter Tryd.func27, Tryd.ntmps27
      go_wp2
      go_quiet (fail)
      go_wp2
      go_ret
      exact ⟨by simp [hd, c1, k1], by first | exact pw_below_drewN ((Below.refl _ _).alloc (Nat.le_refl _) _) _ | exact (Below.refl _ _).alloc (Nat.le_refl _) _⟩
    have k1z : decide ((x1.toNat : Int) < 144) = false := decide_eq_false (by omega)
    by_cases k2 : 191 < x1.toNat
    · have k2z : decide (191 < (x1.toNat : Int)) = true := decide_eq_true (by omega)
      go_enter Tryd.func27, Tryd.ntmps27
      go_wp2
      go_quiet (fail)
      go_wp2
      go_ret
      exact ⟨by simp [hd, c1, k1, k2], by first | exact pw_below_drewN ((Below.refl _ _).alloc (Nat.le_refl _) _) _ | exact (Below.refl _ _).alloc (Nat.le_refl _) _⟩
    have k2z : decide (191 < (x1.toNat : Int)) = false := decide_eq_false (by omega)
    by_cases c2 : 2 < s.size
    · have q2 : (2 : Int) < (s.size : Int) := by omega
      have c2z : decide ((2 : Int) < (s.size : Int)) = true := decide_eq_true (by omega)
      have hs2 : s[2]'(by omega) = x2 := by rw [← hx2]; exact (Utf8W.get!_of_lt s 2 (by omega)).symm
      by_cases k3 : x2.toNat < 128
      · have k3z : decide ((x2.toNat : Int) < 128) = true := decide_eq_true (by omega)
        go_enter Tryd.func27, Tryd.ntmps27
        go_wp2
        go_quiet (fail)
        go_wp2
        go_ret
        exact ⟨by simp [hd, c1, k1, k2, c2, k3], by first | exact pw_below_drewN ((Below.refl _ _).alloc (Nat.le_refl _) _) _ | exact (Below.refl _ _).alloc (Nat.le_refl _) _⟩
      have k3z : decide ((x2.toNat : Int) < 128) = false := decide_eq_false (by omega)
      by_cases k4 : 191 < x2.toNat
      · have k4z : decide (191 < (x2.toNat : Int)) = true := decide_eq_true (by omega)
        go_enter Tryd.func27, Tryd.ntmps27
        go_wp2
        go_quiet (fail)
        go_wp2
        go_ret
        exact ⟨by simp [hd, c1, k1, k2, c2, k3, k4], by first | exact pw_below_drewN ((Below.refl _ _).alloc (Nat.le_refl _) _) _ | exact (Below.refl _ _).alloc (Nat.le_refl _) _⟩
      · have k4z : decide (191 < (x2.toNat : Int)) = false := decide_eq_false (by omega)
        go_enter Tryd.func27, Tryd.ntmps27
        go_wp2
        go_quiet (fail)
        go_wp2
        go_ret
        exact ⟨by simp [hd, c1, k1, k2, c2, k3, k4], by first | exact pw_below_drewN ((Below.refl _ _).alloc (Nat.le_refl _) _) _ | exact (Below.refl _ _).alloc (Nat.le_refl _) _⟩
    · have c2z : decide ((2 : Int) < (s.size : Int)) = false := decide_eq_false (by omega)
      go_enter Tryd.func27, Tryd.ntmps27
      go_wp2
      go_quiet (fail)
      go_wp2
      go_ret
      exact ⟨by simp [hd, c1, k1, k2, c2], by first | exact pw_below_drewN ((Below.refl _ _).alloc (Nat.le_refl _) _) _ | exact (Below.refl _ _).alloc (Nat.le_refl _) _⟩
  · have c1z : decide ((1 : Int) < (s.size : Int)) = false := decide_eq_false (by omega)
    have c2 : ¬ 2 < s.size := by omega
    have c2z : decide ((2 : Int) < (s.size : Int)) = false := decide_eq_false (by omega)
    go_enter Tryd.func27, Tryd.ntmps27
    go_wp2
    go_quiet (fail)
    go_wp2
    go_ret
    exact ⟨by simp [hd, c1, c2], by first | exact pw_below_drewN ((Below.refl _ _).alloc (Nat.le_refl _) _) _ | exact (Below.refl _ _).alloc (Nat.le_refl _) _⟩

set_option maxHeartbeats 4000000 in
set_option maxRecDepth 1000000 in
theorem full_4 (s : ByteArray) (w : World) (hp : 0 < s.size) (x0 x1 x2 : UInt8) (hs0 : s[0]'hp = x0) (hx1 : s.get! 1 = x1) (hx2 : s.get! 2 = x2) (l0 : x0.toNat < 256) (l1 : x1.toNat < 256) (l2 : x2.toNat < 256)
    (hc0 : w.cell? ⟨0, x0.toNat, none⟩ = some (.int .u8 4)) (ha : w.cell? ⟨1, 0, none⟩ = some (.int .u8 128)) (hb : w.cell? ⟨1, 1, none⟩ = some (.int .u8 191)) :
    Calls Tryd.prog 27 #[.string s] w fun e w' => e = .returned (.bool (decide (4 ≤ s.size) || (decide (1 < s.size) && (decide (x1.toNat < 128) || decide (191 < x1.toNat))) || (decide (2 < s.size) && (decide (x2.toNat < 128) || decide (191 < x2.toNat))))) ∧ Below w.heap.size w w' := by
  have hz0 : (0 : Int) < (s.size : Int) := by omega
  have hzn : ((s.size : Int) == 0) = false := beq_eq_false_iff_ne.2 (by omega)
  by_cases hd : 4 ≤ s.size
  · have hdz : (4 : Int) ≤ (s.size : Int) := by omega
    go_enter Tryd.func27, Tryd.ntmps27
    go_wp2
    go_ret
    exact ⟨by simp [hd], Below.refl _ _⟩
  have hdz : ¬ (4 : Int) ≤ (s.size : Int) := by omega
  by_cases c1 : 1 < s.size
  · have c1z : decide ((1 : Int) < (s.size : Int)) = true := decide_eq_true (by omega)
    have hs1 : s[1]'(by omega) = x1 := by rw [← hx1]; exact (Utf8W.get!_of_lt s 1 (by omega)).symm
    have q1 : (1 : Int) < (s.size : Int) := by omega
    by_cases k1 : x1.toNat < 128
    · have k1z : decide ((x1.toNat : Int) < 128) = true := decide_eq_true (by omega)
      go_enter Tryd.func27, Tryd.ntmps27
      go_wp2
      go_quiet (fail)
      go_wp2
      go_ret
      exact ⟨by simp [hd, c1, k1], by first | exact pw_below_drewN ((Below.refl _ _).alloc (Nat.le_refl _) _) _ | exact (Below.refl _ _).alloc (Nat.le_refl _) _⟩
    have k1z : decide ((x1.toNat : Int) < 128) = false := decide_eq_false (by omega)
    by_cases k2 : 191 < x1.toNat
    · have k2z : decide (191 < (x1.toNat : Int)) = true := decide_eq_true (by omega)
      go_enter Tryd.func27, Tryd.ntmps27
      go_wp2
      go_quiet (fail)
      go_wp2
      go_ret
      exact ⟨by simp [hd, c1, k1, k2], by first | exact pw_below_drewN ((Below.refl _ _).alloc (Nat.le_refl _) _) _ | exact (Below.refl _ _).alloc (Nat.le_refl _) _⟩
    have k2z : decide (191 < (x1.toNat : Int)) = false := decide_eq_false (by omega)
    by_cases c2 : 2 < s.size
    · have q2 : (2 : Int) < (s.size : Int) := by omega
      have c2z : decide ((2 : Int) < (s.size : Int)) = true := decide_eq_true (by omega)
      have hs2 : s[2]'(by omega) = x2 := by rw [← hx2]; exact (Utf8W.get!_of_lt s 2 (by omega)).symm
      by_cases k3 : x2.toNat < 128
      · have k3z : decide ((x2.toNat : Int) < 128) = true := decide_eq_true (by omega)
        go_enter Tryd.func27, Tryd.ntmps27
        go_wp2
        go_quiet (fail)
        go_wp2
        go_ret
        exact ⟨by simp [hd, c1, k1, k2, c2, k3], by first | exact pw_below_drewN ((Below.refl _ _).alloc (Nat.le_refl _) _) _ | exact (Below.refl _ _).alloc (Nat.le_refl _) _⟩
      have k3z : decide ((x2.toNat : Int) < 128) = false := decide_eq_false (by omega)
      by_cases k4 : 191 < x2.toNat
      · have k4z : decide (191 < (x2.toNat : Int)) = true := decide_eq_true (by omega)
        go_enter Tryd.func27, Tryd.ntmps27
        go_wp2
        go_quiet (fail)
        go_wp2
        go_ret
        exact ⟨by simp [hd, c1, k1, k2, c2, k3, k4], by first | exact pw_below_drewN ((Below.refl _ _).alloc (Nat.le_refl _) _) _ | exact (Below.refl _ _).alloc (Nat.le_refl _) _⟩
      · have k4z : decide (191 < (x2.toNat : Int)) = false := decide_eq_false (by omega)
        go_enter Tryd.func27, Tryd.ntmps27
        go_wp2
        go_quiet (fail)
        go_wp2
        go_ret
        exact ⟨by simp [hd, c1, k1, k2, c2, k3, k4], by first | exact pw_below_drewN ((Below.refl _ _).alloc (Nat.le_refl _) _) _ | exact (Below.refl _ _).alloc (Nat.le_refl _) _⟩
    · have c2z : decide ((2 : Int) < (s.size : Int)) = false := decide_eq_false (by omega)
      go_enter Tryd.func27, Tryd.ntmps27
      go_wp2
      go_quiet (fail)
      go_wp2
      go_ret
      exact ⟨by simp [hd, c1, k1, k2, c2], by first | exact pw_below_drewN ((Below.refl _ _).alloc (Nat.le_refl _) _) _ | exact (Below.refl _ _).alloc (Nat.le_refl _) _⟩
  · have c1z : decide ((1 : Int) < (s.size : Int)) = false := decide_eq_false (by omega)
    have c2 : ¬ 2 < s.size := by omega
    have c2z : decide ((2 : Int) < (s.size : Int)) = false := decide_eq_false (by omega)
    go_enter Tryd.func27, Tryd.ntmps27
    go_wp2
    go_quiet (fail)
    go_wp2
    go_ret
    exact ⟨by simp [hd, c1, c2], by first | exact pw_below_drewN ((Below.refl _ _).alloc (Nat.le_refl _) _) _ | exact (Below.refl _ _).alloc (Nat.le_refl _) _⟩

set_option maxHeartbeats 4000000 in
set_option maxRecDepth 1000000 in
theorem full_68 (s : ByteArray) (w : World) (hp : 0 < s.size) (x0 x1 x2 : UInt8) (hs0 : s[0]'hp = x0) (hx1 : s.get! 1 = x1) (hx2 : s.get! 2 = x2) (l0 : x0.toNat < 256) (l1 : x1.toNat < 256) (l2 : x2.toNat < 256)
    (hc0 : w.cell? ⟨0, x0.toNat, none⟩ = some (.int .u8 68)) (ha : w.cell? ⟨1, 8, none⟩ = some (.int .u8 128)) (hb : w.cell? ⟨1, 9, none⟩ = some (.int .u8 143)) :
    Calls Tryd.prog 27 #[.string s] w fun e w' => e = .returned (.bool (decide (4 ≤ s.size) || (decide (1 < s.size) && (decide (x1.toNat < 128) || decide (143 < x1.toNat))) || (decide (2 < s.size) && (decide (x2.toNat < 128) || decide (191 < x2.toNat))))) ∧ Below w.heap.size w w' := by
  have hz0 : (0 : Int) < (s.size : Int) := by omega
  have hzn : ((s.size : Int) == 0) = false := beq_eq_false_iff_ne.2 (by omega)
  by_cases hd : 4 ≤ s.size
  · have hdz : (4 : Int) ≤ (s.size : Int) := by omega
    go_enter Tryd.func27, Tryd.ntmps27
    go_wp2
    go_ret
    exact ⟨by simp [hd], Below.refl _ _⟩
  have hdz : ¬ (4 : Int) ≤ (s.size : Int) := by omega
  by_cases c1 : 1 < s.size
  · have c1z : decide ((1 : Int) < (s.size : Int)) = true := decide_eq_true (by omega)
    have hs1 : s[1]'(by omega) = x1 := by rw [← hx1]; exact (Utf8W.get!_of_lt s 1 (by omega)).symm
    have q1 : (1 : Int) < (s.size : Int) := by omega
    by_cases k1 : x1.toNat < 128
    · have k1z : decide ((x1.toNat : Int) < 128) = true := decide_eq_true (by omega)
      go_enter Tryd.func27, Tryd.ntmps27
      go_wp2
      go_quiet (fail)
      go_wp2
      go_ret
      exact ⟨by simp [hd, c1, k1], by first | exact pw_below_drewN ((Below.refl _ _).alloc (Nat.le_refl _) _) _ | exact (Below.refl _ _).alloc (Nat.le_refl _) _⟩
    have k1z : decide ((x1.toNat : Int) < 128) = false := decide_eq_false (by omega)
    by_cases k2 : 143 < x1.toNat
    · have k2z : decide (143 < (x1.toNat : Int)) = true := decide_eq_true (by omega)
      go_enter Tryd.func27, Tryd.ntmps27
      go_wp2
      go_quiet (fail)
      go_wp2
      go_ret
      exact ⟨by simp [hd, c1, k1, k2], by first | exact pw_below_drewN ((Below.refl _ _).alloc (Nat.le_refl _) _) _ | exact (Below.refl _ _).alloc (Nat.le_refl _) _⟩
    have k2z : decide (143 < (x1.toNat : Int)) = false := decide_eq_false (by omega)
    by_cases c2 : 2 < s.size
    · have q2 : (2 : Int) < (s.size : Int) := by omega
      have c2z : decide ((2 : Int) < (s.size : Int)) = true := decide_eq_true (by omega)
      have hs2 : s[2]'(by omega) = x2 := by rw [← hx2]; exact (Utf8W.get!_of_lt s 2 (by omega)).symm
      by_cases k3 : x2.toNat < 128
      · have k3z : decide ((x2.toNat : Int) < 128) = true := decide_eq_true (by omega)
        go_enter Tryd.func27, Tryd.ntmps27
        go_wp2
        go_quiet (fail)
        go_wp2
        go_ret
        exact ⟨by simp [hd, c1, k1, k2, c2, k3], by first | exact pw_below_drewN ((Below.refl _ _).alloc (Nat.le_refl _) _) _ | exact (Below.refl _ _).alloc (Nat.le_refl _) _⟩
      have k3z : decide ((x2.toNat : Int) < 128) = false := decide_eq_false (by omega)
      by_cases k4 : 191 < x2.toNat
      · have k4z : decide (191 < (x2.toNat : Int)) = true := decide_eq_true (by omega)
        go_enter Tryd.func27, Tryd.ntmps27
        go_wp2
        go_quiet (fail)
        go_wp2
        go_ret
        exact ⟨by simp [hd, c1, k1, k2, c2, k3, k4], by first | exact pw_below_drewN ((Below.refl _ _).alloc (Nat.le_refl _) _) _ | exact (Below.refl _ _).alloc (Nat.le_refl _) _⟩
      · have k4z : decide (191 < (x2.toNat : Int)) = false := decide_eq_false (by omega)
        go_enter Tryd.func27, Tryd.ntmps27
        go_wp2
        go_quiet (fail)
        go_wp2
        go_ret
        exact ⟨by simp [hd, c1, k1, k2, c2, k3, k4], by first | exact pw_below_drewN ((Below.refl _ _).alloc (Nat.le_refl _) _) _ | exact (Below.refl _ _).alloc (Nat.le_refl _) _⟩
    · have c2z : decide ((2 : Int) < (s.size : Int)) = false := decide_eq_false (by omega)
      go_enter Tryd.func27, Tryd.ntmps27
      go_wp2
      go_quiet (fail)
      go_wp2
      go_ret
      exact ⟨by simp [hd, c1, k1, k2, c2], by first | exact pw_below_drewN ((Below.refl _ _).alloc (Nat.le_refl _) _) _ | exact (Below.refl _ _).alloc (Nat.le_refl _) _⟩
  · have c1z : decide ((1 : Int) < (s.size : Int)) = false := decide_eq_false (by omega)
    have c2 : ¬ 2 < s.size := by omega
    have c2z : decide ((2 : Int) < (s.size : Int)) = false := decide_eq_false (by omega)
    go_enter Tryd.func27, Tryd.ntmps27
    go_wp2
    go_quiet (fail)
    go_wp2
    go_ret
    exact ⟨by simp [hd, c1, c2], by first | exact pw_below_drewN ((Below.refl _ _).alloc (Nat.le_refl _) _) _ | exact (Below.refl _ _).alloc (Nat.le_refl _) _⟩

theorem beg_2 (n b0 b1 b2 : Nat) (hn : 0 < n) (h : firstT b0 = 2) : (!Pl.begF n b0 b1 b2) = (decide (2 ≤ n) || (decide (1 < n) && (decide (b1 < 128) || decide (191 < b1))) || (decide (2 < n) && (decide (b2 < 128) || decide (191 < b2)))) := by
  have hb := Lib.firstT_low (b := b0) (by omega)
  unfold firstT at h
  unfold Pl.begF Pl.begS
  rw [Bool.eq_iff_iff]
  repeat' split at h
  all_goals first
    | (exfalso; omega)
    | (repeat' split
       all_goals first
         | (exfalso; omega)
         | (simp only [Bool.not_eq_true', Bool.or_eq_true, Bool.and_eq_true, decide_eq_true_eq, Bool.or_eq_false_iff, Bool.and_eq_false_iff, decide_eq_false_iff_not]; omega))
theorem beg_19 (n b0 b1 b2 : Nat) (hn : 0 < n) (h : firstT b0 = 19) : (!Pl.begF n b0 b1 b2) = (decide (3 ≤ n) || (decide (1 < n) && (decide (b1 < 160) || decide (191 < b1))) || (decide (2 < n) && (decide (b2 < 128) || decide (191 < b2)))) := by
  have hb := Lib.firstT_low (b := b0) (by omega)
  unfold firstT at h
  unfold Pl.begF Pl.begS
  rw [Bool.eq_iff_iff]
  repeat' split at h
  all_goals first
    | (exfalso; omega)
    | (repeat' split
       all_goals first
         | (exfalso; omega)
         | (simp only [Bool.not_eq_true', Bool.or_eq_true, Bool.and_eq_true, decide_eq_true_eq, Bool.or_eq_false_iff, Bool.and_eq_false_iff, decide_eq_false_iff_not]; omega))
theorem beg_3 (n b0 b1 b2 : Nat) (hn : 0 < n) (h : firstT b0 = 3) : (!Pl.begF n b0 b1 b2) = (decide (3 ≤ n) || (decide (1 < n) && (decide (b1 < 128) || decide (191 < b1))) || (decide (2 < n) && (decide (b2 < 128) || decide (191 < b2)))) := by
  have hb := Lib.firstT_low (b := b0) (by omega)
  unfold firstT at h
  unfold Pl.begF Pl.begS
  rw [Bool.eq_iff_iff]
  repeat' split at h
  all_goals first
    | (exfalso; omega)
    | (repeat' split
       all_goals first
         | (exfalso; omega)
         | (simp only [Bool.not_eq_true', Bool.or_eq_true, Bool.and_eq_true, decide_eq_true_eq, Bool.or_eq_false_iff, Bool.and_eq_false_iff, decide_eq_false_iff_not]; omega))
theorem beg_35 (n b0 b1 b2 : Nat) (hn : 0 < n) (h : firstT b0 = 35) : (!Pl.begF n b0 b1 b2) = (decide (3 ≤ n) || (decide (1 < n) && (decide (b1 < 128) || decide (159 < b1))) || (decide (2 < n) && (decide (b2 < 128) || decide (191 < b2)))) := by
  have hb := Lib.firstT_low (b := b0) (by omega)
  unfold firstT at h
  unfold Pl.begF Pl.begS
  rw [Bool.eq_iff_iff]
  repeat' split at h
  all_goals first
    | (exfalso; omega)
    | (repeat' split
       all_goals first
         | (exfalso; omega)
         | (simp only [Bool.not_eq_true', Bool.or_eq_true, Bool.and_eq_true, decide_eq_true_eq, Bool.or_eq_false_iff, Bool.and_eq_false_iff, decide_eq_false_iff_not]; omega))
theorem beg_52 (n b0 b1 b2 : Nat) (hn : 0 < n) (h : firstT b0 = 52) : (!Pl.begF n b0 b1 b2) = (decide (4 ≤ n) || (decide (1 < n) && (decide (b1 < 144) || decide (191 < b1))) || (decide (2 < n) && (decide (b2 < 128) || decide (191 < b2)))) := by
  have hb := Lib.firstT_low (b := b0) (by omega)
  unfold firstT at h
  unfold Pl.begF Pl.begS
  rw [Bool.eq_iff_iff]
  repeat' split at h
  all_goals first
    | (exfalso; omega)
    | (repeat' split
       all_goals first
         | (exfalso; omega)
         | (simp only [Bool.not_eq_true', Bool.or_eq_true, Bool.and_eq_true, decide_eq_true_eq, Bool.or_eq_false_iff, Bool.and_eq_false_iff, decide_eq_false_iff_not]; omega))
theorem beg_4 (n b0 b1 b2 : Nat) (hn : 0 < n) (h : firstT b0 = 4) : (!Pl.begF n b0 b1 b2) = (decide (4 ≤ n) || (decide (1 < n) && (decide (b1 < 128) || decide (191 < b1))) || (decide (2 < n) && (decide (b2 < 128) || decide (191 < b2)))) := by
  have hb := Lib.firstT_low (b := b0) (by omega)
  unfold firstT at h
  unfold Pl.begF Pl.begS
  rw [Bool.eq_iff_iff]
  repeat' split at h
  all_goals first
    | (exfalso; omega)
    | (repeat' split
       all_goals first
         | (exfalso; omega)
         | (simp only [Bool.not_eq_true', Bool.or_eq_true, Bool.and_eq_true, decide_eq_true_eq, Bool.or_eq_false_iff, Bool.and_eq_false_iff, decide_eq_false_iff_not]; omega))
theorem beg_68 (n b0 b1 b2 : Nat) (hn : 0 < n) (h : firstT b0 = 68) : (!Pl.begF n b0 b1 b2) = (decide (4 ≤ n) || (decide (1 < n) && (decide (b1 < 128) || decide (143 < b1))) || (decide (2 < n) && (decide (b2 < 128) || decide (191 < b2)))) := by
  have hb := Lib.firstT_low (b := b0) (by omega)
  unfold firstT at h
  unfold Pl.begF Pl.begS
  rw [Bool.eq_iff_iff]
  repeat' split at h
  all_goals first
    | (exfalso; omega)
    | (repeat' split
       all_goals first
         | (exfalso; omega)
         | (simp only [Bool.not_eq_true', Bool.or_eq_true, Bool.and_eq_true, decide_eq_true_eq, Bool.or_eq_false_iff, Bool.and_eq_false_iff, decide_eq_false_iff_not]; omega))
theorem lead_none (b : Nat) (h : firstT b = 240 ∨ firstT b = 241) : b < 194 ∨ 244 < b := by
  apply Decidable.byContradiction
  intro hn
  unfold firstT at h
  repeat' split at h
  all_goals omega
theorem beg_none (n b0 b1 b2 : Nat) (h : b0 < 194 ∨ 244 < b0) : (!Pl.begF n b0 b1 b2) = true := by
  unfold Pl.begF; rw [if_pos h]; rfl
set_option maxHeartbeats 4000000 in
set_option maxRecDepth 1000000 in
theorem full_any (s : ByteArray) (w : World) (hT : Lib.Utf8Tabs 0 1 w) (hp : 0 < s.size) :
    Calls Tryd.prog 27 #[.string s] w fun e w' => e = .returned (.bool (!Pl.begF s.size (s.get! 0).toNat (s.get! 1).toNat (s.get! 2).toNat)) ∧ Below w.heap.size w w' := by
  obtain ⟨x0, hx0⟩ : ∃ x0, s.get! 0 = x0 := ⟨_, rfl⟩
  obtain ⟨x1, hx1⟩ : ∃ x1, s.get! 1 = x1 := ⟨_, rfl⟩
  obtain ⟨x2, hx2⟩ : ∃ x2, s.get! 2 = x2 := ⟨_, rfl⟩
  have hs0 : s[0]'hp = x0 := by rw [← hx0]; exact (Utf8W.get!_of_lt s 0 (by omega)).symm
  have l0 := x0.toNat_lt; have l1 := x1.toNat_lt; have l2 := x2.toNat_lt
  rw [hx0, hx1, hx2]
  have hc0 := hT.1 x0.toNat (by omega)
  rcases Lib.firstT_cases x0.toNat with hX | hX | hX | hX | hX | hX | hX | hX | hX
  · rw [hX] at hc0
    rw [beg_none _ _ _ _ (lead_none _ (by omega))]
    exact full_alone s w 240 hp x0 hs0 (by omega) hc0 0 (by omega) (by decide)
  · rw [hX] at hc0
    rw [beg_none _ _ _ _ (lead_none _ (by omega))]
    exact full_alone s w 241 hp x0 hs0 (by omega) hc0 1 (by omega) (by decide)
  · rw [hX] at hc0
    rw [beg_2 _ _ _ _ hp hX]
    exact full_2 s w hp x0 x1 x2 hs0 hx1 hx2 (by omega) (by omega) (by omega) hc0 (hT.2 0 (by omega)).1 (hT.2 0 (by omega)).2
  · rw [hX] at hc0
    rw [beg_19 _ _ _ _ hp hX]
    exact full_19 s w hp x0 x1 x2 hs0 hx1 hx2 (by omega) (by omega) (by omega) hc0 (hT.2 1 (by omega)).1 (hT.2 1 (by omega)).2
  · rw [hX] at hc0
    rw [beg_3 _ _ _ _ hp hX]
    exact full_3 s w hp x0 x1 x2 hs0 hx1 hx2 (by omega) (by omega) (by omega) hc0 (hT.2 0 (by omega)).1 (hT.2 0 (by omega)).2
  · rw [hX] at hc0
    rw [beg_35 _ _ _ _ hp hX]
    exact full_35 s w hp x0 x1 x2 hs0 hx1 hx2 (by omega) (by omega) (by omega) hc0 (hT.2 2 (by omega)).1 (hT.2 2 (by omega)).2
  · rw [hX] at hc0
    rw [beg_52 _ _ _ _ hp hX]
    exact full_52 s w hp x0 x1 x2 hs0 hx1 hx2 (by omega) (by omega) (by omega) hc0 (hT.2 3 (by omega)).1 (hT.2 3 (by omega)).2
  · rw [hX] at hc0
    rw [beg_4 _ _ _ _ hp hX]
    exact full_4 s w hp x0 x1 x2 hs0 hx1 hx2 (by omega) (by omega) (by omega) hc0 (hT.2 0 (by omega)).1 (hT.2 0 (by omega)).2
  · rw [hX] at hc0
    rw [beg_68 _ _ _ _ hp hX]
    exact full_68 s w hp x0 x1 x2 hs0 hx1 hx2 (by omega) (by omega) (by omega) hc0 (hT.2 4 (by omega)).1 (hT.2 4 (by omega)).2
end Go.Proofs.YtimfabbielphbaaDoor
