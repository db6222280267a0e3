/- FbitsRound's walk, as its row calls it. -/
import Derived.Test.YtocmmdheegkbaaaDoorLb
namespace Go.Proofs.YtocmmdheegkbaaaDoor
open Go.RowKit
set_option linter.unusedVariables false
set_option linter.unusedSimpArgs false
theorem wf_u64 {r : Int} (h : (Lit.int .u64 r).wf = true) : ∃ n : Nat, r = (n : Int) ∧ n < 18446744073709551616 := by
  simp [Lit.wf, IntKind.min, IntKind.max, IntKind.signed, IntKind.bits] at h
  exact ⟨r.toNat, by omega, by omega⟩
theorem wf_u32 {r : Int} (h : (Lit.int .u32 r).wf = true) : ∃ n : Nat, r = (n : Int) ∧ n < 4294967296 := by
  simp [Lit.wf, IntKind.min, IntKind.max, IntKind.signed, IntKind.bits] at h
  exact ⟨r.toNat, by omega, by omega⟩
theorem wf_u16 {r : Int} (h : (Lit.int .u16 r).wf = true) : ∃ n : Nat, r = (n : Int) ∧ n < 65536 := by
  simp [Lit.wf, IntKind.min, IntKind.max, IntKind.signed, IntKind.bits] at h
  exact ⟨r.toNat, by omega, by omega⟩
theorem round_walk (w : World) (hT : Laid w) (b : Int) (hb : (Lit.int .u64 b).wf = true) (h : Int) (hh : (Lit.int .u16 h).wf = true) (s : Int) (hs : (Lit.int .u32 s).wf = true) :
    Calls Tryd.prog 6 #[.int .u64 b, .int .u16 h, .int .u32 s] w fun e w' => e = .returned (.bool true) ∧ Below w.heap.size w w' := by
  obtain ⟨b, rfl, hb'⟩ := wf_u64 hb
  obtain ⟨h, rfl, hh'⟩ := wf_u16 hh
  obtain ⟨s, rfl, hs'⟩ := wf_u32 hs
  exact round_any b h s hb' hh' hs' w hT
end Go.Proofs.YtocmmdheegkbaaaDoor
