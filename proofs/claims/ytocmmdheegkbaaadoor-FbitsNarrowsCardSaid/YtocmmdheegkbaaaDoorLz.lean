/- What the laid variables hold. -/
import Derived.Test.YtocmmdheegkbaaaDoorLb
import Derived.Test.YtocmmdheegkbaaaDoorRows
import Derived.Lib.LaidTab
import Derived.Stop.LaidErr
namespace Go.Proofs.YtocmmdheegkbaaaDoor
open Go.RowKit
set_option linter.unusedVariables false
set_option linter.unusedSimpArgs false
theorem gHalf : Tryd.prog.globalNamed "calamus/fbits.half" = some 0 := by kernel_rfl
theorem gSingle : Tryd.prog.globalNamed "calamus/fbits.single" = some 1 := by kernel_rfl
theorem gSyn : Tryd.prog.globalNamed "strconv.ErrSyntax" = some 3 := by kernel_rfl
theorem gRng : Tryd.prog.globalNamed "strconv.ErrRange" = some 4 := by kernel_rfl
theorem gTab : Tryd.prog.globalNamed "math/bits.deBruijn64tab" = some 7 := by kernel_rfl
theorem starP : Tryd.prog.typeName? 3 95 = some "*errors.errorString" := by kernel_rfl
def tabZ : List Int := [0, 1, 56, 2, 57, 49, 28, 3, 61, 58, 42, 50, 38, 29, 17, 4, 62, 47, 59, 36, 45, 43, 51, 22, 53, 39, 33, 30, 24, 18, 12, 5, 63, 55, 48, 27, 60, 41, 37, 16, 46, 35, 44, 21, 52, 32, 23, 11, 54, 26, 40, 15, 34, 20, 31, 10, 25, 14, 19, 9, 13, 8, 7, 6]
theorem tab_eq : (Rows.laid_math_bits_deBruijn64tab : DataW Unit) = Lib.tabData .u8 tabZ := rfl
theorem half_eq : (Rows.laid_calamus_fbits_half : DataW Unit) = Lib.tabData .i64 [5, 10] := rfl
theorem single_eq : (Rows.laid_calamus_fbits_single : DataW Unit) = Lib.tabData .i64 [8, 23] := rfl
theorem starE : "*" ++ "errors.errorString" = "*errors.errorString" := by decide
theorem row95 (u : TypeId) (h : Tryd.prog.typeName? 3 u = some "*errors.errorString") : u = 95 :=
  typeName_ptr_named (nm := "errors.errorString") (by rw [starE]; kernel_rfl) (by kernel_rfl) (by decide) u (by rw [starE]; exact h)
theorem cell_of_var {w : World} {n : String} {g : Nat} {v : Value} (hg : Tryd.prog.globalNamed n = some g) (h : w.var? Tryd.prog n = some #[v]) : w.cell? ⟨g, 0, none⟩ = some v := by
  have h0 := World.var?_cell hg h 0
  simpa using h0
set_option maxRecDepth 100000 in
theorem laid_of {W : World} (hL : laidMet Tryd.prog Rows.fbitsWidensRow.laid W) : Laid W := by
  have h1 := hL.tail
  have h2 := h1.tail
  have h3 := h2.tail
  have h4 := h3.tail
  have h5 := h4.tail
  have h6 := h5.tail
  have e57 : ∃ ms, Tryd.prog.underlying 57 = some (.interface ms) := ⟨_, Tryd.underlying57⟩
  obtain ⟨a0, s0, hv0, -, -, -⟩ := laid_sentinel h3 gRng (show (Tryd.prog.globals[4]?).map (·.type) = some 57 by kernel_rfl) Tryd.underlying57 row95 Tryd.underlying95 Tryd.underlying97 rfl rfl Tryd.underlying9 (by kernel_rfl) (by kernel_rfl)
  obtain ⟨a1, s1, hv1, -, -, -⟩ := laid_sentinel h4 gSyn (show (Tryd.prog.globals[3]?).map (·.type) = some 57 by kernel_rfl) Tryd.underlying57 row95 Tryd.underlying95 Tryd.underlying97 rfl rfl Tryd.underlying9 (by kernel_rfl) (by kernel_rfl)
  have t1 := Lib.tabIs_of_head (k := .u8) (zs := tabZ) gTab (show (Tryd.prog.globals[7]?).map (·.type) = some 101 by kernel_rfl) Tryd.underlying101 Tryd.underlying5 (by kernel_rfl) (by kernel_rfl) h1
  have t5 := Lib.tabIs_of_head (k := .i64) (zs := [5, 10]) gHalf (show (Tryd.prog.globals[0]?).map (·.type) = some 44 by kernel_rfl) Tryd.underlying44 Tryd.underlying3 (by kernel_rfl) (by kernel_rfl) h5
  have t6 := Lib.tabIs_of_head (k := .i64) (zs := [8, 23]) gSingle (show (Tryd.prog.globals[1]?).map (·.type) = some 44 by kernel_rfl) Tryd.underlying44 Tryd.underlying3 (by kernel_rfl) (by kernel_rfl) h6
  exact ⟨⟨t5.cell gHalf 0 (by decide), t5.cell gHalf 1 (by decide), t6.cell gSingle 0 (by decide), t6.cell gSingle 1 (by decide)⟩, ⟨⟨_, cell_of_var gSyn hv1, .inr ⟨_, _, rfl⟩⟩, ⟨_, cell_of_var gRng hv0, .inr ⟨_, _, rfl⟩⟩, t1.cell gTab 15 (by decide)⟩⟩
end Go.Proofs.YtocmmdheegkbaaaDoor
