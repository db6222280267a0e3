/-
  No cell of these rows narrows 'for every input' (looked for: loops, veiled, ifaces, maps, wideKeys, modest, calm, conditions, laid).
  DERIVED. THE GIVEN ROWS OF THIS SEAT. 4 by the template 'for every input the law returns true; each argument reads behind the call as it read before'; 0 by the template 'total and deterministic' (their statements: YticcfpbeejakhaaTotals.lean).
  GIVEN WITH THE SEED: the statements are not yours to turn. If you find one false, say at which input.
  Laid BY PROGRAM, IN A SANDBOX (cutbox-rows.mjs): the forced cells as the released guide's own fill.sh prints them over the translation b6535edcc116ff34… (all of the seat's roots in one cut). By AI agents, Wed Nov 11 2026. No macro, syntax, notation, axiom, sorry.
-/
import Derived.Test.YticcfpbeejakhaaChecked
import GoSem.Claim
import GoSem.ClaimJoined
import GoSem.ClaimMapViews
import Derived.JoinedTies
import Derived.KernelRfl
namespace Go.Proofs.Yticcfpbeejakhaa
/- THE CELL 'sum', in the pinned program and in every row, IS THE sha256 OF THE DUMP (.gsa) THAT YticcfpbeejakhaaProg.lean LOADS. Nothing in Lean hashes anything: it is a label: what it is worth is what the hold of that sum in a sandbox is worth. -/
noncomputable def Try.pinned : Pinned := { name := "yticcfpbeejakhaa", sum := "b6535edcc116ff34f82b3bb3388ab1af3db31db418eab3b58240228836a82595", checked := Try.checked }
namespace Rows
def none {H : Type} : Left H := { results := [], args := [] }

/-- 'calamuslaw06.ChunkRuns': WHATEVER THE INPUT: true; the input reads as it did. -/
def chunkRunsSpec : ChangeSpec := { name := "chunkRuns", fn := fun _ => fun
  | [d1, d2] => { results := [.lit (.bool true)], args := [d1, d2] }
  | _ => none }
def chunkRunsRow : OpenClaim := { program := "yticcfpbeejakhaa", sum := "b6535edcc116ff34f82b3bb3388ab1af3db31db418eab3b58240228836a82595", func := "calamus/calamuslaw06.ChunkRuns", spec := "chunkRuns", apart := false }
def ChunkRunsSaid : Prop := chunkRunsRow.holds Try.pinned (OpenSpec.ofChange chunkRunsSpec)

/-- ITS FALSE NEIGHBOUR: 'it returns false'. Refute it at one input. -/
def chunkRunsWrong : ChangeSpec := { name := "chunkRuns", fn := fun _ => fun
  | [d1, d2] => { results := [.lit (.bool false)], args := [d1, d2] }
  | _ => none }
def ChunkRunsWrongFalsely : Prop := chunkRunsRow.holds Try.pinned (OpenSpec.ofChange chunkRunsWrong)

/-- 'calamuslaw06.ChunkAll': WHATEVER THE INPUT: true; the input reads as it did. -/
def chunkAllSpec : ChangeSpec := { name := "chunkAll", fn := fun _ => fun
  | [d1, d2, d3] => { results := [.lit (.bool true)], args := [d1, d2, d3] }
  | _ => none }
def chunkAllRow : OpenClaim := { program := "yticcfpbeejakhaa", sum := "b6535edcc116ff34f82b3bb3388ab1af3db31db418eab3b58240228836a82595", func := "calamus/calamuslaw06.ChunkAll", spec := "chunkAll", apart := false }
def ChunkAllSaid : Prop := chunkAllRow.holds Try.pinned (OpenSpec.ofChange chunkAllSpec)

/-- ITS FALSE NEIGHBOUR: 'it returns false'. Refute it at one input. -/
def chunkAllWrong : ChangeSpec := { name := "chunkAll", fn := fun _ => fun
  | [d1, d2, d3] => { results := [.lit (.bool false)], args := [d1, d2, d3] }
  | _ => none }
def ChunkAllWrongFalsely : Prop := chunkAllRow.holds Try.pinned (OpenSpec.ofChange chunkAllWrong)

/-- 'calamuslaw06.ChunkNil': WHATEVER THE INPUT: true; the input reads as it did. -/
def chunkNilSpec : ChangeSpec := { name := "chunkNil", fn := fun _ => fun
  | [d] => { results := [.lit (.bool true)], args := [d] }
  | _ => none }
def chunkNilRow : OpenClaim := { program := "yticcfpbeejakhaa", sum := "b6535edcc116ff34f82b3bb3388ab1af3db31db418eab3b58240228836a82595", func := "calamus/calamuslaw06.ChunkNil", spec := "chunkNil", apart := false }
def ChunkNilSaid : Prop := chunkNilRow.holds Try.pinned (OpenSpec.ofChange chunkNilSpec)

/-- ITS FALSE NEIGHBOUR: 'it returns false'. Refute it at one input. -/
def chunkNilWrong : ChangeSpec := { name := "chunkNil", fn := fun _ => fun
  | [d] => { results := [.lit (.bool false)], args := [d] }
  | _ => none }
def ChunkNilWrongFalsely : Prop := chunkNilRow.holds Try.pinned (OpenSpec.ofChange chunkNilWrong)

/-- 'calamuslaw06.ChunkPeeks': WHATEVER THE INPUT: true; the input reads as it did. -/
def chunkPeeksSpec : ChangeSpec := { name := "chunkPeeks", fn := fun _ => fun
  | [d1, d2, d3] => { results := [.lit (.bool true)], args := [d1, d2, d3] }
  | _ => none }
def chunkPeeksRow : OpenClaim := { program := "yticcfpbeejakhaa", sum := "b6535edcc116ff34f82b3bb3388ab1af3db31db418eab3b58240228836a82595", func := "calamus/calamuslaw06.ChunkPeeks", spec := "chunkPeeks", apart := false }
def ChunkPeeksSaid : Prop := chunkPeeksRow.holds Try.pinned (OpenSpec.ofChange chunkPeeksSpec)

/-- ITS FALSE NEIGHBOUR: 'it returns false'. Refute it at one input. -/
def chunkPeeksWrong : ChangeSpec := { name := "chunkPeeks", fn := fun _ => fun
  | [d1, d2, d3] => { results := [.lit (.bool false)], args := [d1, d2, d3] }
  | _ => none }
def ChunkPeeksWrongFalsely : Prop := chunkPeeksRow.holds Try.pinned (OpenSpec.ofChange chunkPeeksWrong)

/- THE SECOND FORM. 'bulk': how many values and letters a reading holds, each counted each time it is reached (what is shared counts as often as it is met; a slice's spare places count too). A statement '..UptoSaid' is the law's where the arguments, and the package variables that the reading takes, are together of bulk at most 1048576: NARROWER than '..Said'. Prove '..Said' where nothing that the law and all that it calls make is longer than what came in: it says more and counts as full. Else prove '..UptoSaid'. A law counts once. -/
mutual
def uptoBulk {H : Type} : DataW H → Nat
  | .lit (.string bytes) => bytes.length + 1
  | .lit _ => 1
  | .nil => 1
  | .ptr d => uptoBulk d + 1
  | .slice elems spare => uptoBulkAll elems + uptoBulkAll spare + 1
  | .agg parts => uptoBulkAll parts + 1
  | .iface _ d => uptoBulk d + 1
  | .map entries => uptoBulkEntries entries + 1
  | .held _ => 1
def uptoBulkAll {H : Type} : List (DataW H) → Nat
  | [] => 0
  | d :: r => uptoBulk d + uptoBulkAll r
def uptoBulkEntries {H : Type} : List (Lit × DataW H) → Nat
  | [] => 0
  | x :: r => uptoBulkEntry x + uptoBulkEntries r
def uptoBulkEntry {H : Type} : Lit × DataW H → Nat
  | (.string bytes, d) => bytes.length + uptoBulk d + 1
  | (_, d) => uptoBulk d + 1
 end
def uptoSmall : (H : Type) → List (DataW H) → Bool := fun _ ds => decide (uptoBulkAll ds ≤ 1048576)
def OpenSpec.upto (s : _root_.Go.ChangeSpec) : _root_.Go.OpenSpec := { _root_.Go.OpenSpec.ofChange s with cond := some uptoSmall }

/-- 'calamuslaw06.ChunkRuns', WHERE WHAT IT READS IS OF BULK AT MOST 1048576: true; the input reads as it did. -/
def chunkRunsUptoRow : OpenClaim := { program := "yticcfpbeejakhaa", sum := "b6535edcc116ff34f82b3bb3388ab1af3db31db418eab3b58240228836a82595", func := "calamus/calamuslaw06.ChunkRuns", spec := "chunkRuns", apart := false, narrowed := true }
def ChunkRunsUptoSaid : Prop := chunkRunsUptoRow.holds Try.pinned (OpenSpec.upto chunkRunsSpec)

/-- 'calamuslaw06.ChunkAll', WHERE WHAT IT READS IS OF BULK AT MOST 1048576: true; the input reads as it did. -/
def chunkAllUptoRow : OpenClaim := { program := "yticcfpbeejakhaa", sum := "b6535edcc116ff34f82b3bb3388ab1af3db31db418eab3b58240228836a82595", func := "calamus/calamuslaw06.ChunkAll", spec := "chunkAll", apart := false, narrowed := true }
def ChunkAllUptoSaid : Prop := chunkAllUptoRow.holds Try.pinned (OpenSpec.upto chunkAllSpec)

/-- 'calamuslaw06.ChunkNil', WHERE WHAT IT READS IS OF BULK AT MOST 1048576: true; the input reads as it did. -/
def chunkNilUptoRow : OpenClaim := { program := "yticcfpbeejakhaa", sum := "b6535edcc116ff34f82b3bb3388ab1af3db31db418eab3b58240228836a82595", func := "calamus/calamuslaw06.ChunkNil", spec := "chunkNil", apart := false, narrowed := true }
def ChunkNilUptoSaid : Prop := chunkNilUptoRow.holds Try.pinned (OpenSpec.upto chunkNilSpec)

/-- 'calamuslaw06.ChunkPeeks', WHERE WHAT IT READS IS OF BULK AT MOST 1048576: true; the input reads as it did. -/
def chunkPeeksUptoRow : OpenClaim := { program := "yticcfpbeejakhaa", sum := "b6535edcc116ff34f82b3bb3388ab1af3db31db418eab3b58240228836a82595", func := "calamus/calamuslaw06.ChunkPeeks", spec := "chunkPeeks", apart := false, narrowed := true }
def ChunkPeeksUptoSaid : Prop := chunkPeeksUptoRow.holds Try.pinned (OpenSpec.upto chunkPeeksSpec)

end Rows
end Go.Proofs.Yticcfpbeejakhaa
