/-
  DERIVED. GIVEN WITH THE SEED: THE CARDS: each row of YtcpgcjmamjjokaaGreatDoorRows.lean that lists a variable, with what it lists TIED to the program's text (the seventh form; the later family's looks); each row that meets fmt, with fmt's text TOLD by the authors' own Lean function (tested against real Go, not proved from fmt's source: count such statements apart). THE CARD IS WHAT COUNTS. Prove the row's statement (the work); the ties are given (YtcpgcjmamjjokaaGreatDoorTie.lean); close each card by the builder's one call (the guide's Derived/Test/ToyasCard.lean, 'card_holds'). Laid BY PROGRAM, IN A SANDBOX (cutbox-door.mjs). By AI agents, Wed Nov 11 2026. No macro, syntax, notation, axiom, sorry.
-/
import Derived.Test.YtcpgcjmamjjokaaGreatDoorRows
import GoSem.ClaimSeven
namespace Go.Proofs.YtcpgcjmamjjokaaGreatDoor
namespace Rows

/-- THE TIED CARD OF 'calamustop.TopSums'. -/
def topSumsCard : Claim7 := { stood := { row := topSumsRow, standIns := [], harness := (true, "4d5b96d5c67a6b05533aac5b03df656e8e55a7cb2103f04bcc0afe9088d93161"), looks := true }, kinds := [], alts := [], laidByText := true, laidKinds := [.data, .pinned], laidTests := true, laidLooks := .later }
def TopSumsCardSaid : Prop := Claim7.holds Tryz.pinned (.plain (OpenSpec.ofChange topSumsSpec)) topSumsCard

/-- THE TIED CARD OF 'calamustop.TopChained'. -/
def topChainedCard : Claim7 := { stood := { row := topChainedRow, standIns := [], harness := (true, "4d5b96d5c67a6b05533aac5b03df656e8e55a7cb2103f04bcc0afe9088d93161"), looks := true }, kinds := [], alts := [], laidByText := true, laidKinds := [.data, .data, .data, .data, .sentinel, .sentinel, .pinned], laidTests := true, laidLooks := .later }
def TopChainedCardSaid : Prop := Claim7.holds Tryz.pinned (.plain (OpenSpec.ofChange topChainedSpec)) topChainedCard

/-- THE TIED CARD OF 'calamustop.TopLimits'. -/
def topLimitsCard : Claim7 := { stood := { row := topLimitsRow, standIns := [], harness := (true, "4d5b96d5c67a6b05533aac5b03df656e8e55a7cb2103f04bcc0afe9088d93161"), looks := true }, kinds := [], alts := [], laidByText := true, laidKinds := [.data, .data, .data, .data, .sentinel, .sentinel, .data, .data, .data, .data, .pinned], laidTests := true, laidLooks := .later }
def TopLimitsCardSaid : Prop := Claim7.holds Tryz.pinned (.plain (OpenSpec.ofChange topLimitsSpec)) topLimitsCard

/-- THE SECOND FORM's CARD OF 'calamustop.TopSums'. -/
def topSumsUptoCard : Claim7 := { stood := { row := topSumsUptoRow, standIns := [], harness := (true, "4d5b96d5c67a6b05533aac5b03df656e8e55a7cb2103f04bcc0afe9088d93161"), looks := true }, kinds := [], alts := [], laidByText := true, laidKinds := [.data, .pinned], laidTests := true, laidLooks := .later }
def TopSumsUptoCardSaid : Prop := Claim7.holds Tryz.pinned (.plain (OpenSpec.upto topSumsSpec)) topSumsUptoCard

/-- THE SECOND FORM's CARD OF 'calamustop.TopChained'. -/
def topChainedUptoCard : Claim7 := { stood := { row := topChainedUptoRow, standIns := [], harness := (true, "4d5b96d5c67a6b05533aac5b03df656e8e55a7cb2103f04bcc0afe9088d93161"), looks := true }, kinds := [], alts := [], laidByText := true, laidKinds := [.data, .data, .data, .data, .sentinel, .sentinel, .pinned], laidTests := true, laidLooks := .later }
def TopChainedUptoCardSaid : Prop := Claim7.holds Tryz.pinned (.plain (OpenSpec.upto topChainedSpec)) topChainedUptoCard

/-- THE SECOND FORM's CARD OF 'calamustop.TopLimits'. -/
def topLimitsUptoCard : Claim7 := { stood := { row := topLimitsUptoRow, standIns := [], harness := (true, "4d5b96d5c67a6b05533aac5b03df656e8e55a7cb2103f04bcc0afe9088d93161"), looks := true }, kinds := [], alts := [], laidByText := true, laidKinds := [.data, .data, .data, .data, .sentinel, .sentinel, .data, .data, .data, .data, .pinned], laidTests := true, laidLooks := .later }
def TopLimitsUptoCardSaid : Prop := Claim7.holds Tryz.pinned (.plain (OpenSpec.upto topLimitsSpec)) topLimitsUptoCard
end Rows
end Go.Proofs.YtcpgcjmamjjokaaGreatDoor
