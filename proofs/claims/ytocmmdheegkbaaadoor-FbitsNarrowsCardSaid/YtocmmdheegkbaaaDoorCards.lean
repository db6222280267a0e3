/-
  DERIVED. GIVEN WITH THE SEED: THE CARDS: each row of YtocmmdheegkbaaaDoorRows.lean that lists a variable, with what it lists TIED to the program's text (the seventh form; the later family's looks); each row that meets fmt, with fmt's text TOLD by the authors' own Lean function (tested against real Go, not proved from fmt's source: count such statements apart). THE CARD IS WHAT COUNTS. Prove the row's statement (the work); the ties are given (YtocmmdheegkbaaaDoorTie.lean); close each card by the builder's one call (the guide's Derived/Test/ToyasCard.lean, 'card_holds'). Laid BY PROGRAM, IN A SANDBOX (cutbox-door.mjs). By AI agents, Wed Nov 11 2026. No macro, syntax, notation, axiom, sorry.
-/
import Derived.Test.YtocmmdheegkbaaaDoorRows
import GoSem.ClaimSeven
namespace Go.Proofs.YtocmmdheegkbaaaDoor
namespace Rows

/-- THE TIED CARD OF 'calamuslaw02.FbitsWidens'. -/
def fbitsWidensCard : Claim7 := { stood := { row := fbitsWidensRow, standIns := [], harness := (true, "4e61df50ac32ed8fc4558017314970475c44a2a2333d08d90aca6b0b11cba5db"), looks := true }, kinds := [], alts := [], laidByText := true, laidKinds := [.data, .data, .data, .sentinel, .sentinel, .data, .data], laidTests := true, laidLooks := .later }
def FbitsWidensCardSaid : Prop := Claim7.holds Tryd.pinned (.plain (OpenSpec.ofChange fbitsWidensSpec)) fbitsWidensCard

/-- THE TIED CARD OF 'calamuslaw02.FbitsNarrows'. -/
def fbitsNarrowsCard : Claim7 := { stood := { row := fbitsNarrowsRow, standIns := [], harness := (true, "4e61df50ac32ed8fc4558017314970475c44a2a2333d08d90aca6b0b11cba5db"), looks := true }, kinds := [], alts := [], laidByText := true, laidKinds := [.data, .data, .data, .sentinel, .sentinel, .data, .data], laidTests := true, laidLooks := .later }
def FbitsNarrowsCardSaid : Prop := Claim7.holds Tryd.pinned (.plain (OpenSpec.ofChange fbitsNarrowsSpec)) fbitsNarrowsCard

/-- THE TIED CARD OF 'calamuslaw02.FbitsTexts'. -/
def fbitsTextsCard : Claim7 := { stood := { row := fbitsTextsRow, standIns := [], harness := (true, "4e61df50ac32ed8fc4558017314970475c44a2a2333d08d90aca6b0b11cba5db"), looks := true }, kinds := [], alts := [], laidByText := true, laidKinds := [.data, .data, .data, .sentinel, .sentinel, .data, .data], laidTests := true, laidLooks := .later }
def FbitsTextsCardSaid : Prop := Claim7.holds Tryd.pinned (.plain (OpenSpec.ofChange fbitsTextsSpec)) fbitsTextsCard

/-- THE TIED CARD OF 'calamuslaw02.FbitsRound'. -/
def fbitsRoundCard : Claim7 := { stood := { row := fbitsRoundRow, standIns := [], harness := (true, "4e61df50ac32ed8fc4558017314970475c44a2a2333d08d90aca6b0b11cba5db"), looks := true }, kinds := [], alts := [], laidByText := true, laidKinds := [.data, .data, .data, .sentinel, .sentinel, .data, .data], laidTests := true, laidLooks := .later }
def FbitsRoundCardSaid : Prop := Claim7.holds Tryd.pinned (.plain (OpenSpec.ofChange fbitsRoundSpec)) fbitsRoundCard

/-- THE TIED CARD OF 'calamuslaw02.FbitsKeeps'. -/
def fbitsKeepsCard : Claim7 := { stood := { row := fbitsKeepsRow, standIns := [], harness := (true, "4e61df50ac32ed8fc4558017314970475c44a2a2333d08d90aca6b0b11cba5db"), looks := true }, kinds := [], alts := [], laidByText := true, laidKinds := [.data, .data, .data, .sentinel, .sentinel, .data, .data], laidTests := true, laidLooks := .later }
def FbitsKeepsCardSaid : Prop := Claim7.holds Tryd.pinned (.plain (OpenSpec.ofChange fbitsKeepsSpec)) fbitsKeepsCard

/-- THE TIED CARD OF 'calamuslaw02.FbitsSigns'. -/
def fbitsSignsCard : Claim7 := { stood := { row := fbitsSignsRow, standIns := [], harness := (true, "4e61df50ac32ed8fc4558017314970475c44a2a2333d08d90aca6b0b11cba5db"), looks := true }, kinds := [], alts := [], laidByText := true, laidKinds := [.data, .data, .data, .sentinel, .sentinel, .data, .data], laidTests := true, laidLooks := .later }
def FbitsSignsCardSaid : Prop := Claim7.holds Tryd.pinned (.plain (OpenSpec.ofChange fbitsSignsSpec)) fbitsSignsCard

/-- THE SECOND FORM's CARD OF 'calamuslaw02.FbitsWidens'. -/
def fbitsWidensUptoCard : Claim7 := { stood := { row := fbitsWidensUptoRow, standIns := [], harness := (true, "4e61df50ac32ed8fc4558017314970475c44a2a2333d08d90aca6b0b11cba5db"), looks := true }, kinds := [], alts := [], laidByText := true, laidKinds := [.data, .data, .data, .sentinel, .sentinel, .data, .data], laidTests := true, laidLooks := .later }
def FbitsWidensUptoCardSaid : Prop := Claim7.holds Tryd.pinned (.plain (OpenSpec.upto fbitsWidensSpec)) fbitsWidensUptoCard

/-- THE SECOND FORM's CARD OF 'calamuslaw02.FbitsNarrows'. -/
def fbitsNarrowsUptoCard : Claim7 := { stood := { row := fbitsNarrowsUptoRow, standIns := [], harness := (true, "4e61df50ac32ed8fc4558017314970475c44a2a2333d08d90aca6b0b11cba5db"), looks := true }, kinds := [], alts := [], laidByText := true, laidKinds := [.data, .data, .data, .sentinel, .sentinel, .data, .data], laidTests := true, laidLooks := .later }
def FbitsNarrowsUptoCardSaid : Prop := Claim7.holds Tryd.pinned (.plain (OpenSpec.upto fbitsNarrowsSpec)) fbitsNarrowsUptoCard

/-- THE SECOND FORM's CARD OF 'calamuslaw02.FbitsTexts'. -/
def fbitsTextsUptoCard : Claim7 := { stood := { row := fbitsTextsUptoRow, standIns := [], harness := (true, "4e61df50ac32ed8fc4558017314970475c44a2a2333d08d90aca6b0b11cba5db"), looks := true }, kinds := [], alts := [], laidByText := true, laidKinds := [.data, .data, .data, .sentinel, .sentinel, .data, .data], laidTests := true, laidLooks := .later }
def FbitsTextsUptoCardSaid : Prop := Claim7.holds Tryd.pinned (.plain (OpenSpec.upto fbitsTextsSpec)) fbitsTextsUptoCard

/-- THE SECOND FORM's CARD OF 'calamuslaw02.FbitsRound'. -/
def fbitsRoundUptoCard : Claim7 := { stood := { row := fbitsRoundUptoRow, standIns := [], harness := (true, "4e61df50ac32ed8fc4558017314970475c44a2a2333d08d90aca6b0b11cba5db"), looks := true }, kinds := [], alts := [], laidByText := true, laidKinds := [.data, .data, .data, .sentinel, .sentinel, .data, .data], laidTests := true, laidLooks := .later }
def FbitsRoundUptoCardSaid : Prop := Claim7.holds Tryd.pinned (.plain (OpenSpec.upto fbitsRoundSpec)) fbitsRoundUptoCard

/-- THE SECOND FORM's CARD OF 'calamuslaw02.FbitsKeeps'. -/
def fbitsKeepsUptoCard : Claim7 := { stood := { row := fbitsKeepsUptoRow, standIns := [], harness := (true, "4e61df50ac32ed8fc4558017314970475c44a2a2333d08d90aca6b0b11cba5db"), looks := true }, kinds := [], alts := [], laidByText := true, laidKinds := [.data, .data, .data, .sentinel, .sentinel, .data, .data], laidTests := true, laidLooks := .later }
def FbitsKeepsUptoCardSaid : Prop := Claim7.holds Tryd.pinned (.plain (OpenSpec.upto fbitsKeepsSpec)) fbitsKeepsUptoCard

/-- THE SECOND FORM's CARD OF 'calamuslaw02.FbitsSigns'. -/
def fbitsSignsUptoCard : Claim7 := { stood := { row := fbitsSignsUptoRow, standIns := [], harness := (true, "4e61df50ac32ed8fc4558017314970475c44a2a2333d08d90aca6b0b11cba5db"), looks := true }, kinds := [], alts := [], laidByText := true, laidKinds := [.data, .data, .data, .sentinel, .sentinel, .data, .data], laidTests := true, laidLooks := .later }
def FbitsSignsUptoCardSaid : Prop := Claim7.holds Tryd.pinned (.plain (OpenSpec.upto fbitsSignsSpec)) fbitsSignsUptoCard
end Rows
end Go.Proofs.YtocmmdheegkbaaaDoor
