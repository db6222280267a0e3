/-
  DERIVED. GIVEN WITH THE SEED: THE CARDS: each row of YtimfabbielphbaaDoorRows.lean that lists a variable, with what it lists TIED to the program's text (the seventh form; the later family's looks); each row that meets fmt, with fmt's text TOLD by the authors' own Lean function (tested against real Go, not proved from fmt's source: count such statements apart). THE CARD IS WHAT COUNTS. Prove the row's statement (the work); the ties are given (YtimfabbielphbaaDoorTie.lean); close each card by the builder's one call (the guide's Derived/Test/ToyasCard.lean, 'card_holds'). Laid BY PROGRAM, IN A SANDBOX (cutbox-door.mjs). By AI agents, Wed Nov 11 2026. No macro, syntax, notation, axiom, sorry.
-/
import Derived.Test.YtimfabbielphbaaDoorRows
import GoSem.ClaimSeven
namespace Go.Proofs.YtimfabbielphbaaDoor
namespace Rows

/-- THE TIED CARD OF 'calamuslaw03.UtfTexts'. -/
def utfTextsCard : Claim7 := { stood := { row := utfTextsRow, standIns := [], harness := (true, "ef142990c985883f253d74aaf1df5cc6c615279e42fcfe1e8c8e00b388d847a0"), looks := false }, kinds := [], alts := [], laidByText := true, laidKinds := [.data, .pinned], laidTests := true, laidLooks := .later }
def UtfTextsCardSaid : Prop := Claim7.holds Tryd.pinned (.plain (OpenSpec.ofChange utfTextsSpec)) utfTextsCard

/-- THE TIED CARD OF 'calamuslaw03.UtfChars'. -/
def utfCharsCard : Claim7 := { stood := { row := utfCharsRow, standIns := [], harness := (true, "ef142990c985883f253d74aaf1df5cc6c615279e42fcfe1e8c8e00b388d847a0"), looks := false }, kinds := [], alts := [], laidByText := true, laidKinds := [.data, .pinned], laidTests := true, laidLooks := .later }
def UtfCharsCardSaid : Prop := Claim7.holds Tryd.pinned (.plain (OpenSpec.ofChange utfCharsSpec)) utfCharsCard

/-- THE TIED CARD OF 'calamuslaw03.UtfFeeds'. -/
def utfFeedsCard : Claim7 := { stood := { row := utfFeedsRow, standIns := [], harness := (true, "ef142990c985883f253d74aaf1df5cc6c615279e42fcfe1e8c8e00b388d847a0"), looks := false }, kinds := [], alts := [], laidByText := true, laidKinds := [.data, .pinned], laidTests := true, laidLooks := .later }
def UtfFeedsCardSaid : Prop := Claim7.holds Tryd.pinned (.plain (OpenSpec.ofChange utfFeedsSpec)) utfFeedsCard

/-- THE TIED CARD OF 'calamuslaw03.UtfParts'. -/
def utfPartsCard : Claim7 := { stood := { row := utfPartsRow, standIns := [], harness := (true, "ef142990c985883f253d74aaf1df5cc6c615279e42fcfe1e8c8e00b388d847a0"), looks := false }, kinds := [], alts := [], laidByText := true, laidKinds := [.data, .pinned], laidTests := true, laidLooks := .later }
def UtfPartsCardSaid : Prop := Claim7.holds Tryd.pinned (.plain (OpenSpec.ofChange utfPartsSpec)) utfPartsCard

/-- THE TIED CARD OF 'calamuslaw03.UtfRound'. -/
def utfRoundCard : Claim7 := { stood := { row := utfRoundRow, standIns := [], harness := (true, "ef142990c985883f253d74aaf1df5cc6c615279e42fcfe1e8c8e00b388d847a0"), looks := false }, kinds := [], alts := [], laidByText := true, laidKinds := [.data, .pinned], laidTests := true, laidLooks := .later }
def UtfRoundCardSaid : Prop := Claim7.holds Tryd.pinned (.plain (OpenSpec.ofChange utfRoundSpec)) utfRoundCard

/-- THE TIED CARD OF 'calamuslaw03.UtfNil'. -/
def utfNilCard : Claim7 := { stood := { row := utfNilRow, standIns := [], harness := (true, "ef142990c985883f253d74aaf1df5cc6c615279e42fcfe1e8c8e00b388d847a0"), looks := false }, kinds := [], alts := [], laidByText := true, laidKinds := [.data, .pinned], laidTests := true, laidLooks := .later }
def UtfNilCardSaid : Prop := Claim7.holds Tryd.pinned (.plain (OpenSpec.ofChange utfNilSpec)) utfNilCard

/-- THE TIED CARD OF 'calamuslaw03.UtfJoins'. -/
def utfJoinsCard : Claim7 := { stood := { row := utfJoinsRow, standIns := [], harness := (true, "ef142990c985883f253d74aaf1df5cc6c615279e42fcfe1e8c8e00b388d847a0"), looks := false }, kinds := [], alts := [], laidByText := true, laidKinds := [.data, .pinned], laidTests := true, laidLooks := .later }
def UtfJoinsCardSaid : Prop := Claim7.holds Tryd.pinned (.plain (OpenSpec.ofChange utfJoinsSpec)) utfJoinsCard

/-- THE SECOND FORM's CARD OF 'calamuslaw03.UtfTexts'. -/
def utfTextsUptoCard : Claim7 := { stood := { row := utfTextsUptoRow, standIns := [], harness := (true, "ef142990c985883f253d74aaf1df5cc6c615279e42fcfe1e8c8e00b388d847a0"), looks := false }, kinds := [], alts := [], laidByText := true, laidKinds := [.data, .pinned], laidTests := true, laidLooks := .later }
def UtfTextsUptoCardSaid : Prop := Claim7.holds Tryd.pinned (.plain (OpenSpec.upto utfTextsSpec)) utfTextsUptoCard

/-- THE SECOND FORM's CARD OF 'calamuslaw03.UtfChars'. -/
def utfCharsUptoCard : Claim7 := { stood := { row := utfCharsUptoRow, standIns := [], harness := (true, "ef142990c985883f253d74aaf1df5cc6c615279e42fcfe1e8c8e00b388d847a0"), looks := false }, kinds := [], alts := [], laidByText := true, laidKinds := [.data, .pinned], laidTests := true, laidLooks := .later }
def UtfCharsUptoCardSaid : Prop := Claim7.holds Tryd.pinned (.plain (OpenSpec.upto utfCharsSpec)) utfCharsUptoCard

/-- THE SECOND FORM's CARD OF 'calamuslaw03.UtfFeeds'. -/
def utfFeedsUptoCard : Claim7 := { stood := { row := utfFeedsUptoRow, standIns := [], harness := (true, "ef142990c985883f253d74aaf1df5cc6c615279e42fcfe1e8c8e00b388d847a0"), looks := false }, kinds := [], alts := [], laidByText := true, laidKinds := [.data, .pinned], laidTests := true, laidLooks := .later }
def UtfFeedsUptoCardSaid : Prop := Claim7.holds Tryd.pinned (.plain (OpenSpec.upto utfFeedsSpec)) utfFeedsUptoCard

/-- THE SECOND FORM's CARD OF 'calamuslaw03.UtfParts'. -/
def utfPartsUptoCard : Claim7 := { stood := { row := utfPartsUptoRow, standIns := [], harness := (true, "ef142990c985883f253d74aaf1df5cc6c615279e42fcfe1e8c8e00b388d847a0"), looks := false }, kinds := [], alts := [], laidByText := true, laidKinds := [.data, .pinned], laidTests := true, laidLooks := .later }
def UtfPartsUptoCardSaid : Prop := Claim7.holds Tryd.pinned (.plain (OpenSpec.upto utfPartsSpec)) utfPartsUptoCard

/-- THE SECOND FORM's CARD OF 'calamuslaw03.UtfRound'. -/
def utfRoundUptoCard : Claim7 := { stood := { row := utfRoundUptoRow, standIns := [], harness := (true, "ef142990c985883f253d74aaf1df5cc6c615279e42fcfe1e8c8e00b388d847a0"), looks := false }, kinds := [], alts := [], laidByText := true, laidKinds := [.data, .pinned], laidTests := true, laidLooks := .later }
def UtfRoundUptoCardSaid : Prop := Claim7.holds Tryd.pinned (.plain (OpenSpec.upto utfRoundSpec)) utfRoundUptoCard

/-- THE SECOND FORM's CARD OF 'calamuslaw03.UtfNil'. -/
def utfNilUptoCard : Claim7 := { stood := { row := utfNilUptoRow, standIns := [], harness := (true, "ef142990c985883f253d74aaf1df5cc6c615279e42fcfe1e8c8e00b388d847a0"), looks := false }, kinds := [], alts := [], laidByText := true, laidKinds := [.data, .pinned], laidTests := true, laidLooks := .later }
def UtfNilUptoCardSaid : Prop := Claim7.holds Tryd.pinned (.plain (OpenSpec.upto utfNilSpec)) utfNilUptoCard

/-- THE SECOND FORM's CARD OF 'calamuslaw03.UtfJoins'. -/
def utfJoinsUptoCard : Claim7 := { stood := { row := utfJoinsUptoRow, standIns := [], harness := (true, "ef142990c985883f253d74aaf1df5cc6c615279e42fcfe1e8c8e00b388d847a0"), looks := false }, kinds := [], alts := [], laidByText := true, laidKinds := [.data, .pinned], laidTests := true, laidLooks := .later }
def UtfJoinsUptoCardSaid : Prop := Claim7.holds Tryd.pinned (.plain (OpenSpec.upto utfJoinsSpec)) utfJoinsUptoCard
end Rows
end Go.Proofs.YtimfabbielphbaaDoor
