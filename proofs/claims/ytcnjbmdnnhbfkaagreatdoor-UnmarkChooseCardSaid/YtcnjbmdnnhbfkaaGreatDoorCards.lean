/-
  DERIVED. GIVEN WITH THE SEED: THE CARDS: each row of YtcnjbmdnnhbfkaaGreatDoorRows.lean that lists a variable, with what it lists TIED to the program's text (the seventh form; the later family's looks); each row that meets fmt, with fmt's text TOLD by the authors' own Lean function (tested against real Go, not proved from fmt's source: count such statements apart). THE CARD IS WHAT COUNTS. Prove the row's statement (the work); the ties are given (YtcnjbmdnnhbfkaaGreatDoorTie.lean); close each card by the builder's one call (the guide's Derived/Test/ToyasCard.lean, 'card_holds'). Laid BY PROGRAM, IN A SANDBOX (cutbox-door.mjs). By AI agents, Wed Nov 11 2026. No macro, syntax, notation, axiom, sorry.
-/
import Derived.Test.YtcnjbmdnnhbfkaaGreatDoorRows
import GoSem.ClaimSeven
namespace Go.Proofs.YtcnjbmdnnhbfkaaGreatDoor
namespace Rows

/-- THE TIED CARD OF 'sennitlaw12.MarkPrints'. -/
def markPrintsCard : Claim7 := { stood := { row := markPrintsRow, standIns := [], harness := (true, "de490700f05c68a0c0b4d4b413854a35d25a15764a0213633f8c358c273b21fb"), looks := false }, kinds := [], alts := [], laidByText := true, laidKinds := [.data, .data, .data], laidTests := true, laidLooks := .later }
def MarkPrintsCardSaid : Prop := Claim7.holds Tryz.pinned (.plain (OpenSpec.ofChange markPrintsSpec)) markPrintsCard

/-- THE TIED CARD OF 'sennitlaw12.MarkLines'. -/
def markLinesCard : Claim7 := { stood := { row := markLinesRow, standIns := [], harness := (true, "de490700f05c68a0c0b4d4b413854a35d25a15764a0213633f8c358c273b21fb"), looks := false }, kinds := [], alts := [], laidByText := true, laidKinds := [.data, .data, .data], laidTests := true, laidLooks := .later }
def MarkLinesCardSaid : Prop := Claim7.holds Tryz.pinned (.plain (OpenSpec.ofChange markLinesSpec)) markLinesCard

/-- THE TIED CARD OF 'sennitlaw12.MarkStyles'. -/
def markStylesCard : Claim7 := { stood := { row := markStylesRow, standIns := [], harness := (true, "de490700f05c68a0c0b4d4b413854a35d25a15764a0213633f8c358c273b21fb"), looks := false }, kinds := [], alts := [], laidByText := true, laidKinds := [.data, .data, .data], laidTests := true, laidLooks := .later }
def MarkStylesCardSaid : Prop := Claim7.holds Tryz.pinned (.plain (OpenSpec.ofChange markStylesSpec)) markStylesCard

/-- THE TIED CARD OF 'sennitlaw12.MarkZeal'. -/
def markZealCard : Claim7 := { stood := { row := markZealRow, standIns := [], harness := (true, "de490700f05c68a0c0b4d4b413854a35d25a15764a0213633f8c358c273b21fb"), looks := false }, kinds := [], alts := [], laidByText := true, laidKinds := [.data, .data, .data], laidTests := true, laidLooks := .later }
def MarkZealCardSaid : Prop := Claim7.holds Tryz.pinned (.plain (OpenSpec.ofChange markZealSpec)) markZealCard

/-- THE TIED CARD OF 'sennitlaw12.MarkSize'. -/
def markSizeCard : Claim7 := { stood := { row := markSizeRow, standIns := [], harness := (true, "de490700f05c68a0c0b4d4b413854a35d25a15764a0213633f8c358c273b21fb"), looks := false }, kinds := [], alts := [], laidByText := true, laidKinds := [.data, .data, .data], laidTests := true, laidLooks := .later }
def MarkSizeCardSaid : Prop := Claim7.holds Tryz.pinned (.plain (OpenSpec.ofChange markSizeSpec)) markSizeCard

/-- THE TIED CARD OF 'sennitlaw13.UnmarkBack'. -/
def unmarkBackCard : Claim7 := { stood := { row := unmarkBackRow, standIns := [], harness := (true, "de490700f05c68a0c0b4d4b413854a35d25a15764a0213633f8c358c273b21fb"), looks := false }, kinds := [], alts := [], laidByText := true, laidKinds := [.data, .data, .data], laidTests := true, laidLooks := .later }
def UnmarkBackCardSaid : Prop := Claim7.holds Tryz.pinned (.plain (OpenSpec.ofChange unmarkBackSpec)) unmarkBackCard

/-- THE TIED CARD OF 'sennitlaw13.UnmarkChoose'. -/
def unmarkChooseCard : Claim7 := { stood := { row := unmarkChooseRow, standIns := [], harness := (true, "de490700f05c68a0c0b4d4b413854a35d25a15764a0213633f8c358c273b21fb"), looks := false }, kinds := [], alts := [], laidByText := true, laidKinds := [.data, .data, .data], laidTests := true, laidLooks := .later }
def UnmarkChooseCardSaid : Prop := Claim7.holds Tryz.pinned (.plain (OpenSpec.ofChange unmarkChooseSpec)) unmarkChooseCard

/-- THE SECOND FORM's CARD OF 'sennitlaw12.MarkPrints'. -/
def markPrintsUptoCard : Claim7 := { stood := { row := markPrintsUptoRow, standIns := [], harness := (true, "de490700f05c68a0c0b4d4b413854a35d25a15764a0213633f8c358c273b21fb"), looks := false }, kinds := [], alts := [], laidByText := true, laidKinds := [.data, .data, .data], laidTests := true, laidLooks := .later }
def MarkPrintsUptoCardSaid : Prop := Claim7.holds Tryz.pinned (.plain (OpenSpec.upto markPrintsSpec)) markPrintsUptoCard

/-- THE SECOND FORM's CARD OF 'sennitlaw12.MarkLines'. -/
def markLinesUptoCard : Claim7 := { stood := { row := markLinesUptoRow, standIns := [], harness := (true, "de490700f05c68a0c0b4d4b413854a35d25a15764a0213633f8c358c273b21fb"), looks := false }, kinds := [], alts := [], laidByText := true, laidKinds := [.data, .data, .data], laidTests := true, laidLooks := .later }
def MarkLinesUptoCardSaid : Prop := Claim7.holds Tryz.pinned (.plain (OpenSpec.upto markLinesSpec)) markLinesUptoCard

/-- THE SECOND FORM's CARD OF 'sennitlaw12.MarkStyles'. -/
def markStylesUptoCard : Claim7 := { stood := { row := markStylesUptoRow, standIns := [], harness := (true, "de490700f05c68a0c0b4d4b413854a35d25a15764a0213633f8c358c273b21fb"), looks := false }, kinds := [], alts := [], laidByText := true, laidKinds := [.data, .data, .data], laidTests := true, laidLooks := .later }
def MarkStylesUptoCardSaid : Prop := Claim7.holds Tryz.pinned (.plain (OpenSpec.upto markStylesSpec)) markStylesUptoCard

/-- THE SECOND FORM's CARD OF 'sennitlaw12.MarkZeal'. -/
def markZealUptoCard : Claim7 := { stood := { row := markZealUptoRow, standIns := [], harness := (true, "de490700f05c68a0c0b4d4b413854a35d25a15764a0213633f8c358c273b21fb"), looks := false }, kinds := [], alts := [], laidByText := true, laidKinds := [.data, .data, .data], laidTests := true, laidLooks := .later }
def MarkZealUptoCardSaid : Prop := Claim7.holds Tryz.pinned (.plain (OpenSpec.upto markZealSpec)) markZealUptoCard

/-- THE SECOND FORM's CARD OF 'sennitlaw12.MarkSize'. -/
def markSizeUptoCard : Claim7 := { stood := { row := markSizeUptoRow, standIns := [], harness := (true, "de490700f05c68a0c0b4d4b413854a35d25a15764a0213633f8c358c273b21fb"), looks := false }, kinds := [], alts := [], laidByText := true, laidKinds := [.data, .data, .data], laidTests := true, laidLooks := .later }
def MarkSizeUptoCardSaid : Prop := Claim7.holds Tryz.pinned (.plain (OpenSpec.upto markSizeSpec)) markSizeUptoCard

/-- THE SECOND FORM's CARD OF 'sennitlaw13.UnmarkBack'. -/
def unmarkBackUptoCard : Claim7 := { stood := { row := unmarkBackUptoRow, standIns := [], harness := (true, "de490700f05c68a0c0b4d4b413854a35d25a15764a0213633f8c358c273b21fb"), looks := false }, kinds := [], alts := [], laidByText := true, laidKinds := [.data, .data, .data], laidTests := true, laidLooks := .later }
def UnmarkBackUptoCardSaid : Prop := Claim7.holds Tryz.pinned (.plain (OpenSpec.upto unmarkBackSpec)) unmarkBackUptoCard

/-- THE SECOND FORM's CARD OF 'sennitlaw13.UnmarkChoose'. -/
def unmarkChooseUptoCard : Claim7 := { stood := { row := unmarkChooseUptoRow, standIns := [], harness := (true, "de490700f05c68a0c0b4d4b413854a35d25a15764a0213633f8c358c273b21fb"), looks := false }, kinds := [], alts := [], laidByText := true, laidKinds := [.data, .data, .data], laidTests := true, laidLooks := .later }
def UnmarkChooseUptoCardSaid : Prop := Claim7.holds Tryz.pinned (.plain (OpenSpec.upto unmarkChooseSpec)) unmarkChooseUptoCard
end Rows
end Go.Proofs.YtcnjbmdnnhbfkaaGreatDoor
