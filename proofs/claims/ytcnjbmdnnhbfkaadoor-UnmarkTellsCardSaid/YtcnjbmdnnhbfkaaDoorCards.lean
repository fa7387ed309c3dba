/-
  DERIVED. GIVEN WITH THE SEED: THE CARDS: each row of YtcnjbmdnnhbfkaaDoorRows.lean that lists a variable, with what it lists TIED to the program's text (the seventh form; the later family's looks); each row that meets fmt, with fmt's text TOLD by the authors' own Lean function (tested against real Go, not proved from fmt's source: count such statements apart). THE CARD IS WHAT COUNTS. Prove the row's statement (the work); the ties are given (YtcnjbmdnnhbfkaaDoorTie.lean); close each card by the builder's one call (the guide's Derived/Test/ToyasCard.lean, 'card_holds'). Laid BY PROGRAM, IN A SANDBOX (cutbox-door.mjs). By AI agents, Wed Nov 11 2026. No macro, syntax, notation, axiom, sorry.
-/
import Derived.Test.YtcnjbmdnnhbfkaaDoorRows
import GoSem.ClaimSeven
namespace Go.Proofs.YtcnjbmdnnhbfkaaDoor
namespace Rows

/-- THE TIED CARD OF 'sennitlaw13.UnmarkTells'. -/
def unmarkTellsCard : Claim7 := { stood := { row := unmarkTellsRow, standIns := [], harness := (true, "437f094d0c1f312a78af790350b9f0b080c5eec073b3409462ab0af888b4c348"), looks := false }, kinds := [], alts := [], laidByText := true, laidKinds := [.data, .data, .data], laidTests := true, laidLooks := .later }
def UnmarkTellsCardSaid : Prop := Claim7.holds Tryd.pinned (.plain (OpenSpec.ofChange unmarkTellsSpec)) unmarkTellsCard

/-- THE TIED CARD OF 'sennitlaw13.UnmarkPlain'. -/
def unmarkPlainCard : Claim7 := { stood := { row := unmarkPlainRow, standIns := [], harness := (true, "437f094d0c1f312a78af790350b9f0b080c5eec073b3409462ab0af888b4c348"), looks := false }, kinds := [], alts := [], laidByText := true, laidKinds := [.data, .data, .data], laidTests := true, laidLooks := .later }
def UnmarkPlainCardSaid : Prop := Claim7.holds Tryd.pinned (.plain (OpenSpec.ofChange unmarkPlainSpec)) unmarkPlainCard

/-- THE TIED CARD OF 'sennitlaw13.UnmarkWrong'. -/
def unmarkWrongCard : Claim7 := { stood := { row := unmarkWrongRow, standIns := [], harness := (true, "437f094d0c1f312a78af790350b9f0b080c5eec073b3409462ab0af888b4c348"), looks := false }, kinds := [], alts := [], laidByText := true, laidKinds := [.data, .data, .data], laidTests := true, laidLooks := .later }
def UnmarkWrongCardSaid : Prop := Claim7.holds Tryd.pinned (.plain (OpenSpec.ofChange unmarkWrongSpec)) unmarkWrongCard

/-- THE TIED CARD OF 'sennitlaw13.UnmarkOne'. -/
def unmarkOneCard : Claim7 := { stood := { row := unmarkOneRow, standIns := [], harness := (true, "437f094d0c1f312a78af790350b9f0b080c5eec073b3409462ab0af888b4c348"), looks := false }, kinds := [], alts := [], laidByText := true, laidKinds := [.data, .data, .data], laidTests := true, laidLooks := .later }
def UnmarkOneCardSaid : Prop := Claim7.holds Tryd.pinned (.plain (OpenSpec.ofChange unmarkOneSpec)) unmarkOneCard

/-- THE SECOND FORM's CARD OF 'sennitlaw13.UnmarkTells'. -/
def unmarkTellsUptoCard : Claim7 := { stood := { row := unmarkTellsUptoRow, standIns := [], harness := (true, "437f094d0c1f312a78af790350b9f0b080c5eec073b3409462ab0af888b4c348"), looks := false }, kinds := [], alts := [], laidByText := true, laidKinds := [.data, .data, .data], laidTests := true, laidLooks := .later }
def UnmarkTellsUptoCardSaid : Prop := Claim7.holds Tryd.pinned (.plain (OpenSpec.upto unmarkTellsSpec)) unmarkTellsUptoCard

/-- THE SECOND FORM's CARD OF 'sennitlaw13.UnmarkPlain'. -/
def unmarkPlainUptoCard : Claim7 := { stood := { row := unmarkPlainUptoRow, standIns := [], harness := (true, "437f094d0c1f312a78af790350b9f0b080c5eec073b3409462ab0af888b4c348"), looks := false }, kinds := [], alts := [], laidByText := true, laidKinds := [.data, .data, .data], laidTests := true, laidLooks := .later }
def UnmarkPlainUptoCardSaid : Prop := Claim7.holds Tryd.pinned (.plain (OpenSpec.upto unmarkPlainSpec)) unmarkPlainUptoCard

/-- THE SECOND FORM's CARD OF 'sennitlaw13.UnmarkWrong'. -/
def unmarkWrongUptoCard : Claim7 := { stood := { row := unmarkWrongUptoRow, standIns := [], harness := (true, "437f094d0c1f312a78af790350b9f0b080c5eec073b3409462ab0af888b4c348"), looks := false }, kinds := [], alts := [], laidByText := true, laidKinds := [.data, .data, .data], laidTests := true, laidLooks := .later }
def UnmarkWrongUptoCardSaid : Prop := Claim7.holds Tryd.pinned (.plain (OpenSpec.upto unmarkWrongSpec)) unmarkWrongUptoCard

/-- THE SECOND FORM's CARD OF 'sennitlaw13.UnmarkOne'. -/
def unmarkOneUptoCard : Claim7 := { stood := { row := unmarkOneUptoRow, standIns := [], harness := (true, "437f094d0c1f312a78af790350b9f0b080c5eec073b3409462ab0af888b4c348"), looks := false }, kinds := [], alts := [], laidByText := true, laidKinds := [.data, .data, .data], laidTests := true, laidLooks := .later }
def UnmarkOneUptoCardSaid : Prop := Claim7.holds Tryd.pinned (.plain (OpenSpec.upto unmarkOneSpec)) unmarkOneUptoCard
end Rows
end Go.Proofs.YtcnjbmdnnhbfkaaDoor
