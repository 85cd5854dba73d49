/-
  DERIVED. GIVEN WITH THE SEED: THE CARDS: each row of YtpfdbbcfcimmfaaGreatDoorRows.lean that lists a variable, with what it lists TIED to the program's text (the seventh form; the later family's looks); each row that meets fmt, with fmt's text TOLD by the authors' own Lean function (tested against real Go, not proved from fmt's source: count such statements apart). THE CARD IS WHAT COUNTS. Prove the row's statement (the work); the ties are given (YtpfdbbcfcimmfaaGreatDoorTie.lean); close each card by the builder's one call (the guide's Derived/Test/ToyasCard.lean, 'card_holds'). Laid BY PROGRAM, IN A SANDBOX (cutbox-door.mjs). By AI agents, Wed Nov 11 2026. No macro, syntax, notation, axiom, sorry.
-/
import Derived.Test.YtpfdbbcfcimmfaaGreatDoorRows
import GoSem.ClaimSeven
namespace Go.Proofs.YtpfdbbcfcimmfaaGreatDoor
namespace Rows

/-- THE TIED CARD OF 'stavelaw20.EntryTells'. -/
def entryTellsCard : Claim7 := { stood := { row := entryTellsRow, standIns := [], harness := (true, "37c18374e505be96959b984f095522a0eb064a5e05f26610cd57e3e7c5d95287"), looks := true }, kinds := [], alts := [], laidByText := true, laidKinds := [.data, .handle, .pinned], laidTests := true, laidLooks := .later }
def EntryTellsCardSaid : Prop := Claim7.holds Tryz.pinned (.plain (OpenSpec.ofChange entryTellsSpec)) entryTellsCard

/-- THE TIED CARD OF 'stavelaw22.AskRuns'. -/
def askRunsCard : Claim7 := { stood := { row := askRunsRow, standIns := [], harness := (true, "37c18374e505be96959b984f095522a0eb064a5e05f26610cd57e3e7c5d95287"), looks := true }, kinds := [], alts := [], laidByText := true, laidKinds := [.data, .handle, .pinned], laidTests := true, laidLooks := .later }
def AskRunsCardSaid : Prop := Claim7.holds Tryz.pinned (.plain (OpenSpec.ofChange askRunsSpec)) askRunsCard

/-- THE TIED CARD OF 'stavelaw22.AskTells'. -/
def askTellsCard : Claim7 := { stood := { row := askTellsRow, standIns := [], harness := (true, "37c18374e505be96959b984f095522a0eb064a5e05f26610cd57e3e7c5d95287"), looks := true }, kinds := [], alts := [], laidByText := true, laidKinds := [.data, .handle, .pinned], laidTests := true, laidLooks := .later }
def AskTellsCardSaid : Prop := Claim7.holds Tryz.pinned (.plain (OpenSpec.ofChange askTellsSpec)) askTellsCard

/-- THE TIED CARD OF 'stavelaw22.AskBack'. -/
def askBackCard : Claim7 := { stood := { row := askBackRow, standIns := [], harness := (true, "37c18374e505be96959b984f095522a0eb064a5e05f26610cd57e3e7c5d95287"), looks := true }, kinds := [], alts := [], laidByText := true, laidKinds := [.data, .handle, .pinned], laidTests := true, laidLooks := .later }
def AskBackCardSaid : Prop := Claim7.holds Tryz.pinned (.plain (OpenSpec.ofChange askBackSpec)) askBackCard

/-- THE TIED CARD OF 'stavelaw22.AskOnly'. -/
def askOnlyCard : Claim7 := { stood := { row := askOnlyRow, standIns := [], harness := (true, "37c18374e505be96959b984f095522a0eb064a5e05f26610cd57e3e7c5d95287"), looks := true }, kinds := [], alts := [], laidByText := true, laidKinds := [.data, .handle, .pinned], laidTests := true, laidLooks := .later }
def AskOnlyCardSaid : Prop := Claim7.holds Tryz.pinned (.plain (OpenSpec.ofChange askOnlySpec)) askOnlyCard

/-- THE TIED CARD OF 'stavelaw22.AskCanon'. -/
def askCanonCard : Claim7 := { stood := { row := askCanonRow, standIns := [], harness := (true, "37c18374e505be96959b984f095522a0eb064a5e05f26610cd57e3e7c5d95287"), looks := true }, kinds := [], alts := [], laidByText := true, laidKinds := [.data, .handle, .pinned], laidTests := true, laidLooks := .later }
def AskCanonCardSaid : Prop := Claim7.holds Tryz.pinned (.plain (OpenSpec.ofChange askCanonSpec)) askCanonCard

/-- THE SECOND FORM's CARD OF 'stavelaw20.EntryTells'. -/
def entryTellsUptoCard : Claim7 := { stood := { row := entryTellsUptoRow, standIns := [], harness := (true, "37c18374e505be96959b984f095522a0eb064a5e05f26610cd57e3e7c5d95287"), looks := true }, kinds := [], alts := [], laidByText := true, laidKinds := [.data, .handle, .pinned], laidTests := true, laidLooks := .later }
def EntryTellsUptoCardSaid : Prop := Claim7.holds Tryz.pinned (.plain (OpenSpec.upto entryTellsSpec)) entryTellsUptoCard

/-- THE SECOND FORM's CARD OF 'stavelaw22.AskRuns'. -/
def askRunsUptoCard : Claim7 := { stood := { row := askRunsUptoRow, standIns := [], harness := (true, "37c18374e505be96959b984f095522a0eb064a5e05f26610cd57e3e7c5d95287"), looks := true }, kinds := [], alts := [], laidByText := true, laidKinds := [.data, .handle, .pinned], laidTests := true, laidLooks := .later }
def AskRunsUptoCardSaid : Prop := Claim7.holds Tryz.pinned (.plain (OpenSpec.upto askRunsSpec)) askRunsUptoCard

/-- THE SECOND FORM's CARD OF 'stavelaw22.AskTells'. -/
def askTellsUptoCard : Claim7 := { stood := { row := askTellsUptoRow, standIns := [], harness := (true, "37c18374e505be96959b984f095522a0eb064a5e05f26610cd57e3e7c5d95287"), looks := true }, kinds := [], alts := [], laidByText := true, laidKinds := [.data, .handle, .pinned], laidTests := true, laidLooks := .later }
def AskTellsUptoCardSaid : Prop := Claim7.holds Tryz.pinned (.plain (OpenSpec.upto askTellsSpec)) askTellsUptoCard

/-- THE SECOND FORM's CARD OF 'stavelaw22.AskBack'. -/
def askBackUptoCard : Claim7 := { stood := { row := askBackUptoRow, standIns := [], harness := (true, "37c18374e505be96959b984f095522a0eb064a5e05f26610cd57e3e7c5d95287"), looks := true }, kinds := [], alts := [], laidByText := true, laidKinds := [.data, .handle, .pinned], laidTests := true, laidLooks := .later }
def AskBackUptoCardSaid : Prop := Claim7.holds Tryz.pinned (.plain (OpenSpec.upto askBackSpec)) askBackUptoCard

/-- THE SECOND FORM's CARD OF 'stavelaw22.AskOnly'. -/
def askOnlyUptoCard : Claim7 := { stood := { row := askOnlyUptoRow, standIns := [], harness := (true, "37c18374e505be96959b984f095522a0eb064a5e05f26610cd57e3e7c5d95287"), looks := true }, kinds := [], alts := [], laidByText := true, laidKinds := [.data, .handle, .pinned], laidTests := true, laidLooks := .later }
def AskOnlyUptoCardSaid : Prop := Claim7.holds Tryz.pinned (.plain (OpenSpec.upto askOnlySpec)) askOnlyUptoCard

/-- THE SECOND FORM's CARD OF 'stavelaw22.AskCanon'. -/
def askCanonUptoCard : Claim7 := { stood := { row := askCanonUptoRow, standIns := [], harness := (true, "37c18374e505be96959b984f095522a0eb064a5e05f26610cd57e3e7c5d95287"), looks := true }, kinds := [], alts := [], laidByText := true, laidKinds := [.data, .handle, .pinned], laidTests := true, laidLooks := .later }
def AskCanonUptoCardSaid : Prop := Claim7.holds Tryz.pinned (.plain (OpenSpec.upto askCanonSpec)) askCanonUptoCard
end Rows
end Go.Proofs.YtpfdbbcfcimmfaaGreatDoor
