/-
  DERIVED. GIVEN WITH THE SEED: THE CARDS: each row of YtkdlofgfkfhofaaGreatDoorRows.lean that lists a variable, with what it lists TIED to the program's text (the seventh form; the later family's looks); each row that meets fmt, with fmt's text TOLD by the authors' own Lean function (tested against real Go, not proved from fmt's source: count such statements apart). THE CARD IS WHAT COUNTS. Prove the row's statement (the work); the ties are given (YtkdlofgfkfhofaaGreatDoorTie.lean); close each card by the builder's one call (the guide's Derived/Test/ToyasCard.lean, 'card_holds'). Laid BY PROGRAM, IN A SANDBOX (cutbox-door.mjs). By AI agents, Wed Nov 11 2026. No macro, syntax, notation, axiom, sorry.
-/
import Derived.Test.YtkdlofgfkfhofaaGreatDoorRows
import GoSem.ClaimSeven
namespace Go.Proofs.YtkdlofgfkfhofaaGreatDoor
namespace Rows

/-- THE TIED CARD OF 'stavelaw25.ServerRuns'. -/
def serverRunsCard : Claim7 := { stood := { row := serverRunsRow, standIns := [], harness := (true, "db66056122c4da9ad6e2a5fe2d8fa12841ec416363ad36ad99448d441beb1d8e"), looks := true }, kinds := [], alts := [], laidByText := true, laidKinds := [.data, .handle, .pinned], laidTests := true, laidLooks := .later }
def ServerRunsCardSaid : Prop := Claim7.holds Tryz.pinned (.plain (OpenSpec.ofChange serverRunsSpec)) serverRunsCard

/-- THE TIED CARD OF 'stavelaw25.ServerSkips'. -/
def serverSkipsCard : Claim7 := { stood := { row := serverSkipsRow, standIns := [], harness := (true, "db66056122c4da9ad6e2a5fe2d8fa12841ec416363ad36ad99448d441beb1d8e"), looks := true }, kinds := [], alts := [], laidByText := true, laidKinds := [.data, .handle, .pinned], laidTests := true, laidLooks := .later }
def ServerSkipsCardSaid : Prop := Claim7.holds Tryz.pinned (.plain (OpenSpec.ofChange serverSkipsSpec)) serverSkipsCard

/-- THE TIED CARD OF 'stavelaw25.ServerHostile'. -/
def serverHostileCard : Claim7 := { stood := { row := serverHostileRow, standIns := [], harness := (true, "db66056122c4da9ad6e2a5fe2d8fa12841ec416363ad36ad99448d441beb1d8e"), looks := true }, kinds := [], alts := [], laidByText := true, laidKinds := [.data, .handle, .pinned], laidTests := true, laidLooks := .later }
def ServerHostileCardSaid : Prop := Claim7.holds Tryz.pinned (.plain (OpenSpec.ofChange serverHostileSpec)) serverHostileCard

/-- THE TIED CARD OF 'stavelaw25.ServerEach'. -/
def serverEachCard : Claim7 := { stood := { row := serverEachRow, standIns := [], harness := (true, "db66056122c4da9ad6e2a5fe2d8fa12841ec416363ad36ad99448d441beb1d8e"), looks := true }, kinds := [], alts := [], laidByText := true, laidKinds := [.data, .handle, .pinned], laidTests := true, laidLooks := .later }
def ServerEachCardSaid : Prop := Claim7.holds Tryz.pinned (.plain (OpenSpec.ofChange serverEachSpec)) serverEachCard

/-- THE TIED CARD OF 'stavelaw25.ServerNone'. -/
def serverNoneCard : Claim7 := { stood := { row := serverNoneRow, standIns := [], harness := (true, "db66056122c4da9ad6e2a5fe2d8fa12841ec416363ad36ad99448d441beb1d8e"), looks := true }, kinds := [], alts := [], laidByText := true, laidKinds := [.data, .handle, .pinned], laidTests := true, laidLooks := .later }
def ServerNoneCardSaid : Prop := Claim7.holds Tryz.pinned (.plain (OpenSpec.ofChange serverNoneSpec)) serverNoneCard

/-- THE SECOND FORM's CARD OF 'stavelaw25.ServerRuns'. -/
def serverRunsUptoCard : Claim7 := { stood := { row := serverRunsUptoRow, standIns := [], harness := (true, "db66056122c4da9ad6e2a5fe2d8fa12841ec416363ad36ad99448d441beb1d8e"), looks := true }, kinds := [], alts := [], laidByText := true, laidKinds := [.data, .handle, .pinned], laidTests := true, laidLooks := .later }
def ServerRunsUptoCardSaid : Prop := Claim7.holds Tryz.pinned (.plain (OpenSpec.upto serverRunsSpec)) serverRunsUptoCard

/-- THE SECOND FORM's CARD OF 'stavelaw25.ServerSkips'. -/
def serverSkipsUptoCard : Claim7 := { stood := { row := serverSkipsUptoRow, standIns := [], harness := (true, "db66056122c4da9ad6e2a5fe2d8fa12841ec416363ad36ad99448d441beb1d8e"), looks := true }, kinds := [], alts := [], laidByText := true, laidKinds := [.data, .handle, .pinned], laidTests := true, laidLooks := .later }
def ServerSkipsUptoCardSaid : Prop := Claim7.holds Tryz.pinned (.plain (OpenSpec.upto serverSkipsSpec)) serverSkipsUptoCard

/-- THE SECOND FORM's CARD OF 'stavelaw25.ServerHostile'. -/
def serverHostileUptoCard : Claim7 := { stood := { row := serverHostileUptoRow, standIns := [], harness := (true, "db66056122c4da9ad6e2a5fe2d8fa12841ec416363ad36ad99448d441beb1d8e"), looks := true }, kinds := [], alts := [], laidByText := true, laidKinds := [.data, .handle, .pinned], laidTests := true, laidLooks := .later }
def ServerHostileUptoCardSaid : Prop := Claim7.holds Tryz.pinned (.plain (OpenSpec.upto serverHostileSpec)) serverHostileUptoCard

/-- THE SECOND FORM's CARD OF 'stavelaw25.ServerEach'. -/
def serverEachUptoCard : Claim7 := { stood := { row := serverEachUptoRow, standIns := [], harness := (true, "db66056122c4da9ad6e2a5fe2d8fa12841ec416363ad36ad99448d441beb1d8e"), looks := true }, kinds := [], alts := [], laidByText := true, laidKinds := [.data, .handle, .pinned], laidTests := true, laidLooks := .later }
def ServerEachUptoCardSaid : Prop := Claim7.holds Tryz.pinned (.plain (OpenSpec.upto serverEachSpec)) serverEachUptoCard

/-- THE SECOND FORM's CARD OF 'stavelaw25.ServerNone'. -/
def serverNoneUptoCard : Claim7 := { stood := { row := serverNoneUptoRow, standIns := [], harness := (true, "db66056122c4da9ad6e2a5fe2d8fa12841ec416363ad36ad99448d441beb1d8e"), looks := true }, kinds := [], alts := [], laidByText := true, laidKinds := [.data, .handle, .pinned], laidTests := true, laidLooks := .later }
def ServerNoneUptoCardSaid : Prop := Claim7.holds Tryz.pinned (.plain (OpenSpec.upto serverNoneSpec)) serverNoneUptoCard
end Rows
end Go.Proofs.YtkdlofgfkfhofaaGreatDoor
