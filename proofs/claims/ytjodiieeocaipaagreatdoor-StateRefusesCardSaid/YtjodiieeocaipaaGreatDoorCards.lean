/-
  DERIVED. GIVEN WITH THE SEED: THE CARDS: each row of YtjodiieeocaipaaGreatDoorRows.lean that lists a variable, with what it lists TIED to the program's text (the seventh form; the later family's looks); each row that meets fmt, with fmt's text TOLD by the authors' own Lean function (tested against real Go, not proved from fmt's source: count such statements apart). THE CARD IS WHAT COUNTS. Prove the row's statement (the work); the ties are given (YtjodiieeocaipaaGreatDoorTie.lean); close each card by the builder's one call (the guide's Derived/Test/ToyasCard.lean, 'card_holds'). Laid BY PROGRAM, IN A SANDBOX (cutbox-door.mjs). By AI agents, Wed Nov 11 2026. No macro, syntax, notation, axiom, sorry.
-/
import Derived.Test.YtjodiieeocaipaaGreatDoorRows
import GoSem.ClaimSeven
namespace Go.Proofs.YtjodiieeocaipaaGreatDoor
namespace Rows

/-- THE TIED CARD OF 'stavelaw21.StateRuns'. -/
def stateRunsCard : Claim7 := { stood := { row := stateRunsRow, standIns := [], harness := (true, "878c8282b11b38e4807a30d4b969ff3470166872bf066402924afb62177a51de"), looks := true }, kinds := [], alts := [], laidByText := true, laidKinds := [.data, .handle, .pinned], laidTests := true, laidLooks := .later }
def StateRunsCardSaid : Prop := Claim7.holds Tryz.pinned (.plain (OpenSpec.ofChange stateRunsSpec)) stateRunsCard

/-- THE TIED CARD OF 'stavelaw21.StateMarks'. -/
def stateMarksCard : Claim7 := { stood := { row := stateMarksRow, standIns := [], harness := (true, "878c8282b11b38e4807a30d4b969ff3470166872bf066402924afb62177a51de"), looks := true }, kinds := [], alts := [], laidByText := true, laidKinds := [.data, .handle, .pinned], laidTests := true, laidLooks := .later }
def StateMarksCardSaid : Prop := Claim7.holds Tryz.pinned (.plain (OpenSpec.ofChange stateMarksSpec)) stateMarksCard

/-- THE TIED CARD OF 'stavelaw21.StateOnce'. -/
def stateOnceCard : Claim7 := { stood := { row := stateOnceRow, standIns := [], harness := (true, "878c8282b11b38e4807a30d4b969ff3470166872bf066402924afb62177a51de"), looks := true }, kinds := [], alts := [], laidByText := true, laidKinds := [.data, .handle, .pinned], laidTests := true, laidLooks := .later }
def StateOnceCardSaid : Prop := Claim7.holds Tryz.pinned (.plain (OpenSpec.ofChange stateOnceSpec)) stateOnceCard

/-- THE TIED CARD OF 'stavelaw21.StateApart'. -/
def stateApartCard : Claim7 := { stood := { row := stateApartRow, standIns := [], harness := (true, "878c8282b11b38e4807a30d4b969ff3470166872bf066402924afb62177a51de"), looks := true }, kinds := [], alts := [], laidByText := true, laidKinds := [.data, .handle, .pinned], laidTests := true, laidLooks := .later }
def StateApartCardSaid : Prop := Claim7.holds Tryz.pinned (.plain (OpenSpec.ofChange stateApartSpec)) stateApartCard

/-- THE TIED CARD OF 'stavelaw21.StateTopics'. -/
def stateTopicsCard : Claim7 := { stood := { row := stateTopicsRow, standIns := [], harness := (true, "878c8282b11b38e4807a30d4b969ff3470166872bf066402924afb62177a51de"), looks := true }, kinds := [], alts := [], laidByText := true, laidKinds := [.data, .handle, .pinned], laidTests := true, laidLooks := .later }
def StateTopicsCardSaid : Prop := Claim7.holds Tryz.pinned (.plain (OpenSpec.ofChange stateTopicsSpec)) stateTopicsCard

/-- THE TIED CARD OF 'stavelaw21.StateTwins'. -/
def stateTwinsCard : Claim7 := { stood := { row := stateTwinsRow, standIns := [], harness := (true, "878c8282b11b38e4807a30d4b969ff3470166872bf066402924afb62177a51de"), looks := true }, kinds := [], alts := [], laidByText := true, laidKinds := [.data, .handle, .pinned], laidTests := true, laidLooks := .later }
def StateTwinsCardSaid : Prop := Claim7.holds Tryz.pinned (.plain (OpenSpec.ofChange stateTwinsSpec)) stateTwinsCard

/-- THE TIED CARD OF 'stavelaw21.StateRefuses'. -/
def stateRefusesCard : Claim7 := { stood := { row := stateRefusesRow, standIns := [], harness := (true, "878c8282b11b38e4807a30d4b969ff3470166872bf066402924afb62177a51de"), looks := true }, kinds := [], alts := [], laidByText := true, laidKinds := [.data, .handle, .pinned], laidTests := true, laidLooks := .later }
def StateRefusesCardSaid : Prop := Claim7.holds Tryz.pinned (.plain (OpenSpec.ofChange stateRefusesSpec)) stateRefusesCard

/-- THE SECOND FORM's CARD OF 'stavelaw21.StateRuns'. -/
def stateRunsUptoCard : Claim7 := { stood := { row := stateRunsUptoRow, standIns := [], harness := (true, "878c8282b11b38e4807a30d4b969ff3470166872bf066402924afb62177a51de"), looks := true }, kinds := [], alts := [], laidByText := true, laidKinds := [.data, .handle, .pinned], laidTests := true, laidLooks := .later }
def StateRunsUptoCardSaid : Prop := Claim7.holds Tryz.pinned (.plain (OpenSpec.upto stateRunsSpec)) stateRunsUptoCard

/-- THE SECOND FORM's CARD OF 'stavelaw21.StateMarks'. -/
def stateMarksUptoCard : Claim7 := { stood := { row := stateMarksUptoRow, standIns := [], harness := (true, "878c8282b11b38e4807a30d4b969ff3470166872bf066402924afb62177a51de"), looks := true }, kinds := [], alts := [], laidByText := true, laidKinds := [.data, .handle, .pinned], laidTests := true, laidLooks := .later }
def StateMarksUptoCardSaid : Prop := Claim7.holds Tryz.pinned (.plain (OpenSpec.upto stateMarksSpec)) stateMarksUptoCard

/-- THE SECOND FORM's CARD OF 'stavelaw21.StateOnce'. -/
def stateOnceUptoCard : Claim7 := { stood := { row := stateOnceUptoRow, standIns := [], harness := (true, "878c8282b11b38e4807a30d4b969ff3470166872bf066402924afb62177a51de"), looks := true }, kinds := [], alts := [], laidByText := true, laidKinds := [.data, .handle, .pinned], laidTests := true, laidLooks := .later }
def StateOnceUptoCardSaid : Prop := Claim7.holds Tryz.pinned (.plain (OpenSpec.upto stateOnceSpec)) stateOnceUptoCard

/-- THE SECOND FORM's CARD OF 'stavelaw21.StateApart'. -/
def stateApartUptoCard : Claim7 := { stood := { row := stateApartUptoRow, standIns := [], harness := (true, "878c8282b11b38e4807a30d4b969ff3470166872bf066402924afb62177a51de"), looks := true }, kinds := [], alts := [], laidByText := true, laidKinds := [.data, .handle, .pinned], laidTests := true, laidLooks := .later }
def StateApartUptoCardSaid : Prop := Claim7.holds Tryz.pinned (.plain (OpenSpec.upto stateApartSpec)) stateApartUptoCard

/-- THE SECOND FORM's CARD OF 'stavelaw21.StateTopics'. -/
def stateTopicsUptoCard : Claim7 := { stood := { row := stateTopicsUptoRow, standIns := [], harness := (true, "878c8282b11b38e4807a30d4b969ff3470166872bf066402924afb62177a51de"), looks := true }, kinds := [], alts := [], laidByText := true, laidKinds := [.data, .handle, .pinned], laidTests := true, laidLooks := .later }
def StateTopicsUptoCardSaid : Prop := Claim7.holds Tryz.pinned (.plain (OpenSpec.upto stateTopicsSpec)) stateTopicsUptoCard

/-- THE SECOND FORM's CARD OF 'stavelaw21.StateTwins'. -/
def stateTwinsUptoCard : Claim7 := { stood := { row := stateTwinsUptoRow, standIns := [], harness := (true, "878c8282b11b38e4807a30d4b969ff3470166872bf066402924afb62177a51de"), looks := true }, kinds := [], alts := [], laidByText := true, laidKinds := [.data, .handle, .pinned], laidTests := true, laidLooks := .later }
def StateTwinsUptoCardSaid : Prop := Claim7.holds Tryz.pinned (.plain (OpenSpec.upto stateTwinsSpec)) stateTwinsUptoCard

/-- THE SECOND FORM's CARD OF 'stavelaw21.StateRefuses'. -/
def stateRefusesUptoCard : Claim7 := { stood := { row := stateRefusesUptoRow, standIns := [], harness := (true, "878c8282b11b38e4807a30d4b969ff3470166872bf066402924afb62177a51de"), looks := true }, kinds := [], alts := [], laidByText := true, laidKinds := [.data, .handle, .pinned], laidTests := true, laidLooks := .later }
def StateRefusesUptoCardSaid : Prop := Claim7.holds Tryz.pinned (.plain (OpenSpec.upto stateRefusesSpec)) stateRefusesUptoCard
end Rows
end Go.Proofs.YtjodiieeocaipaaGreatDoor
