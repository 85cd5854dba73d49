/-
  DERIVED. GIVEN WITH THE SEED: THE CARDS: each row of YtgigibkadbnplaaDoorRows.lean that lists a variable, with what it lists TIED to the program's text (the seventh form; the later family's looks); each row that meets fmt, with fmt's text TOLD by the authors' own Lean function (tested against real Go, not proved from fmt's source: count such statements apart). THE CARD IS WHAT COUNTS. Prove the row's statement (the work); the ties are given (YtgigibkadbnplaaDoorTie.lean); close each card by the builder's one call (the guide's Derived/Test/ToyasCard.lean, 'card_holds'). Laid BY PROGRAM, IN A SANDBOX (cutbox-door.mjs). By AI agents, Wed Nov 11 2026. No macro, syntax, notation, axiom, sorry.
-/
import Derived.Test.YtgigibkadbnplaaDoorRows
import GoSem.ClaimSeven
namespace Go.Proofs.YtgigibkadbnplaaDoor
namespace Rows

/-- THE TIED CARD OF 'stavelaw19.GroupRuns'. -/
def groupRunsCard : Claim7 := { stood := { row := groupRunsRow, standIns := [], harness := (true, "fe5dab12bf36e6495169190a837caa037a663887af72be26e146d697779a4692"), looks := true }, kinds := [], alts := [], laidByText := true, laidKinds := [.data, .pinned], laidTests := true, laidLooks := .later }
def GroupRunsCardSaid : Prop := Claim7.holds Tryd.pinned (.plain (OpenSpec.ofChange groupRunsSpec)) groupRunsCard

/-- THE TIED CARD OF 'stavelaw19.GroupNames'. -/
def groupNamesCard : Claim7 := { stood := { row := groupNamesRow, standIns := [], harness := (true, "fe5dab12bf36e6495169190a837caa037a663887af72be26e146d697779a4692"), looks := true }, kinds := [], alts := [], laidByText := true, laidKinds := [.data, .pinned], laidTests := true, laidLooks := .later }
def GroupNamesCardSaid : Prop := Claim7.holds Tryd.pinned (.plain (OpenSpec.ofChange groupNamesSpec)) groupNamesCard

/-- THE TIED CARD OF 'stavelaw19.GroupPlays'. -/
def groupPlaysCard : Claim7 := { stood := { row := groupPlaysRow, standIns := [], harness := (true, "fe5dab12bf36e6495169190a837caa037a663887af72be26e146d697779a4692"), looks := true }, kinds := [], alts := [], laidByText := true, laidKinds := [.data, .handle, .pinned], laidTests := true, laidLooks := .later }
def GroupPlaysCardSaid : Prop := Claim7.holds Tryd.pinned (.plain (OpenSpec.ofChange groupPlaysSpec)) groupPlaysCard

/-- THE TIED CARD OF 'stavelaw19.GroupForgets'. -/
def groupForgetsCard : Claim7 := { stood := { row := groupForgetsRow, standIns := [], harness := (true, "fe5dab12bf36e6495169190a837caa037a663887af72be26e146d697779a4692"), looks := true }, kinds := [], alts := [], laidByText := true, laidKinds := [.data, .handle, .pinned], laidTests := true, laidLooks := .later }
def GroupForgetsCardSaid : Prop := Claim7.holds Tryd.pinned (.plain (OpenSpec.ofChange groupForgetsSpec)) groupForgetsCard

/-- THE TIED CARD OF 'stavelaw19.GroupLast'. -/
def groupLastCard : Claim7 := { stood := { row := groupLastRow, standIns := [], harness := (true, "fe5dab12bf36e6495169190a837caa037a663887af72be26e146d697779a4692"), looks := true }, kinds := [], alts := [], laidByText := true, laidKinds := [.data, .handle, .pinned], laidTests := true, laidLooks := .later }
def GroupLastCardSaid : Prop := Claim7.holds Tryd.pinned (.plain (OpenSpec.ofChange groupLastSpec)) groupLastCard

/-- THE SECOND FORM's CARD OF 'stavelaw19.GroupRuns'. -/
def groupRunsUptoCard : Claim7 := { stood := { row := groupRunsUptoRow, standIns := [], harness := (true, "fe5dab12bf36e6495169190a837caa037a663887af72be26e146d697779a4692"), looks := true }, kinds := [], alts := [], laidByText := true, laidKinds := [.data, .pinned], laidTests := true, laidLooks := .later }
def GroupRunsUptoCardSaid : Prop := Claim7.holds Tryd.pinned (.plain (OpenSpec.upto groupRunsSpec)) groupRunsUptoCard

/-- THE SECOND FORM's CARD OF 'stavelaw19.GroupNames'. -/
def groupNamesUptoCard : Claim7 := { stood := { row := groupNamesUptoRow, standIns := [], harness := (true, "fe5dab12bf36e6495169190a837caa037a663887af72be26e146d697779a4692"), looks := true }, kinds := [], alts := [], laidByText := true, laidKinds := [.data, .pinned], laidTests := true, laidLooks := .later }
def GroupNamesUptoCardSaid : Prop := Claim7.holds Tryd.pinned (.plain (OpenSpec.upto groupNamesSpec)) groupNamesUptoCard

/-- THE SECOND FORM's CARD OF 'stavelaw19.GroupPlays'. -/
def groupPlaysUptoCard : Claim7 := { stood := { row := groupPlaysUptoRow, standIns := [], harness := (true, "fe5dab12bf36e6495169190a837caa037a663887af72be26e146d697779a4692"), looks := true }, kinds := [], alts := [], laidByText := true, laidKinds := [.data, .handle, .pinned], laidTests := true, laidLooks := .later }
def GroupPlaysUptoCardSaid : Prop := Claim7.holds Tryd.pinned (.plain (OpenSpec.upto groupPlaysSpec)) groupPlaysUptoCard

/-- THE SECOND FORM's CARD OF 'stavelaw19.GroupForgets'. -/
def groupForgetsUptoCard : Claim7 := { stood := { row := groupForgetsUptoRow, standIns := [], harness := (true, "fe5dab12bf36e6495169190a837caa037a663887af72be26e146d697779a4692"), looks := true }, kinds := [], alts := [], laidByText := true, laidKinds := [.data, .handle, .pinned], laidTests := true, laidLooks := .later }
def GroupForgetsUptoCardSaid : Prop := Claim7.holds Tryd.pinned (.plain (OpenSpec.upto groupForgetsSpec)) groupForgetsUptoCard

/-- THE SECOND FORM's CARD OF 'stavelaw19.GroupLast'. -/
def groupLastUptoCard : Claim7 := { stood := { row := groupLastUptoRow, standIns := [], harness := (true, "fe5dab12bf36e6495169190a837caa037a663887af72be26e146d697779a4692"), looks := true }, kinds := [], alts := [], laidByText := true, laidKinds := [.data, .handle, .pinned], laidTests := true, laidLooks := .later }
def GroupLastUptoCardSaid : Prop := Claim7.holds Tryd.pinned (.plain (OpenSpec.upto groupLastSpec)) groupLastUptoCard
end Rows
end Go.Proofs.YtgigibkadbnplaaDoor
