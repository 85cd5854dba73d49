/-
  DERIVED. GIVEN WITH THE SEED: THE CARDS: each row of YtpfdbbcfcimmfaaDoorRows.lean that lists a variable, with what it lists TIED to the program's text (the seventh form; the later family's looks); each row that meets fmt, with fmt's text TOLD by the authors' own Lean function (tested against real Go, not proved from fmt's source: count such statements apart). THE CARD IS WHAT COUNTS. Prove the row's statement (the work); the ties are given (YtpfdbbcfcimmfaaDoorTie.lean); close each card by the builder's one call (the guide's Derived/Test/ToyasCard.lean, 'card_holds'). Laid BY PROGRAM, IN A SANDBOX (cutbox-door.mjs). By AI agents, Wed Nov 11 2026. No macro, syntax, notation, axiom, sorry.
-/
import Derived.Test.YtpfdbbcfcimmfaaDoorRows
import GoSem.ClaimSeven
namespace Go.Proofs.YtpfdbbcfcimmfaaDoor
namespace Rows

/-- THE TIED CARD OF 'stavelaw20.EntryRuns'. -/
def entryRunsCard : Claim7 := { stood := { row := entryRunsRow, standIns := [], harness := (true, "e29db42e17566b11ca0ed9f0f57f47d0d6ff0d915e08f3bb44e0fae138e498cc"), looks := true }, kinds := [], alts := [], laidByText := true, laidKinds := [.data, .pinned], laidTests := true, laidLooks := .later }
def EntryRunsCardSaid : Prop := Claim7.holds Tryd.pinned (.plain (OpenSpec.ofChange entryRunsSpec)) entryRunsCard

/-- THE TIED CARD OF 'stavelaw20.EntryOnly'. -/
def entryOnlyCard : Claim7 := { stood := { row := entryOnlyRow, standIns := [], harness := (true, "e29db42e17566b11ca0ed9f0f57f47d0d6ff0d915e08f3bb44e0fae138e498cc"), looks := true }, kinds := [], alts := [], laidByText := true, laidKinds := [.data, .pinned], laidTests := true, laidLooks := .later }
def EntryOnlyCardSaid : Prop := Claim7.holds Tryd.pinned (.plain (OpenSpec.ofChange entryOnlySpec)) entryOnlyCard

/-- THE TIED CARD OF 'stavelaw20.EntryCanon'. -/
def entryCanonCard : Claim7 := { stood := { row := entryCanonRow, standIns := [], harness := (true, "e29db42e17566b11ca0ed9f0f57f47d0d6ff0d915e08f3bb44e0fae138e498cc"), looks := true }, kinds := [], alts := [], laidByText := true, laidKinds := [.data, .pinned], laidTests := true, laidLooks := .later }
def EntryCanonCardSaid : Prop := Claim7.holds Tryd.pinned (.plain (OpenSpec.ofChange entryCanonSpec)) entryCanonCard

/-- THE TIED CARD OF 'stavelaw20.EntryBack'. -/
def entryBackCard : Claim7 := { stood := { row := entryBackRow, standIns := [], harness := (true, "e29db42e17566b11ca0ed9f0f57f47d0d6ff0d915e08f3bb44e0fae138e498cc"), looks := true }, kinds := [], alts := [], laidByText := true, laidKinds := [.data, .handle, .pinned], laidTests := true, laidLooks := .later }
def EntryBackCardSaid : Prop := Claim7.holds Tryd.pinned (.plain (OpenSpec.ofChange entryBackSpec)) entryBackCard

/-- THE TIED CARD OF 'stavelaw20.EntryKinds'. -/
def entryKindsCard : Claim7 := { stood := { row := entryKindsRow, standIns := [], harness := (true, "e29db42e17566b11ca0ed9f0f57f47d0d6ff0d915e08f3bb44e0fae138e498cc"), looks := true }, kinds := [], alts := [], laidByText := true, laidKinds := [.data, .handle, .pinned], laidTests := true, laidLooks := .later }
def EntryKindsCardSaid : Prop := Claim7.holds Tryd.pinned (.plain (OpenSpec.ofChange entryKindsSpec)) entryKindsCard

/-- THE SECOND FORM's CARD OF 'stavelaw20.EntryRuns'. -/
def entryRunsUptoCard : Claim7 := { stood := { row := entryRunsUptoRow, standIns := [], harness := (true, "e29db42e17566b11ca0ed9f0f57f47d0d6ff0d915e08f3bb44e0fae138e498cc"), looks := true }, kinds := [], alts := [], laidByText := true, laidKinds := [.data, .pinned], laidTests := true, laidLooks := .later }
def EntryRunsUptoCardSaid : Prop := Claim7.holds Tryd.pinned (.plain (OpenSpec.upto entryRunsSpec)) entryRunsUptoCard

/-- THE SECOND FORM's CARD OF 'stavelaw20.EntryOnly'. -/
def entryOnlyUptoCard : Claim7 := { stood := { row := entryOnlyUptoRow, standIns := [], harness := (true, "e29db42e17566b11ca0ed9f0f57f47d0d6ff0d915e08f3bb44e0fae138e498cc"), looks := true }, kinds := [], alts := [], laidByText := true, laidKinds := [.data, .pinned], laidTests := true, laidLooks := .later }
def EntryOnlyUptoCardSaid : Prop := Claim7.holds Tryd.pinned (.plain (OpenSpec.upto entryOnlySpec)) entryOnlyUptoCard

/-- THE SECOND FORM's CARD OF 'stavelaw20.EntryCanon'. -/
def entryCanonUptoCard : Claim7 := { stood := { row := entryCanonUptoRow, standIns := [], harness := (true, "e29db42e17566b11ca0ed9f0f57f47d0d6ff0d915e08f3bb44e0fae138e498cc"), looks := true }, kinds := [], alts := [], laidByText := true, laidKinds := [.data, .pinned], laidTests := true, laidLooks := .later }
def EntryCanonUptoCardSaid : Prop := Claim7.holds Tryd.pinned (.plain (OpenSpec.upto entryCanonSpec)) entryCanonUptoCard

/-- THE SECOND FORM's CARD OF 'stavelaw20.EntryBack'. -/
def entryBackUptoCard : Claim7 := { stood := { row := entryBackUptoRow, standIns := [], harness := (true, "e29db42e17566b11ca0ed9f0f57f47d0d6ff0d915e08f3bb44e0fae138e498cc"), looks := true }, kinds := [], alts := [], laidByText := true, laidKinds := [.data, .handle, .pinned], laidTests := true, laidLooks := .later }
def EntryBackUptoCardSaid : Prop := Claim7.holds Tryd.pinned (.plain (OpenSpec.upto entryBackSpec)) entryBackUptoCard

/-- THE SECOND FORM's CARD OF 'stavelaw20.EntryKinds'. -/
def entryKindsUptoCard : Claim7 := { stood := { row := entryKindsUptoRow, standIns := [], harness := (true, "e29db42e17566b11ca0ed9f0f57f47d0d6ff0d915e08f3bb44e0fae138e498cc"), looks := true }, kinds := [], alts := [], laidByText := true, laidKinds := [.data, .handle, .pinned], laidTests := true, laidLooks := .later }
def EntryKindsUptoCardSaid : Prop := Claim7.holds Tryd.pinned (.plain (OpenSpec.upto entryKindsSpec)) entryKindsUptoCard
end Rows
end Go.Proofs.YtpfdbbcfcimmfaaDoor
