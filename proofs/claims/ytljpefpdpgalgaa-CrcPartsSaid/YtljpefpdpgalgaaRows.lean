/-
  No cell of these rows narrows 'for every input' (looked for: loops, veiled, ifaces, maps, wideKeys, modest, calm, conditions, laid).
  DERIVED. THE GIVEN ROWS OF THIS SEAT. 6 by the template 'for every input the law returns true; each argument reads behind the call as it read before'; 0 by the template 'total and deterministic' (their statements: YtljpefpdpgalgaaTotals.lean).
  GIVEN WITH THE SEED: the statements are not yours to turn. If you find one false, say at which input.
  Laid BY PROGRAM, IN A SANDBOX (cutbox-rows.mjs): the forced cells as the released guide's own fill.sh prints them over the translation 7e8c4bc0d0abfd45… (all of the seat's roots in one cut). By AI agents, Wed Nov 11 2026. No macro, syntax, notation, axiom, sorry.
-/
import Derived.Test.YtljpefpdpgalgaaChecked
import GoSem.Claim
import GoSem.ClaimJoined
import GoSem.ClaimMapViews
import Derived.JoinedTies
import Derived.KernelRfl
namespace Go.Proofs.Ytljpefpdpgalgaa
/- THE CELL 'sum', in the pinned program and in every row, IS THE sha256 OF THE DUMP (.gsa) THAT YtljpefpdpgalgaaProg.lean LOADS. Nothing in Lean hashes anything: it is a label: what it is worth is what the hold of that sum in a sandbox is worth. -/
noncomputable def Try.pinned : Pinned := { name := "ytljpefpdpgalgaa", sum := "7e8c4bc0d0abfd4526e8966cab2025503f3fc9b5d5a9edd82d28cd68b5763a3d", checked := Try.checked }
namespace Rows
def none {H : Type} : Left H := { results := [], args := [] }

/-- 'stavelaw5.CrcRuns': WHATEVER THE INPUT: true; the input reads as it did. -/
def crcRunsSpec : ChangeSpec := { name := "crcRuns", fn := fun _ => fun
  | [] => { results := [.lit (.bool true)], args := [] }
  | _ => none }
def crcRunsRow : OpenClaim := { program := "ytljpefpdpgalgaa", sum := "7e8c4bc0d0abfd4526e8966cab2025503f3fc9b5d5a9edd82d28cd68b5763a3d", func := "stave/stavelaw5.CrcRuns", spec := "crcRuns", apart := false }
def CrcRunsSaid : Prop := crcRunsRow.holds Try.pinned (OpenSpec.ofChange crcRunsSpec)

/-- ITS FALSE NEIGHBOUR: 'it returns false'. Refute it at one input. -/
def crcRunsWrong : ChangeSpec := { name := "crcRuns", fn := fun _ => fun
  | [] => { results := [.lit (.bool false)], args := [] }
  | _ => none }
def CrcRunsWrongFalsely : Prop := crcRunsRow.holds Try.pinned (OpenSpec.ofChange crcRunsWrong)

/-- 'stavelaw5.CrcTells': WHATEVER THE INPUT: true; the input reads as it did. -/
def crcTellsSpec : ChangeSpec := { name := "crcTells", fn := fun _ => fun
  | [d1, d2] => { results := [.lit (.bool true)], args := [d1, d2] }
  | _ => none }
def crcTellsRow : OpenClaim := { program := "ytljpefpdpgalgaa", sum := "7e8c4bc0d0abfd4526e8966cab2025503f3fc9b5d5a9edd82d28cd68b5763a3d", func := "stave/stavelaw5.CrcTells", spec := "crcTells", apart := false }
def CrcTellsSaid : Prop := crcTellsRow.holds Try.pinned (OpenSpec.ofChange crcTellsSpec)

/-- ITS FALSE NEIGHBOUR: 'it returns false'. Refute it at one input. -/
def crcTellsWrong : ChangeSpec := { name := "crcTells", fn := fun _ => fun
  | [d1, d2] => { results := [.lit (.bool false)], args := [d1, d2] }
  | _ => none }
def CrcTellsWrongFalsely : Prop := crcTellsRow.holds Try.pinned (OpenSpec.ofChange crcTellsWrong)

/-- 'stavelaw5.CrcTurned': WHATEVER THE INPUT: true; the input reads as it did. -/
def crcTurnedSpec : ChangeSpec := { name := "crcTurned", fn := fun _ => fun
  | [d1, d2, d3] => { results := [.lit (.bool true)], args := [d1, d2, d3] }
  | _ => none }
def crcTurnedRow : OpenClaim := { program := "ytljpefpdpgalgaa", sum := "7e8c4bc0d0abfd4526e8966cab2025503f3fc9b5d5a9edd82d28cd68b5763a3d", func := "stave/stavelaw5.CrcTurned", spec := "crcTurned", apart := false }
def CrcTurnedSaid : Prop := crcTurnedRow.holds Try.pinned (OpenSpec.ofChange crcTurnedSpec)

/-- ITS FALSE NEIGHBOUR: 'it returns false'. Refute it at one input. -/
def crcTurnedWrong : ChangeSpec := { name := "crcTurned", fn := fun _ => fun
  | [d1, d2, d3] => { results := [.lit (.bool false)], args := [d1, d2, d3] }
  | _ => none }
def CrcTurnedWrongFalsely : Prop := crcTurnedRow.holds Try.pinned (OpenSpec.ofChange crcTurnedWrong)

/-- 'stavelaw5.CrcLinear': WHATEVER THE INPUT: true; the input reads as it did. -/
def crcLinearSpec : ChangeSpec := { name := "crcLinear", fn := fun _ => fun
  | [d1, d2, d3] => { results := [.lit (.bool true)], args := [d1, d2, d3] }
  | _ => none }
def crcLinearRow : OpenClaim := { program := "ytljpefpdpgalgaa", sum := "7e8c4bc0d0abfd4526e8966cab2025503f3fc9b5d5a9edd82d28cd68b5763a3d", func := "stave/stavelaw5.CrcLinear", spec := "crcLinear", apart := false }
def CrcLinearSaid : Prop := crcLinearRow.holds Try.pinned (OpenSpec.ofChange crcLinearSpec)

/-- ITS FALSE NEIGHBOUR: 'it returns false'. Refute it at one input. -/
def crcLinearWrong : ChangeSpec := { name := "crcLinear", fn := fun _ => fun
  | [d1, d2, d3] => { results := [.lit (.bool false)], args := [d1, d2, d3] }
  | _ => none }
def CrcLinearWrongFalsely : Prop := crcLinearRow.holds Try.pinned (OpenSpec.ofChange crcLinearWrong)

/-- 'stavelaw5.CrcParts': WHATEVER THE INPUT: true; the input reads as it did. -/
def crcPartsSpec : ChangeSpec := { name := "crcParts", fn := fun _ => fun
  | [d] => { results := [.lit (.bool true)], args := [d] }
  | _ => none }
def crcPartsRow : OpenClaim := { program := "ytljpefpdpgalgaa", sum := "7e8c4bc0d0abfd4526e8966cab2025503f3fc9b5d5a9edd82d28cd68b5763a3d", func := "stave/stavelaw5.CrcParts", spec := "crcParts", apart := false }
def CrcPartsSaid : Prop := crcPartsRow.holds Try.pinned (OpenSpec.ofChange crcPartsSpec)

/-- ITS FALSE NEIGHBOUR: 'it returns false'. Refute it at one input. -/
def crcPartsWrong : ChangeSpec := { name := "crcParts", fn := fun _ => fun
  | [d] => { results := [.lit (.bool false)], args := [d] }
  | _ => none }
def CrcPartsWrongFalsely : Prop := crcPartsRow.holds Try.pinned (OpenSpec.ofChange crcPartsWrong)

/-- 'stavelaw5.CrcNear': WHATEVER THE INPUT: true; the input reads as it did. -/
def crcNearSpec : ChangeSpec := { name := "crcNear", fn := fun _ => fun
  | [d1, d2, d3, d4] => { results := [.lit (.bool true)], args := [d1, d2, d3, d4] }
  | _ => none }
def crcNearRow : OpenClaim := { program := "ytljpefpdpgalgaa", sum := "7e8c4bc0d0abfd4526e8966cab2025503f3fc9b5d5a9edd82d28cd68b5763a3d", func := "stave/stavelaw5.CrcNear", spec := "crcNear", apart := false }
def CrcNearSaid : Prop := crcNearRow.holds Try.pinned (OpenSpec.ofChange crcNearSpec)

/-- ITS FALSE NEIGHBOUR: 'it returns false'. Refute it at one input. -/
def crcNearWrong : ChangeSpec := { name := "crcNear", fn := fun _ => fun
  | [d1, d2, d3, d4] => { results := [.lit (.bool false)], args := [d1, d2, d3, d4] }
  | _ => none }
def CrcNearWrongFalsely : Prop := crcNearRow.holds Try.pinned (OpenSpec.ofChange crcNearWrong)

/- THE SECOND FORM. 'bulk': how many values and letters a reading holds, each counted each time it is reached (what is shared counts as often as it is met; a slice's spare places count too). A statement '..UptoSaid' is the law's where the arguments, and the package variables that the reading takes, are together of bulk at most 1048576: NARROWER than '..Said'. Prove '..Said' where nothing that the law and all that it calls make is longer than what came in: it says more and counts as full. Else prove '..UptoSaid'. A law counts once. -/
mutual
def uptoBulk {H : Type} : DataW H → Nat
  | .lit (.string bytes) => bytes.length + 1
  | .lit _ => 1
  | .nil => 1
  | .ptr d => uptoBulk d + 1
  | .slice elems spare => uptoBulkAll elems + uptoBulkAll spare + 1
  | .agg parts => uptoBulkAll parts + 1
  | .iface _ d => uptoBulk d + 1
  | .map entries => uptoBulkEntries entries + 1
  | .held _ => 1
def uptoBulkAll {H : Type} : List (DataW H) → Nat
  | [] => 0
  | d :: r => uptoBulk d + uptoBulkAll r
def uptoBulkEntries {H : Type} : List (Lit × DataW H) → Nat
  | [] => 0
  | x :: r => uptoBulkEntry x + uptoBulkEntries r
def uptoBulkEntry {H : Type} : Lit × DataW H → Nat
  | (.string bytes, d) => bytes.length + uptoBulk d + 1
  | (_, d) => uptoBulk d + 1
 end
def uptoSmall : (H : Type) → List (DataW H) → Bool := fun _ ds => decide (uptoBulkAll ds ≤ 1048576)
def OpenSpec.upto (s : _root_.Go.ChangeSpec) : _root_.Go.OpenSpec := { _root_.Go.OpenSpec.ofChange s with cond := some uptoSmall }

/-- 'stavelaw5.CrcRuns', WHERE WHAT IT READS IS OF BULK AT MOST 1048576: true; the input reads as it did. -/
def crcRunsUptoRow : OpenClaim := { program := "ytljpefpdpgalgaa", sum := "7e8c4bc0d0abfd4526e8966cab2025503f3fc9b5d5a9edd82d28cd68b5763a3d", func := "stave/stavelaw5.CrcRuns", spec := "crcRuns", apart := false, narrowed := true }
def CrcRunsUptoSaid : Prop := crcRunsUptoRow.holds Try.pinned (OpenSpec.upto crcRunsSpec)

/-- 'stavelaw5.CrcTells', WHERE WHAT IT READS IS OF BULK AT MOST 1048576: true; the input reads as it did. -/
def crcTellsUptoRow : OpenClaim := { program := "ytljpefpdpgalgaa", sum := "7e8c4bc0d0abfd4526e8966cab2025503f3fc9b5d5a9edd82d28cd68b5763a3d", func := "stave/stavelaw5.CrcTells", spec := "crcTells", apart := false, narrowed := true }
def CrcTellsUptoSaid : Prop := crcTellsUptoRow.holds Try.pinned (OpenSpec.upto crcTellsSpec)

/-- 'stavelaw5.CrcTurned', WHERE WHAT IT READS IS OF BULK AT MOST 1048576: true; the input reads as it did. -/
def crcTurnedUptoRow : OpenClaim := { program := "ytljpefpdpgalgaa", sum := "7e8c4bc0d0abfd4526e8966cab2025503f3fc9b5d5a9edd82d28cd68b5763a3d", func := "stave/stavelaw5.CrcTurned", spec := "crcTurned", apart := false, narrowed := true }
def CrcTurnedUptoSaid : Prop := crcTurnedUptoRow.holds Try.pinned (OpenSpec.upto crcTurnedSpec)

/-- 'stavelaw5.CrcLinear', WHERE WHAT IT READS IS OF BULK AT MOST 1048576: true; the input reads as it did. -/
def crcLinearUptoRow : OpenClaim := { program := "ytljpefpdpgalgaa", sum := "7e8c4bc0d0abfd4526e8966cab2025503f3fc9b5d5a9edd82d28cd68b5763a3d", func := "stave/stavelaw5.CrcLinear", spec := "crcLinear", apart := false, narrowed := true }
def CrcLinearUptoSaid : Prop := crcLinearUptoRow.holds Try.pinned (OpenSpec.upto crcLinearSpec)

/-- 'stavelaw5.CrcParts', WHERE WHAT IT READS IS OF BULK AT MOST 1048576: true; the input reads as it did. -/
def crcPartsUptoRow : OpenClaim := { program := "ytljpefpdpgalgaa", sum := "7e8c4bc0d0abfd4526e8966cab2025503f3fc9b5d5a9edd82d28cd68b5763a3d", func := "stave/stavelaw5.CrcParts", spec := "crcParts", apart := false, narrowed := true }
def CrcPartsUptoSaid : Prop := crcPartsUptoRow.holds Try.pinned (OpenSpec.upto crcPartsSpec)

/-- 'stavelaw5.CrcNear', WHERE WHAT IT READS IS OF BULK AT MOST 1048576: true; the input reads as it did. -/
def crcNearUptoRow : OpenClaim := { program := "ytljpefpdpgalgaa", sum := "7e8c4bc0d0abfd4526e8966cab2025503f3fc9b5d5a9edd82d28cd68b5763a3d", func := "stave/stavelaw5.CrcNear", spec := "crcNear", apart := false, narrowed := true }
def CrcNearUptoSaid : Prop := crcNearUptoRow.holds Try.pinned (OpenSpec.upto crcNearSpec)

end Rows
end Go.Proofs.Ytljpefpdpgalgaa
