/-
  No cell of these rows narrows 'for every input' (looked for: loops, veiled, ifaces, maps, wideKeys, modest, calm, conditions, laid).
  DERIVED. THE GIVEN ROWS OF THIS SEAT. 9 by the template 'for every input the law returns true; each argument reads behind the call as it read before'; 0 by the template 'total and deterministic' (their statements: YtcggnphoekmoaaaTotals.lean).
  GIVEN WITH THE SEED: the statements are not yours to turn. If you find one false, say at which input.
  Laid BY PROGRAM, IN A SANDBOX (cutbox-rows.mjs): the forced cells as the released guide's own fill.sh prints them over the translation 2c4a3c1d14cae32a… (all of the seat's roots in one cut). By AI agents, Wed Nov 11 2026. No macro, syntax, notation, axiom, sorry.
-/
import Derived.Test.YtcggnphoekmoaaaChecked
import GoSem.Claim
import GoSem.ClaimJoined
import GoSem.ClaimMapViews
import Derived.JoinedTies
import Derived.KernelRfl
namespace Go.Proofs.Ytcggnphoekmoaaa
/- THE CELL 'sum', in the pinned program and in every row, IS THE sha256 OF THE DUMP (.gsa) THAT YtcggnphoekmoaaaProg.lean LOADS. Nothing in Lean hashes anything: it is a label: what it is worth is what the hold of that sum in a sandbox is worth. -/
noncomputable def Try.pinned : Pinned := { name := "ytcggnphoekmoaaa", sum := "2c4a3c1d14cae32acee3102a6ef96790b5e1cd96b7235ec64dcc411220adb289", checked := Try.checked }
namespace Rows
def none {H : Type} : Left H := { results := [], args := [] }

/-- 'stavelaw26.ScriptRuns': WHATEVER THE INPUT: true; the input reads as it did. -/
def scriptRunsSpec : ChangeSpec := { name := "scriptRuns", fn := fun _ => fun
  | [] => { results := [.lit (.bool true)], args := [] }
  | _ => none }
def scriptRunsRow : OpenClaim := { program := "ytcggnphoekmoaaa", sum := "2c4a3c1d14cae32acee3102a6ef96790b5e1cd96b7235ec64dcc411220adb289", func := "stave/stavelaw26.ScriptRuns", spec := "scriptRuns", apart := false }
def ScriptRunsSaid : Prop := scriptRunsRow.holds Try.pinned (OpenSpec.ofChange scriptRunsSpec)

/-- ITS FALSE NEIGHBOUR: 'it returns false'. Refute it at one input. -/
def scriptRunsWrong : ChangeSpec := { name := "scriptRuns", fn := fun _ => fun
  | [] => { results := [.lit (.bool false)], args := [] }
  | _ => none }
def ScriptRunsWrongFalsely : Prop := scriptRunsRow.holds Try.pinned (OpenSpec.ofChange scriptRunsWrong)

/-- 'stavelaw26.ScriptTells': WHATEVER THE INPUT: true; the input reads as it did. -/
def scriptTellsSpec : ChangeSpec := { name := "scriptTells", fn := fun _ => fun
  | [d] => { results := [.lit (.bool true)], args := [d] }
  | _ => none }
def scriptTellsRow : OpenClaim := { program := "ytcggnphoekmoaaa", sum := "2c4a3c1d14cae32acee3102a6ef96790b5e1cd96b7235ec64dcc411220adb289", func := "stave/stavelaw26.ScriptTells", spec := "scriptTells", apart := false }
def ScriptTellsSaid : Prop := scriptTellsRow.holds Try.pinned (OpenSpec.ofChange scriptTellsSpec)

/-- ITS FALSE NEIGHBOUR: 'it returns false'. Refute it at one input. -/
def scriptTellsWrong : ChangeSpec := { name := "scriptTells", fn := fun _ => fun
  | [d] => { results := [.lit (.bool false)], args := [d] }
  | _ => none }
def ScriptTellsWrongFalsely : Prop := scriptTellsRow.holds Try.pinned (OpenSpec.ofChange scriptTellsWrong)

/-- 'stavelaw26.ScriptParts': WHATEVER THE INPUT: true; the input reads as it did. -/
def scriptPartsSpec : ChangeSpec := { name := "scriptParts", fn := fun _ => fun
  | [d1, d2, d3] => { results := [.lit (.bool true)], args := [d1, d2, d3] }
  | _ => none }
def scriptPartsRow : OpenClaim := { program := "ytcggnphoekmoaaa", sum := "2c4a3c1d14cae32acee3102a6ef96790b5e1cd96b7235ec64dcc411220adb289", func := "stave/stavelaw26.ScriptParts", spec := "scriptParts", apart := false }
def ScriptPartsSaid : Prop := scriptPartsRow.holds Try.pinned (OpenSpec.ofChange scriptPartsSpec)

/-- ITS FALSE NEIGHBOUR: 'it returns false'. Refute it at one input. -/
def scriptPartsWrong : ChangeSpec := { name := "scriptParts", fn := fun _ => fun
  | [d1, d2, d3] => { results := [.lit (.bool false)], args := [d1, d2, d3] }
  | _ => none }
def ScriptPartsWrongFalsely : Prop := scriptPartsRow.holds Try.pinned (OpenSpec.ofChange scriptPartsWrong)

/-- 'stavelaw7.FrameRuns': WHATEVER THE INPUT: true; the input reads as it did. -/
def frameRunsSpec : ChangeSpec := { name := "frameRuns", fn := fun _ => fun
  | [] => { results := [.lit (.bool true)], args := [] }
  | _ => none }
def frameRunsRow : OpenClaim := { program := "ytcggnphoekmoaaa", sum := "2c4a3c1d14cae32acee3102a6ef96790b5e1cd96b7235ec64dcc411220adb289", func := "stave/stavelaw7.FrameRuns", spec := "frameRuns", apart := false }
def FrameRunsSaid : Prop := frameRunsRow.holds Try.pinned (OpenSpec.ofChange frameRunsSpec)

/-- ITS FALSE NEIGHBOUR: 'it returns false'. Refute it at one input. -/
def frameRunsWrong : ChangeSpec := { name := "frameRuns", fn := fun _ => fun
  | [] => { results := [.lit (.bool false)], args := [] }
  | _ => none }
def FrameRunsWrongFalsely : Prop := frameRunsRow.holds Try.pinned (OpenSpec.ofChange frameRunsWrong)

/-- 'stavelaw7.FrameTells': WHATEVER THE INPUT: true; the input reads as it did. -/
def frameTellsSpec : ChangeSpec := { name := "frameTells", fn := fun _ => fun
  | [d1, d2, d3, d4] => { results := [.lit (.bool true)], args := [d1, d2, d3, d4] }
  | _ => none }
def frameTellsRow : OpenClaim := { program := "ytcggnphoekmoaaa", sum := "2c4a3c1d14cae32acee3102a6ef96790b5e1cd96b7235ec64dcc411220adb289", func := "stave/stavelaw7.FrameTells", spec := "frameTells", apart := false }
def FrameTellsSaid : Prop := frameTellsRow.holds Try.pinned (OpenSpec.ofChange frameTellsSpec)

/-- ITS FALSE NEIGHBOUR: 'it returns false'. Refute it at one input. -/
def frameTellsWrong : ChangeSpec := { name := "frameTells", fn := fun _ => fun
  | [d1, d2, d3, d4] => { results := [.lit (.bool false)], args := [d1, d2, d3, d4] }
  | _ => none }
def FrameTellsWrongFalsely : Prop := frameTellsRow.holds Try.pinned (OpenSpec.ofChange frameTellsWrong)

/-- 'stavelaw7.FrameBurst': WHATEVER THE INPUT: true; the input reads as it did. -/
def frameBurstSpec : ChangeSpec := { name := "frameBurst", fn := fun _ => fun
  | [d1, d2, d3] => { results := [.lit (.bool true)], args := [d1, d2, d3] }
  | _ => none }
def frameBurstRow : OpenClaim := { program := "ytcggnphoekmoaaa", sum := "2c4a3c1d14cae32acee3102a6ef96790b5e1cd96b7235ec64dcc411220adb289", func := "stave/stavelaw7.FrameBurst", spec := "frameBurst", apart := false }
def FrameBurstSaid : Prop := frameBurstRow.holds Try.pinned (OpenSpec.ofChange frameBurstSpec)

/-- ITS FALSE NEIGHBOUR: 'it returns false'. Refute it at one input. -/
def frameBurstWrong : ChangeSpec := { name := "frameBurst", fn := fun _ => fun
  | [d1, d2, d3] => { results := [.lit (.bool false)], args := [d1, d2, d3] }
  | _ => none }
def FrameBurstWrongFalsely : Prop := frameBurstRow.holds Try.pinned (OpenSpec.ofChange frameBurstWrong)

/-- 'stavelaw7.FrameApart': WHATEVER THE INPUT: true; the input reads as it did. -/
def frameApartSpec : ChangeSpec := { name := "frameApart", fn := fun _ => fun
  | [d1, d2, d3, d4] => { results := [.lit (.bool true)], args := [d1, d2, d3, d4] }
  | _ => none }
def frameApartRow : OpenClaim := { program := "ytcggnphoekmoaaa", sum := "2c4a3c1d14cae32acee3102a6ef96790b5e1cd96b7235ec64dcc411220adb289", func := "stave/stavelaw7.FrameApart", spec := "frameApart", apart := false }
def FrameApartSaid : Prop := frameApartRow.holds Try.pinned (OpenSpec.ofChange frameApartSpec)

/-- ITS FALSE NEIGHBOUR: 'it returns false'. Refute it at one input. -/
def frameApartWrong : ChangeSpec := { name := "frameApart", fn := fun _ => fun
  | [d1, d2, d3, d4] => { results := [.lit (.bool false)], args := [d1, d2, d3, d4] }
  | _ => none }
def FrameApartWrongFalsely : Prop := frameApartRow.holds Try.pinned (OpenSpec.ofChange frameApartWrong)

/-- 'stavelaw7.FrameEnds': WHATEVER THE INPUT: true; the input reads as it did. -/
def frameEndsSpec : ChangeSpec := { name := "frameEnds", fn := fun _ => fun
  | [d1, d2] => { results := [.lit (.bool true)], args := [d1, d2] }
  | _ => none }
def frameEndsRow : OpenClaim := { program := "ytcggnphoekmoaaa", sum := "2c4a3c1d14cae32acee3102a6ef96790b5e1cd96b7235ec64dcc411220adb289", func := "stave/stavelaw7.FrameEnds", spec := "frameEnds", apart := false }
def FrameEndsSaid : Prop := frameEndsRow.holds Try.pinned (OpenSpec.ofChange frameEndsSpec)

/-- ITS FALSE NEIGHBOUR: 'it returns false'. Refute it at one input. -/
def frameEndsWrong : ChangeSpec := { name := "frameEnds", fn := fun _ => fun
  | [d1, d2] => { results := [.lit (.bool false)], args := [d1, d2] }
  | _ => none }
def FrameEndsWrongFalsely : Prop := frameEndsRow.holds Try.pinned (OpenSpec.ofChange frameEndsWrong)

/-- 'stavelaw7.FrameOnly': WHATEVER THE INPUT: true; the input reads as it did. -/
def frameOnlySpec : ChangeSpec := { name := "frameOnly", fn := fun _ => fun
  | [d1, d2, d3, d4] => { results := [.lit (.bool true)], args := [d1, d2, d3, d4] }
  | _ => none }
def frameOnlyRow : OpenClaim := { program := "ytcggnphoekmoaaa", sum := "2c4a3c1d14cae32acee3102a6ef96790b5e1cd96b7235ec64dcc411220adb289", func := "stave/stavelaw7.FrameOnly", spec := "frameOnly", apart := false }
def FrameOnlySaid : Prop := frameOnlyRow.holds Try.pinned (OpenSpec.ofChange frameOnlySpec)

/-- ITS FALSE NEIGHBOUR: 'it returns false'. Refute it at one input. -/
def frameOnlyWrong : ChangeSpec := { name := "frameOnly", fn := fun _ => fun
  | [d1, d2, d3, d4] => { results := [.lit (.bool false)], args := [d1, d2, d3, d4] }
  | _ => none }
def FrameOnlyWrongFalsely : Prop := frameOnlyRow.holds Try.pinned (OpenSpec.ofChange frameOnlyWrong)

/- THE SECOND FORM. 'bulk': how many values and letters a reading holds, each counted each time it is reached (what is shared counts as often as it is met; a slice's spare places count too). A statement '..UptoSaid' is the law's where the arguments, and the package variables that the reading takes, are together of bulk at most 1048576: NARROWER than '..Said'. Prove '..Said' where nothing that the law and all that it calls make is longer than what came in: it says more and counts as full. Else prove '..UptoSaid'. A law counts once. -/
mutual
def uptoBulk {H : Type} : DataW H → Nat
  | .lit (.string bytes) => bytes.length + 1
  | .lit _ => 1
  | .nil => 1
  | .ptr d => uptoBulk d + 1
  | .slice elems spare => uptoBulkAll elems + uptoBulkAll spare + 1
  | .agg parts => uptoBulkAll parts + 1
  | .iface _ d => uptoBulk d + 1
  | .map entries => uptoBulkEntries entries + 1
  | .held _ => 1
def uptoBulkAll {H : Type} : List (DataW H) → Nat
  | [] => 0
  | d :: r => uptoBulk d + uptoBulkAll r
def uptoBulkEntries {H : Type} : List (Lit × DataW H) → Nat
  | [] => 0
  | x :: r => uptoBulkEntry x + uptoBulkEntries r
def uptoBulkEntry {H : Type} : Lit × DataW H → Nat
  | (.string bytes, d) => bytes.length + uptoBulk d + 1
  | (_, d) => uptoBulk d + 1
 end
def uptoSmall : (H : Type) → List (DataW H) → Bool := fun _ ds => decide (uptoBulkAll ds ≤ 1048576)
def OpenSpec.upto (s : _root_.Go.ChangeSpec) : _root_.Go.OpenSpec := { _root_.Go.OpenSpec.ofChange s with cond := some uptoSmall }

/-- 'stavelaw26.ScriptRuns', WHERE WHAT IT READS IS OF BULK AT MOST 1048576: true; the input reads as it did. -/
def scriptRunsUptoRow : OpenClaim := { program := "ytcggnphoekmoaaa", sum := "2c4a3c1d14cae32acee3102a6ef96790b5e1cd96b7235ec64dcc411220adb289", func := "stave/stavelaw26.ScriptRuns", spec := "scriptRuns", apart := false, narrowed := true }
def ScriptRunsUptoSaid : Prop := scriptRunsUptoRow.holds Try.pinned (OpenSpec.upto scriptRunsSpec)

/-- 'stavelaw26.ScriptTells', WHERE WHAT IT READS IS OF BULK AT MOST 1048576: true; the input reads as it did. -/
def scriptTellsUptoRow : OpenClaim := { program := "ytcggnphoekmoaaa", sum := "2c4a3c1d14cae32acee3102a6ef96790b5e1cd96b7235ec64dcc411220adb289", func := "stave/stavelaw26.ScriptTells", spec := "scriptTells", apart := false, narrowed := true }
def ScriptTellsUptoSaid : Prop := scriptTellsUptoRow.holds Try.pinned (OpenSpec.upto scriptTellsSpec)

/-- 'stavelaw26.ScriptParts', WHERE WHAT IT READS IS OF BULK AT MOST 1048576: true; the input reads as it did. -/
def scriptPartsUptoRow : OpenClaim := { program := "ytcggnphoekmoaaa", sum := "2c4a3c1d14cae32acee3102a6ef96790b5e1cd96b7235ec64dcc411220adb289", func := "stave/stavelaw26.ScriptParts", spec := "scriptParts", apart := false, narrowed := true }
def ScriptPartsUptoSaid : Prop := scriptPartsUptoRow.holds Try.pinned (OpenSpec.upto scriptPartsSpec)

/-- 'stavelaw7.FrameRuns', WHERE WHAT IT READS IS OF BULK AT MOST 1048576: true; the input reads as it did. -/
def frameRunsUptoRow : OpenClaim := { program := "ytcggnphoekmoaaa", sum := "2c4a3c1d14cae32acee3102a6ef96790b5e1cd96b7235ec64dcc411220adb289", func := "stave/stavelaw7.FrameRuns", spec := "frameRuns", apart := false, narrowed := true }
def FrameRunsUptoSaid : Prop := frameRunsUptoRow.holds Try.pinned (OpenSpec.upto frameRunsSpec)

/-- 'stavelaw7.FrameTells', WHERE WHAT IT READS IS OF BULK AT MOST 1048576: true; the input reads as it did. -/
def frameTellsUptoRow : OpenClaim := { program := "ytcggnphoekmoaaa", sum := "2c4a3c1d14cae32acee3102a6ef96790b5e1cd96b7235ec64dcc411220adb289", func := "stave/stavelaw7.FrameTells", spec := "frameTells", apart := false, narrowed := true }
def FrameTellsUptoSaid : Prop := frameTellsUptoRow.holds Try.pinned (OpenSpec.upto frameTellsSpec)

/-- 'stavelaw7.FrameBurst', WHERE WHAT IT READS IS OF BULK AT MOST 1048576: true; the input reads as it did. -/
def frameBurstUptoRow : OpenClaim := { program := "ytcggnphoekmoaaa", sum := "2c4a3c1d14cae32acee3102a6ef96790b5e1cd96b7235ec64dcc411220adb289", func := "stave/stavelaw7.FrameBurst", spec := "frameBurst", apart := false, narrowed := true }
def FrameBurstUptoSaid : Prop := frameBurstUptoRow.holds Try.pinned (OpenSpec.upto frameBurstSpec)

/-- 'stavelaw7.FrameApart', WHERE WHAT IT READS IS OF BULK AT MOST 1048576: true; the input reads as it did. -/
def frameApartUptoRow : OpenClaim := { program := "ytcggnphoekmoaaa", sum := "2c4a3c1d14cae32acee3102a6ef96790b5e1cd96b7235ec64dcc411220adb289", func := "stave/stavelaw7.FrameApart", spec := "frameApart", apart := false, narrowed := true }
def FrameApartUptoSaid : Prop := frameApartUptoRow.holds Try.pinned (OpenSpec.upto frameApartSpec)

/-- 'stavelaw7.FrameEnds', WHERE WHAT IT READS IS OF BULK AT MOST 1048576: true; the input reads as it did. -/
def frameEndsUptoRow : OpenClaim := { program := "ytcggnphoekmoaaa", sum := "2c4a3c1d14cae32acee3102a6ef96790b5e1cd96b7235ec64dcc411220adb289", func := "stave/stavelaw7.FrameEnds", spec := "frameEnds", apart := false, narrowed := true }
def FrameEndsUptoSaid : Prop := frameEndsUptoRow.holds Try.pinned (OpenSpec.upto frameEndsSpec)

/-- 'stavelaw7.FrameOnly', WHERE WHAT IT READS IS OF BULK AT MOST 1048576: true; the input reads as it did. -/
def frameOnlyUptoRow : OpenClaim := { program := "ytcggnphoekmoaaa", sum := "2c4a3c1d14cae32acee3102a6ef96790b5e1cd96b7235ec64dcc411220adb289", func := "stave/stavelaw7.FrameOnly", spec := "frameOnly", apart := false, narrowed := true }
def FrameOnlyUptoSaid : Prop := frameOnlyUptoRow.holds Try.pinned (OpenSpec.upto frameOnlySpec)

end Rows
end Go.Proofs.Ytcggnphoekmoaaa
