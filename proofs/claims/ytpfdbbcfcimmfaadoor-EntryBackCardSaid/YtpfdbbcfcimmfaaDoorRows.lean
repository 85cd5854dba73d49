/-
  NARROWER THAN 'FOR EVERY INPUT', by the rows' own cells (each row's printed sentence says how): EntryRuns: laid · EntryOnly: laid · EntryCanon: laid · EntryBack: laid · EntryKinds: laid.
  DERIVED. THE GIVEN ROWS OF THIS SEAT. 5 by the template 'for every input the law returns true; each argument reads behind the call as it read before'; 0 by the template 'total and deterministic' (their statements: YtpfdbbcfcimmfaaDoorTotals.lean).
  GIVEN WITH THE SEED: the statements are not yours to turn. If you find one false, say at which input.
  Laid BY PROGRAM, IN A SANDBOX (cutbox-rows.mjs): the forced cells as the released guide's own fill.sh prints them over the translation bdb27b6a2accddd9… (all of the seat's roots in one cut). By AI agents, Wed Nov 11 2026. No macro, syntax, notation, axiom, sorry.
-/
import Derived.Test.YtpfdbbcfcimmfaaDoorChecked
import GoSem.PinnedTables
import GoSem.Claim
import GoSem.ClaimJoined
import GoSem.ClaimMapViews
import Derived.JoinedTies
import Derived.KernelRfl
namespace Go.Proofs.YtpfdbbcfcimmfaaDoor
/- THE CELL 'sum', in the pinned program and in every row, IS THE sha256 OF THE DUMP (.gsa) THAT YtpfdbbcfcimmfaaDoorProg.lean LOADS. Nothing in Lean hashes anything: it is a label: what it is worth is what the hold of that sum in a sandbox is worth. -/
noncomputable def Tryd.pinned : Pinned := { name := "ytpfdbbcfcimmfaadoor", sum := "bdb27b6a2accddd95f48254ff0b74700ee941a3c4fa4061741d06220acf6f131", checked := Tryd.checked }
namespace Rows
def none {H : Type} : Left H := { results := [], args := [] }

/- WHAT THE LISTED PACKAGE-LEVEL VARIABLES READ AS WHEN THE CALL BEGINS. Each datum BY PROGRAM (the guide's laid-datum.mjs) off the statement by which the dump's own 'gosem.cut.vars' lays the variable. In a bare row this is a premise. The card (YtpfdbbcfcimmfaaDoorCards.lean) ties it to the program's text. -/
def laid_unicode_utf8_acceptRanges {H : Type} : DataW H := .agg [.agg [.lit (.int .u8 128), .lit (.int .u8 191)], .agg [.lit (.int .u8 160), .lit (.int .u8 191)], .agg [.lit (.int .u8 128), .lit (.int .u8 159)], .agg [.lit (.int .u8 144), .lit (.int .u8 191)], .agg [.lit (.int .u8 128), .lit (.int .u8 143)], .agg [.lit (.int .u8 0), .lit (.int .u8 0)], .agg [.lit (.int .u8 0), .lit (.int .u8 0)], .agg [.lit (.int .u8 0), .lit (.int .u8 0)], .agg [.lit (.int .u8 0), .lit (.int .u8 0)], .agg [.lit (.int .u8 0), .lit (.int .u8 0)], .agg [.lit (.int .u8 0), .lit (.int .u8 0)], .agg [.lit (.int .u8 0), .lit (.int .u8 0)], .agg [.lit (.int .u8 0), .lit (.int .u8 0)], .agg [.lit (.int .u8 0), .lit (.int .u8 0)], .agg [.lit (.int .u8 0), .lit (.int .u8 0)], .agg [.lit (.int .u8 0), .lit (.int .u8 0)]]
/-- One of Go's own tables, pinned by name: the form's constant. -/
def laid_unicode_utf8_first : DataW Unit := Go.Pinned.utf8First
def laid_errors_errorType {H : Type} : DataW H := .iface "internal/reflectlite.rtype" (.agg [.ptr (.lit (.string [101, 114, 114, 111, 114]))])

/-- 'stavelaw20.EntryRuns': WHATEVER THE INPUT: true; the input reads as it did. -/
def entryRunsSpec : ChangeSpec := { name := "entryRuns", fn := fun _ => fun
  | [] => { results := [.lit (.bool true)], args := [] }
  | _ => none }
def entryRunsRow : OpenClaim := { program := "ytpfdbbcfcimmfaadoor", sum := "bdb27b6a2accddd95f48254ff0b74700ee941a3c4fa4061741d06220acf6f131", func := "stave/stavelaw20.EntryRuns", spec := "entryRuns", inPlace := ["internal/bytealg.IndexByteString", "internal/bytealg.IndexString"], unfollowed := true, recurses := true, named := ["unicode/utf8.first", "unicode/utf8.acceptRanges", "internal/bytealg.MaxLen"], apart := false, laid := [("unicode/utf8.acceptRanges", laid_unicode_utf8_acceptRanges), ("unicode/utf8.first", laid_unicode_utf8_first)] }
def EntryRunsSaid : Prop := entryRunsRow.holds Tryd.pinned (OpenSpec.ofChange entryRunsSpec)

/-- ITS FALSE NEIGHBOUR: 'it returns false'. Refute it at one input. -/
def entryRunsWrong : ChangeSpec := { name := "entryRuns", fn := fun _ => fun
  | [] => { results := [.lit (.bool false)], args := [] }
  | _ => none }
def EntryRunsWrongFalsely : Prop := entryRunsRow.holds Tryd.pinned (OpenSpec.ofChange entryRunsWrong)

/-- 'stavelaw20.EntryOnly': WHATEVER THE INPUT: true; the input reads as it did. -/
def entryOnlySpec : ChangeSpec := { name := "entryOnly", fn := fun _ => fun
  | [d1, d2] => { results := [.lit (.bool true)], args := [d1, d2] }
  | _ => none }
def entryOnlyRow : OpenClaim := { program := "ytpfdbbcfcimmfaadoor", sum := "bdb27b6a2accddd95f48254ff0b74700ee941a3c4fa4061741d06220acf6f131", func := "stave/stavelaw20.EntryOnly", spec := "entryOnly", inPlace := ["internal/bytealg.IndexByteString", "internal/bytealg.IndexString"], unfollowed := true, recurses := true, named := ["unicode/utf8.first", "unicode/utf8.acceptRanges", "internal/bytealg.MaxLen"], apart := false, laid := [("unicode/utf8.acceptRanges", laid_unicode_utf8_acceptRanges), ("unicode/utf8.first", laid_unicode_utf8_first)] }
def EntryOnlySaid : Prop := entryOnlyRow.holds Tryd.pinned (OpenSpec.ofChange entryOnlySpec)

/-- ITS FALSE NEIGHBOUR: 'it returns false'. Refute it at one input. -/
def entryOnlyWrong : ChangeSpec := { name := "entryOnly", fn := fun _ => fun
  | [d1, d2] => { results := [.lit (.bool false)], args := [d1, d2] }
  | _ => none }
def EntryOnlyWrongFalsely : Prop := entryOnlyRow.holds Tryd.pinned (OpenSpec.ofChange entryOnlyWrong)

/-- 'stavelaw20.EntryCanon': WHATEVER THE INPUT: true; the input reads as it did. -/
def entryCanonSpec : ChangeSpec := { name := "entryCanon", fn := fun _ => fun
  | [d1, d2, d3, d4] => { results := [.lit (.bool true)], args := [d1, d2, d3, d4] }
  | _ => none }
def entryCanonRow : OpenClaim := { program := "ytpfdbbcfcimmfaadoor", sum := "bdb27b6a2accddd95f48254ff0b74700ee941a3c4fa4061741d06220acf6f131", func := "stave/stavelaw20.EntryCanon", spec := "entryCanon", inPlace := ["internal/bytealg.IndexByteString", "internal/bytealg.IndexString"], unfollowed := true, recurses := true, named := ["unicode/utf8.first", "unicode/utf8.acceptRanges", "internal/bytealg.MaxLen"], apart := false, laid := [("unicode/utf8.acceptRanges", laid_unicode_utf8_acceptRanges), ("unicode/utf8.first", laid_unicode_utf8_first)] }
def EntryCanonSaid : Prop := entryCanonRow.holds Tryd.pinned (OpenSpec.ofChange entryCanonSpec)

/-- ITS FALSE NEIGHBOUR: 'it returns false'. Refute it at one input. -/
def entryCanonWrong : ChangeSpec := { name := "entryCanon", fn := fun _ => fun
  | [d1, d2, d3, d4] => { results := [.lit (.bool false)], args := [d1, d2, d3, d4] }
  | _ => none }
def EntryCanonWrongFalsely : Prop := entryCanonRow.holds Tryd.pinned (OpenSpec.ofChange entryCanonWrong)

/-- 'stavelaw20.EntryBack': WHATEVER THE INPUT: true; the input reads as it did. -/
def entryBackSpec : ChangeSpec := { name := "entryBack", fn := fun _ => fun
  | [d1, d2, d3, d4] => { results := [.lit (.bool true)], args := [d1, d2, d3, d4] }
  | _ => none }
def entryBackRow : OpenClaim := { program := "ytpfdbbcfcimmfaadoor", sum := "bdb27b6a2accddd95f48254ff0b74700ee941a3c4fa4061741d06220acf6f131", func := "stave/stavelaw20.EntryBack", spec := "entryBack", inPlace := ["internal/bytealg.IndexByteString", "internal/bytealg.IndexString", "internal/reflectlite.ValueOf", "(internal/reflectlite.Value).Type", "(internal/reflectlite.Value).IsNil", "internal/reflectlite.TypeOf", "(internal/reflectlite.Value).Elem", "(internal/reflectlite.Value).Set"], unfollowed := true, recurses := true, named := ["unicode/utf8.first", "unicode/utf8.acceptRanges", "errors.errorType", "internal/bytealg.MaxLen"], apart := false, laid := [("unicode/utf8.acceptRanges", laid_unicode_utf8_acceptRanges), ("errors.errorType", laid_errors_errorType), ("unicode/utf8.first", laid_unicode_utf8_first)] }
def EntryBackSaid : Prop := entryBackRow.holds Tryd.pinned (OpenSpec.ofChange entryBackSpec)

/-- ITS FALSE NEIGHBOUR: 'it returns false'. Refute it at one input. -/
def entryBackWrong : ChangeSpec := { name := "entryBack", fn := fun _ => fun
  | [d1, d2, d3, d4] => { results := [.lit (.bool false)], args := [d1, d2, d3, d4] }
  | _ => none }
def EntryBackWrongFalsely : Prop := entryBackRow.holds Tryd.pinned (OpenSpec.ofChange entryBackWrong)

/-- 'stavelaw20.EntryKinds': WHATEVER THE INPUT: true; the input reads as it did. -/
def entryKindsSpec : ChangeSpec := { name := "entryKinds", fn := fun _ => fun
  | [d1, d2] => { results := [.lit (.bool true)], args := [d1, d2] }
  | _ => none }
def entryKindsRow : OpenClaim := { program := "ytpfdbbcfcimmfaadoor", sum := "bdb27b6a2accddd95f48254ff0b74700ee941a3c4fa4061741d06220acf6f131", func := "stave/stavelaw20.EntryKinds", spec := "entryKinds", inPlace := ["internal/bytealg.IndexByteString", "internal/bytealg.IndexString", "internal/reflectlite.ValueOf", "(internal/reflectlite.Value).Type", "(internal/reflectlite.Value).IsNil", "internal/reflectlite.TypeOf", "(internal/reflectlite.Value).Elem", "(internal/reflectlite.Value).Set"], unfollowed := true, recurses := true, named := ["unicode/utf8.first", "unicode/utf8.acceptRanges", "errors.errorType", "internal/bytealg.MaxLen"], apart := false, laid := [("unicode/utf8.acceptRanges", laid_unicode_utf8_acceptRanges), ("errors.errorType", laid_errors_errorType), ("unicode/utf8.first", laid_unicode_utf8_first)] }
def EntryKindsSaid : Prop := entryKindsRow.holds Tryd.pinned (OpenSpec.ofChange entryKindsSpec)

/-- ITS FALSE NEIGHBOUR: 'it returns false'. Refute it at one input. -/
def entryKindsWrong : ChangeSpec := { name := "entryKinds", fn := fun _ => fun
  | [d1, d2] => { results := [.lit (.bool false)], args := [d1, d2] }
  | _ => none }
def EntryKindsWrongFalsely : Prop := entryKindsRow.holds Tryd.pinned (OpenSpec.ofChange entryKindsWrong)

/- THE SECOND FORM. 'bulk': how many values and letters a reading holds, each counted each time it is reached (what is shared counts as often as it is met; a slice's spare places count too). A statement '..UptoSaid' is the law's where the arguments, and the package variables that the reading takes, are together of bulk at most 1048576: NARROWER than '..Said'. Prove '..Said' where nothing that the law and all that it calls make is longer than what came in: it says more and counts as full. Else prove '..UptoSaid'. A law counts once. -/
mutual
def uptoBulk {H : Type} : DataW H → Nat
  | .lit (.string bytes) => bytes.length + 1
  | .lit _ => 1
  | .nil => 1
  | .ptr d => uptoBulk d + 1
  | .slice elems spare => uptoBulkAll elems + uptoBulkAll spare + 1
  | .agg parts => uptoBulkAll parts + 1
  | .iface _ d => uptoBulk d + 1
  | .map entries => uptoBulkEntries entries + 1
  | .held _ => 1
def uptoBulkAll {H : Type} : List (DataW H) → Nat
  | [] => 0
  | d :: r => uptoBulk d + uptoBulkAll r
def uptoBulkEntries {H : Type} : List (Lit × DataW H) → Nat
  | [] => 0
  | x :: r => uptoBulkEntry x + uptoBulkEntries r
def uptoBulkEntry {H : Type} : Lit × DataW H → Nat
  | (.string bytes, d) => bytes.length + uptoBulk d + 1
  | (_, d) => uptoBulk d + 1
 end
def uptoSmall : (H : Type) → List (DataW H) → Bool := fun _ ds => decide (uptoBulkAll ds ≤ 1048576)
def OpenSpec.upto (s : _root_.Go.ChangeSpec) : _root_.Go.OpenSpec := { _root_.Go.OpenSpec.ofChange s with cond := some uptoSmall }

/-- 'stavelaw20.EntryRuns', WHERE WHAT IT READS IS OF BULK AT MOST 1048576: true; the input reads as it did. -/
def entryRunsUptoRow : OpenClaim := { program := "ytpfdbbcfcimmfaadoor", sum := "bdb27b6a2accddd95f48254ff0b74700ee941a3c4fa4061741d06220acf6f131", func := "stave/stavelaw20.EntryRuns", spec := "entryRuns", inPlace := ["internal/bytealg.IndexByteString", "internal/bytealg.IndexString"], unfollowed := true, recurses := true, named := ["unicode/utf8.first", "unicode/utf8.acceptRanges", "internal/bytealg.MaxLen"], apart := false, laid := [("unicode/utf8.acceptRanges", laid_unicode_utf8_acceptRanges), ("unicode/utf8.first", laid_unicode_utf8_first)], narrowed := true }
def EntryRunsUptoSaid : Prop := entryRunsUptoRow.holds Tryd.pinned (OpenSpec.upto entryRunsSpec)

/-- 'stavelaw20.EntryOnly', WHERE WHAT IT READS IS OF BULK AT MOST 1048576: true; the input reads as it did. -/
def entryOnlyUptoRow : OpenClaim := { program := "ytpfdbbcfcimmfaadoor", sum := "bdb27b6a2accddd95f48254ff0b74700ee941a3c4fa4061741d06220acf6f131", func := "stave/stavelaw20.EntryOnly", spec := "entryOnly", inPlace := ["internal/bytealg.IndexByteString", "internal/bytealg.IndexString"], unfollowed := true, recurses := true, named := ["unicode/utf8.first", "unicode/utf8.acceptRanges", "internal/bytealg.MaxLen"], apart := false, laid := [("unicode/utf8.acceptRanges", laid_unicode_utf8_acceptRanges), ("unicode/utf8.first", laid_unicode_utf8_first)], narrowed := true }
def EntryOnlyUptoSaid : Prop := entryOnlyUptoRow.holds Tryd.pinned (OpenSpec.upto entryOnlySpec)

/-- 'stavelaw20.EntryCanon', WHERE WHAT IT READS IS OF BULK AT MOST 1048576: true; the input reads as it did. -/
def entryCanonUptoRow : OpenClaim := { program := "ytpfdbbcfcimmfaadoor", sum := "bdb27b6a2accddd95f48254ff0b74700ee941a3c4fa4061741d06220acf6f131", func := "stave/stavelaw20.EntryCanon", spec := "entryCanon", inPlace := ["internal/bytealg.IndexByteString", "internal/bytealg.IndexString"], unfollowed := true, recurses := true, named := ["unicode/utf8.first", "unicode/utf8.acceptRanges", "internal/bytealg.MaxLen"], apart := false, laid := [("unicode/utf8.acceptRanges", laid_unicode_utf8_acceptRanges), ("unicode/utf8.first", laid_unicode_utf8_first)], narrowed := true }
def EntryCanonUptoSaid : Prop := entryCanonUptoRow.holds Tryd.pinned (OpenSpec.upto entryCanonSpec)

/-- 'stavelaw20.EntryBack', WHERE WHAT IT READS IS OF BULK AT MOST 1048576: true; the input reads as it did. -/
def entryBackUptoRow : OpenClaim := { program := "ytpfdbbcfcimmfaadoor", sum := "bdb27b6a2accddd95f48254ff0b74700ee941a3c4fa4061741d06220acf6f131", func := "stave/stavelaw20.EntryBack", spec := "entryBack", inPlace := ["internal/bytealg.IndexByteString", "internal/bytealg.IndexString", "internal/reflectlite.ValueOf", "(internal/reflectlite.Value).Type", "(internal/reflectlite.Value).IsNil", "internal/reflectlite.TypeOf", "(internal/reflectlite.Value).Elem", "(internal/reflectlite.Value).Set"], unfollowed := true, recurses := true, named := ["unicode/utf8.first", "unicode/utf8.acceptRanges", "errors.errorType", "internal/bytealg.MaxLen"], apart := false, laid := [("unicode/utf8.acceptRanges", laid_unicode_utf8_acceptRanges), ("errors.errorType", laid_errors_errorType), ("unicode/utf8.first", laid_unicode_utf8_first)], narrowed := true }
def EntryBackUptoSaid : Prop := entryBackUptoRow.holds Tryd.pinned (OpenSpec.upto entryBackSpec)

/-- 'stavelaw20.EntryKinds', WHERE WHAT IT READS IS OF BULK AT MOST 1048576: true; the input reads as it did. -/
def entryKindsUptoRow : OpenClaim := { program := "ytpfdbbcfcimmfaadoor", sum := "bdb27b6a2accddd95f48254ff0b74700ee941a3c4fa4061741d06220acf6f131", func := "stave/stavelaw20.EntryKinds", spec := "entryKinds", inPlace := ["internal/bytealg.IndexByteString", "internal/bytealg.IndexString", "internal/reflectlite.ValueOf", "(internal/reflectlite.Value).Type", "(internal/reflectlite.Value).IsNil", "internal/reflectlite.TypeOf", "(internal/reflectlite.Value).Elem", "(internal/reflectlite.Value).Set"], unfollowed := true, recurses := true, named := ["unicode/utf8.first", "unicode/utf8.acceptRanges", "errors.errorType", "internal/bytealg.MaxLen"], apart := false, laid := [("unicode/utf8.acceptRanges", laid_unicode_utf8_acceptRanges), ("errors.errorType", laid_errors_errorType), ("unicode/utf8.first", laid_unicode_utf8_first)], narrowed := true }
def EntryKindsUptoSaid : Prop := entryKindsUptoRow.holds Tryd.pinned (OpenSpec.upto entryKindsSpec)

end Rows
end Go.Proofs.YtpfdbbcfcimmfaaDoor
