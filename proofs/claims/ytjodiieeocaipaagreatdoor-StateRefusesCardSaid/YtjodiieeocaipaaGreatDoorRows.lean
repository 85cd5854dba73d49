/-
  NARROWER THAN 'FOR EVERY INPUT', by the rows' own cells (each row's printed sentence says how): StateRuns: laid · StateMarks: laid · StateOnce: laid · StateApart: laid · StateTopics: laid · StateTwins: laid · StateRefuses: laid.
  DERIVED. THE GIVEN ROWS OF THIS SEAT. 7 by the template 'for every input the law returns true; each argument reads behind the call as it read before'; 0 by the template 'total and deterministic' (their statements: YtjodiieeocaipaaGreatDoorTotals.lean).
  GIVEN WITH THE SEED: the statements are not yours to turn. If you find one false, say at which input.
  Laid BY PROGRAM, IN A SANDBOX (cutbox-rows.mjs): the forced cells as the released guide's own fill.sh prints them over the translation fb5eefc69527ed18… (all of the seat's roots in one cut). By AI agents, Wed Nov 11 2026. No macro, syntax, notation, axiom, sorry.
-/
import Derived.Test.YtjodiieeocaipaaGreatDoorChecked
import GoSem.PinnedTables
import GoSem.Claim
import GoSem.ClaimJoined
import GoSem.ClaimMapViews
import Derived.JoinedTies
import Derived.KernelRfl
namespace Go.Proofs.YtjodiieeocaipaaGreatDoor
/- THE CELL 'sum', in the pinned program and in every row, IS THE sha256 OF THE DUMP (.gsa) THAT YtjodiieeocaipaaGreatDoorProg.lean LOADS. Nothing in Lean hashes anything: it is a label: what it is worth is what the hold of that sum in a sandbox is worth. -/
noncomputable def Tryz.pinned : Pinned := { name := "ytjodiieeocaipaagreatdoor", sum := "fb5eefc69527ed189b2726a480fea45fdf9f5651a46cb77a90ac672c0d215ea5", checked := Tryz.checked }
namespace Rows
def none {H : Type} : Left H := { results := [], args := [] }

/- WHAT THE LISTED PACKAGE-LEVEL VARIABLES READ AS WHEN THE CALL BEGINS. Each datum BY PROGRAM (the guide's laid-datum.mjs) off the statement by which the dump's own 'gosem.cut.vars' lays the variable. In a bare row this is a premise. The card (YtjodiieeocaipaaGreatDoorCards.lean) ties it to the program's text. -/
def laid_unicode_utf8_acceptRanges {H : Type} : DataW H := .agg [.agg [.lit (.int .u8 128), .lit (.int .u8 191)], .agg [.lit (.int .u8 160), .lit (.int .u8 191)], .agg [.lit (.int .u8 128), .lit (.int .u8 159)], .agg [.lit (.int .u8 144), .lit (.int .u8 191)], .agg [.lit (.int .u8 128), .lit (.int .u8 143)], .agg [.lit (.int .u8 0), .lit (.int .u8 0)], .agg [.lit (.int .u8 0), .lit (.int .u8 0)], .agg [.lit (.int .u8 0), .lit (.int .u8 0)], .agg [.lit (.int .u8 0), .lit (.int .u8 0)], .agg [.lit (.int .u8 0), .lit (.int .u8 0)], .agg [.lit (.int .u8 0), .lit (.int .u8 0)], .agg [.lit (.int .u8 0), .lit (.int .u8 0)], .agg [.lit (.int .u8 0), .lit (.int .u8 0)], .agg [.lit (.int .u8 0), .lit (.int .u8 0)], .agg [.lit (.int .u8 0), .lit (.int .u8 0)], .agg [.lit (.int .u8 0), .lit (.int .u8 0)]]
def laid_errors_errorType {H : Type} : DataW H := .iface "internal/reflectlite.rtype" (.agg [.ptr (.lit (.string [101, 114, 114, 111, 114]))])
/-- One of Go's own tables, pinned by name: the form's constant. -/
def laid_unicode_utf8_first : DataW Unit := Go.Pinned.utf8First

/-- 'stavelaw21.StateRuns': WHATEVER THE INPUT: true; the input reads as it did. -/
def stateRunsSpec : ChangeSpec := { name := "stateRuns", fn := fun _ => fun
  | [] => { results := [.lit (.bool true)], args := [] }
  | _ => none }
def stateRunsRow : OpenClaim := { program := "ytjodiieeocaipaagreatdoor", sum := "fb5eefc69527ed189b2726a480fea45fdf9f5651a46cb77a90ac672c0d215ea5", func := "stave/stavelaw21.StateRuns", spec := "stateRuns", inPlace := ["internal/bytealg.IndexByteString", "internal/bytealg.IndexString", "internal/reflectlite.ValueOf", "(internal/reflectlite.Value).Type", "(internal/reflectlite.Value).IsNil", "internal/reflectlite.TypeOf", "(internal/reflectlite.Value).Elem", "(internal/reflectlite.Value).Set"], unfollowed := true, recurses := true, named := ["unicode/utf8.first", "unicode/utf8.acceptRanges", "errors.errorType", "internal/bytealg.MaxLen"], plainKeys := false, apart := false, laid := [("unicode/utf8.acceptRanges", laid_unicode_utf8_acceptRanges), ("errors.errorType", laid_errors_errorType), ("unicode/utf8.first", laid_unicode_utf8_first)] }
def StateRunsSaid : Prop := stateRunsRow.holds Tryz.pinned (OpenSpec.ofChange stateRunsSpec)

/-- ITS FALSE NEIGHBOUR: 'it returns false'. Refute it at one input. -/
def stateRunsWrong : ChangeSpec := { name := "stateRuns", fn := fun _ => fun
  | [] => { results := [.lit (.bool false)], args := [] }
  | _ => none }
def StateRunsWrongFalsely : Prop := stateRunsRow.holds Tryz.pinned (OpenSpec.ofChange stateRunsWrong)

/-- 'stavelaw21.StateMarks': WHATEVER THE INPUT: true; the input reads as it did. -/
def stateMarksSpec : ChangeSpec := { name := "stateMarks", fn := fun _ => fun
  | [d1, d2, d3] => { results := [.lit (.bool true)], args := [d1, d2, d3] }
  | _ => none }
def stateMarksRow : OpenClaim := { program := "ytjodiieeocaipaagreatdoor", sum := "fb5eefc69527ed189b2726a480fea45fdf9f5651a46cb77a90ac672c0d215ea5", func := "stave/stavelaw21.StateMarks", spec := "stateMarks", inPlace := ["internal/bytealg.IndexByteString", "internal/bytealg.IndexString", "internal/reflectlite.ValueOf", "(internal/reflectlite.Value).Type", "(internal/reflectlite.Value).IsNil", "internal/reflectlite.TypeOf", "(internal/reflectlite.Value).Elem", "(internal/reflectlite.Value).Set"], unfollowed := true, recurses := true, named := ["unicode/utf8.first", "unicode/utf8.acceptRanges", "errors.errorType", "internal/bytealg.MaxLen"], plainKeys := false, apart := false, laid := [("unicode/utf8.acceptRanges", laid_unicode_utf8_acceptRanges), ("errors.errorType", laid_errors_errorType), ("unicode/utf8.first", laid_unicode_utf8_first)] }
def StateMarksSaid : Prop := stateMarksRow.holds Tryz.pinned (OpenSpec.ofChange stateMarksSpec)

/-- ITS FALSE NEIGHBOUR: 'it returns false'. Refute it at one input. -/
def stateMarksWrong : ChangeSpec := { name := "stateMarks", fn := fun _ => fun
  | [d1, d2, d3] => { results := [.lit (.bool false)], args := [d1, d2, d3] }
  | _ => none }
def StateMarksWrongFalsely : Prop := stateMarksRow.holds Tryz.pinned (OpenSpec.ofChange stateMarksWrong)

/-- 'stavelaw21.StateOnce': WHATEVER THE INPUT: true; the input reads as it did. -/
def stateOnceSpec : ChangeSpec := { name := "stateOnce", fn := fun _ => fun
  | [d1, d2] => { results := [.lit (.bool true)], args := [d1, d2] }
  | _ => none }
def stateOnceRow : OpenClaim := { program := "ytjodiieeocaipaagreatdoor", sum := "fb5eefc69527ed189b2726a480fea45fdf9f5651a46cb77a90ac672c0d215ea5", func := "stave/stavelaw21.StateOnce", spec := "stateOnce", inPlace := ["internal/bytealg.IndexByteString", "internal/bytealg.IndexString", "internal/reflectlite.ValueOf", "(internal/reflectlite.Value).Type", "(internal/reflectlite.Value).IsNil", "internal/reflectlite.TypeOf", "(internal/reflectlite.Value).Elem", "(internal/reflectlite.Value).Set"], unfollowed := true, recurses := true, named := ["unicode/utf8.first", "unicode/utf8.acceptRanges", "errors.errorType", "internal/bytealg.MaxLen"], plainKeys := false, apart := false, laid := [("unicode/utf8.acceptRanges", laid_unicode_utf8_acceptRanges), ("errors.errorType", laid_errors_errorType), ("unicode/utf8.first", laid_unicode_utf8_first)] }
def StateOnceSaid : Prop := stateOnceRow.holds Tryz.pinned (OpenSpec.ofChange stateOnceSpec)

/-- ITS FALSE NEIGHBOUR: 'it returns false'. Refute it at one input. -/
def stateOnceWrong : ChangeSpec := { name := "stateOnce", fn := fun _ => fun
  | [d1, d2] => { results := [.lit (.bool false)], args := [d1, d2] }
  | _ => none }
def StateOnceWrongFalsely : Prop := stateOnceRow.holds Tryz.pinned (OpenSpec.ofChange stateOnceWrong)

/-- 'stavelaw21.StateApart': WHATEVER THE INPUT: true; the input reads as it did. -/
def stateApartSpec : ChangeSpec := { name := "stateApart", fn := fun _ => fun
  | [d1, d2] => { results := [.lit (.bool true)], args := [d1, d2] }
  | _ => none }
def stateApartRow : OpenClaim := { program := "ytjodiieeocaipaagreatdoor", sum := "fb5eefc69527ed189b2726a480fea45fdf9f5651a46cb77a90ac672c0d215ea5", func := "stave/stavelaw21.StateApart", spec := "stateApart", inPlace := ["internal/bytealg.IndexByteString", "internal/bytealg.IndexString", "internal/reflectlite.ValueOf", "(internal/reflectlite.Value).Type", "(internal/reflectlite.Value).IsNil", "internal/reflectlite.TypeOf", "(internal/reflectlite.Value).Elem", "(internal/reflectlite.Value).Set"], unfollowed := true, recurses := true, named := ["unicode/utf8.first", "unicode/utf8.acceptRanges", "errors.errorType", "internal/bytealg.MaxLen"], plainKeys := false, apart := false, laid := [("unicode/utf8.acceptRanges", laid_unicode_utf8_acceptRanges), ("errors.errorType", laid_errors_errorType), ("unicode/utf8.first", laid_unicode_utf8_first)] }
def StateApartSaid : Prop := stateApartRow.holds Tryz.pinned (OpenSpec.ofChange stateApartSpec)

/-- ITS FALSE NEIGHBOUR: 'it returns false'. Refute it at one input. -/
def stateApartWrong : ChangeSpec := { name := "stateApart", fn := fun _ => fun
  | [d1, d2] => { results := [.lit (.bool false)], args := [d1, d2] }
  | _ => none }
def StateApartWrongFalsely : Prop := stateApartRow.holds Tryz.pinned (OpenSpec.ofChange stateApartWrong)

/-- 'stavelaw21.StateTopics': WHATEVER THE INPUT: true; the input reads as it did. -/
def stateTopicsSpec : ChangeSpec := { name := "stateTopics", fn := fun _ => fun
  | [d1, d2] => { results := [.lit (.bool true)], args := [d1, d2] }
  | _ => none }
def stateTopicsRow : OpenClaim := { program := "ytjodiieeocaipaagreatdoor", sum := "fb5eefc69527ed189b2726a480fea45fdf9f5651a46cb77a90ac672c0d215ea5", func := "stave/stavelaw21.StateTopics", spec := "stateTopics", inPlace := ["internal/bytealg.IndexByteString", "internal/bytealg.IndexString", "internal/reflectlite.ValueOf", "(internal/reflectlite.Value).Type", "(internal/reflectlite.Value).IsNil", "internal/reflectlite.TypeOf", "(internal/reflectlite.Value).Elem", "(internal/reflectlite.Value).Set"], unfollowed := true, recurses := true, named := ["unicode/utf8.first", "unicode/utf8.acceptRanges", "errors.errorType", "internal/bytealg.MaxLen"], plainKeys := false, apart := false, laid := [("unicode/utf8.acceptRanges", laid_unicode_utf8_acceptRanges), ("errors.errorType", laid_errors_errorType), ("unicode/utf8.first", laid_unicode_utf8_first)] }
def StateTopicsSaid : Prop := stateTopicsRow.holds Tryz.pinned (OpenSpec.ofChange stateTopicsSpec)

/-- ITS FALSE NEIGHBOUR: 'it returns false'. Refute it at one input. -/
def stateTopicsWrong : ChangeSpec := { name := "stateTopics", fn := fun _ => fun
  | [d1, d2] => { results := [.lit (.bool false)], args := [d1, d2] }
  | _ => none }
def StateTopicsWrongFalsely : Prop := stateTopicsRow.holds Tryz.pinned (OpenSpec.ofChange stateTopicsWrong)

/-- 'stavelaw21.StateTwins': WHATEVER THE INPUT: true; the input reads as it did. -/
def stateTwinsSpec : ChangeSpec := { name := "stateTwins", fn := fun _ => fun
  | [d1, d2] => { results := [.lit (.bool true)], args := [d1, d2] }
  | _ => none }
def stateTwinsRow : OpenClaim := { program := "ytjodiieeocaipaagreatdoor", sum := "fb5eefc69527ed189b2726a480fea45fdf9f5651a46cb77a90ac672c0d215ea5", func := "stave/stavelaw21.StateTwins", spec := "stateTwins", inPlace := ["internal/bytealg.IndexByteString", "internal/bytealg.IndexString", "maps.clone", "internal/reflectlite.ValueOf", "(internal/reflectlite.Value).Type", "(internal/reflectlite.Value).IsNil", "internal/reflectlite.TypeOf", "(internal/reflectlite.Value).Elem", "(internal/reflectlite.Value).Set"], unfollowed := true, recurses := true, named := ["unicode/utf8.first", "unicode/utf8.acceptRanges", "errors.errorType", "internal/bytealg.MaxLen"], plainKeys := false, apart := false, laid := [("unicode/utf8.acceptRanges", laid_unicode_utf8_acceptRanges), ("errors.errorType", laid_errors_errorType), ("unicode/utf8.first", laid_unicode_utf8_first)] }
def StateTwinsSaid : Prop := stateTwinsRow.holds Tryz.pinned (OpenSpec.ofChange stateTwinsSpec)

/-- ITS FALSE NEIGHBOUR: 'it returns false'. Refute it at one input. -/
def stateTwinsWrong : ChangeSpec := { name := "stateTwins", fn := fun _ => fun
  | [d1, d2] => { results := [.lit (.bool false)], args := [d1, d2] }
  | _ => none }
def StateTwinsWrongFalsely : Prop := stateTwinsRow.holds Tryz.pinned (OpenSpec.ofChange stateTwinsWrong)

/-- 'stavelaw21.StateRefuses': WHATEVER THE INPUT: true; the input reads as it did. -/
def stateRefusesSpec : ChangeSpec := { name := "stateRefuses", fn := fun _ => fun
  | [d1, d2, d3, d4] => { results := [.lit (.bool true)], args := [d1, d2, d3, d4] }
  | _ => none }
def stateRefusesRow : OpenClaim := { program := "ytjodiieeocaipaagreatdoor", sum := "fb5eefc69527ed189b2726a480fea45fdf9f5651a46cb77a90ac672c0d215ea5", func := "stave/stavelaw21.StateRefuses", spec := "stateRefuses", inPlace := ["internal/bytealg.IndexByteString", "internal/bytealg.IndexString", "maps.clone", "internal/reflectlite.ValueOf", "(internal/reflectlite.Value).Type", "(internal/reflectlite.Value).IsNil", "internal/reflectlite.TypeOf", "(internal/reflectlite.Value).Elem", "(internal/reflectlite.Value).Set"], unfollowed := true, recurses := true, named := ["unicode/utf8.first", "unicode/utf8.acceptRanges", "errors.errorType", "internal/bytealg.MaxLen"], plainKeys := false, apart := false, laid := [("unicode/utf8.acceptRanges", laid_unicode_utf8_acceptRanges), ("errors.errorType", laid_errors_errorType), ("unicode/utf8.first", laid_unicode_utf8_first)] }
def StateRefusesSaid : Prop := stateRefusesRow.holds Tryz.pinned (OpenSpec.ofChange stateRefusesSpec)

/-- ITS FALSE NEIGHBOUR: 'it returns false'. Refute it at one input. -/
def stateRefusesWrong : ChangeSpec := { name := "stateRefuses", fn := fun _ => fun
  | [d1, d2, d3, d4] => { results := [.lit (.bool false)], args := [d1, d2, d3, d4] }
  | _ => none }
def StateRefusesWrongFalsely : Prop := stateRefusesRow.holds Tryz.pinned (OpenSpec.ofChange stateRefusesWrong)

/- THE SECOND FORM. 'bulk': how many values and letters a reading holds, each counted each time it is reached (what is shared counts as often as it is met; a slice's spare places count too). A statement '..UptoSaid' is the law's where the arguments, and the package variables that the reading takes, are together of bulk at most 1048576: NARROWER than '..Said'. Prove '..Said' where nothing that the law and all that it calls make is longer than what came in: it says more and counts as full. Else prove '..UptoSaid'. A law counts once. -/
mutual
def uptoBulk {H : Type} : DataW H → Nat
  | .lit (.string bytes) => bytes.length + 1
  | .lit _ => 1
  | .nil => 1
  | .ptr d => uptoBulk d + 1
  | .slice elems spare => uptoBulkAll elems + uptoBulkAll spare + 1
  | .agg parts => uptoBulkAll parts + 1
  | .iface _ d => uptoBulk d + 1
  | .map entries => uptoBulkEntries entries + 1
  | .held _ => 1
def uptoBulkAll {H : Type} : List (DataW H) → Nat
  | [] => 0
  | d :: r => uptoBulk d + uptoBulkAll r
def uptoBulkEntries {H : Type} : List (Lit × DataW H) → Nat
  | [] => 0
  | x :: r => uptoBulkEntry x + uptoBulkEntries r
def uptoBulkEntry {H : Type} : Lit × DataW H → Nat
  | (.string bytes, d) => bytes.length + uptoBulk d + 1
  | (_, d) => uptoBulk d + 1
 end
def uptoSmall : (H : Type) → List (DataW H) → Bool := fun _ ds => decide (uptoBulkAll ds ≤ 1048576)
def OpenSpec.upto (s : _root_.Go.ChangeSpec) : _root_.Go.OpenSpec := { _root_.Go.OpenSpec.ofChange s with cond := some uptoSmall }

/-- 'stavelaw21.StateRuns', WHERE WHAT IT READS IS OF BULK AT MOST 1048576: true; the input reads as it did. -/
def stateRunsUptoRow : OpenClaim := { program := "ytjodiieeocaipaagreatdoor", sum := "fb5eefc69527ed189b2726a480fea45fdf9f5651a46cb77a90ac672c0d215ea5", func := "stave/stavelaw21.StateRuns", spec := "stateRuns", inPlace := ["internal/bytealg.IndexByteString", "internal/bytealg.IndexString", "internal/reflectlite.ValueOf", "(internal/reflectlite.Value).Type", "(internal/reflectlite.Value).IsNil", "internal/reflectlite.TypeOf", "(internal/reflectlite.Value).Elem", "(internal/reflectlite.Value).Set"], unfollowed := true, recurses := true, named := ["unicode/utf8.first", "unicode/utf8.acceptRanges", "errors.errorType", "internal/bytealg.MaxLen"], plainKeys := false, apart := false, laid := [("unicode/utf8.acceptRanges", laid_unicode_utf8_acceptRanges), ("errors.errorType", laid_errors_errorType), ("unicode/utf8.first", laid_unicode_utf8_first)], narrowed := true }
def StateRunsUptoSaid : Prop := stateRunsUptoRow.holds Tryz.pinned (OpenSpec.upto stateRunsSpec)

/-- 'stavelaw21.StateMarks', WHERE WHAT IT READS IS OF BULK AT MOST 1048576: true; the input reads as it did. -/
def stateMarksUptoRow : OpenClaim := { program := "ytjodiieeocaipaagreatdoor", sum := "fb5eefc69527ed189b2726a480fea45fdf9f5651a46cb77a90ac672c0d215ea5", func := "stave/stavelaw21.StateMarks", spec := "stateMarks", inPlace := ["internal/bytealg.IndexByteString", "internal/bytealg.IndexString", "internal/reflectlite.ValueOf", "(internal/reflectlite.Value).Type", "(internal/reflectlite.Value).IsNil", "internal/reflectlite.TypeOf", "(internal/reflectlite.Value).Elem", "(internal/reflectlite.Value).Set"], unfollowed := true, recurses := true, named := ["unicode/utf8.first", "unicode/utf8.acceptRanges", "errors.errorType", "internal/bytealg.MaxLen"], plainKeys := false, apart := false, laid := [("unicode/utf8.acceptRanges", laid_unicode_utf8_acceptRanges), ("errors.errorType", laid_errors_errorType), ("unicode/utf8.first", laid_unicode_utf8_first)], narrowed := true }
def StateMarksUptoSaid : Prop := stateMarksUptoRow.holds Tryz.pinned (OpenSpec.upto stateMarksSpec)

/-- 'stavelaw21.StateOnce', WHERE WHAT IT READS IS OF BULK AT MOST 1048576: true; the input reads as it did. -/
def stateOnceUptoRow : OpenClaim := { program := "ytjodiieeocaipaagreatdoor", sum := "fb5eefc69527ed189b2726a480fea45fdf9f5651a46cb77a90ac672c0d215ea5", func := "stave/stavelaw21.StateOnce", spec := "stateOnce", inPlace := ["internal/bytealg.IndexByteString", "internal/bytealg.IndexString", "internal/reflectlite.ValueOf", "(internal/reflectlite.Value).Type", "(internal/reflectlite.Value).IsNil", "internal/reflectlite.TypeOf", "(internal/reflectlite.Value).Elem", "(internal/reflectlite.Value).Set"], unfollowed := true, recurses := true, named := ["unicode/utf8.first", "unicode/utf8.acceptRanges", "errors.errorType", "internal/bytealg.MaxLen"], plainKeys := false, apart := false, laid := [("unicode/utf8.acceptRanges", laid_unicode_utf8_acceptRanges), ("errors.errorType", laid_errors_errorType), ("unicode/utf8.first", laid_unicode_utf8_first)], narrowed := true }
def StateOnceUptoSaid : Prop := stateOnceUptoRow.holds Tryz.pinned (OpenSpec.upto stateOnceSpec)

/-- 'stavelaw21.StateApart', WHERE WHAT IT READS IS OF BULK AT MOST 1048576: true; the input reads as it did. -/
def stateApartUptoRow : OpenClaim := { program := "ytjodiieeocaipaagreatdoor", sum := "fb5eefc69527ed189b2726a480fea45fdf9f5651a46cb77a90ac672c0d215ea5", func := "stave/stavelaw21.StateApart", spec := "stateApart", inPlace := ["internal/bytealg.IndexByteString", "internal/bytealg.IndexString", "internal/reflectlite.ValueOf", "(internal/reflectlite.Value).Type", "(internal/reflectlite.Value).IsNil", "internal/reflectlite.TypeOf", "(internal/reflectlite.Value).Elem", "(internal/reflectlite.Value).Set"], unfollowed := true, recurses := true, named := ["unicode/utf8.first", "unicode/utf8.acceptRanges", "errors.errorType", "internal/bytealg.MaxLen"], plainKeys := false, apart := false, laid := [("unicode/utf8.acceptRanges", laid_unicode_utf8_acceptRanges), ("errors.errorType", laid_errors_errorType), ("unicode/utf8.first", laid_unicode_utf8_first)], narrowed := true }
def StateApartUptoSaid : Prop := stateApartUptoRow.holds Tryz.pinned (OpenSpec.upto stateApartSpec)

/-- 'stavelaw21.StateTopics', WHERE WHAT IT READS IS OF BULK AT MOST 1048576: true; the input reads as it did. -/
def stateTopicsUptoRow : OpenClaim := { program := "ytjodiieeocaipaagreatdoor", sum := "fb5eefc69527ed189b2726a480fea45fdf9f5651a46cb77a90ac672c0d215ea5", func := "stave/stavelaw21.StateTopics", spec := "stateTopics", inPlace := ["internal/bytealg.IndexByteString", "internal/bytealg.IndexString", "internal/reflectlite.ValueOf", "(internal/reflectlite.Value).Type", "(internal/reflectlite.Value).IsNil", "internal/reflectlite.TypeOf", "(internal/reflectlite.Value).Elem", "(internal/reflectlite.Value).Set"], unfollowed := true, recurses := true, named := ["unicode/utf8.first", "unicode/utf8.acceptRanges", "errors.errorType", "internal/bytealg.MaxLen"], plainKeys := false, apart := false, laid := [("unicode/utf8.acceptRanges", laid_unicode_utf8_acceptRanges), ("errors.errorType", laid_errors_errorType), ("unicode/utf8.first", laid_unicode_utf8_first)], narrowed := true }
def StateTopicsUptoSaid : Prop := stateTopicsUptoRow.holds Tryz.pinned (OpenSpec.upto stateTopicsSpec)

/-- 'stavelaw21.StateTwins', WHERE WHAT IT READS IS OF BULK AT MOST 1048576: true; the input reads as it did. -/
def stateTwinsUptoRow : OpenClaim := { program := "ytjodiieeocaipaagreatdoor", sum := "fb5eefc69527ed189b2726a480fea45fdf9f5651a46cb77a90ac672c0d215ea5", func := "stave/stavelaw21.StateTwins", spec := "stateTwins", inPlace := ["internal/bytealg.IndexByteString", "internal/bytealg.IndexString", "maps.clone", "internal/reflectlite.ValueOf", "(internal/reflectlite.Value).Type", "(internal/reflectlite.Value).IsNil", "internal/reflectlite.TypeOf", "(internal/reflectlite.Value).Elem", "(internal/reflectlite.Value).Set"], unfollowed := true, recurses := true, named := ["unicode/utf8.first", "unicode/utf8.acceptRanges", "errors.errorType", "internal/bytealg.MaxLen"], plainKeys := false, apart := false, laid := [("unicode/utf8.acceptRanges", laid_unicode_utf8_acceptRanges), ("errors.errorType", laid_errors_errorType), ("unicode/utf8.first", laid_unicode_utf8_first)], narrowed := true }
def StateTwinsUptoSaid : Prop := stateTwinsUptoRow.holds Tryz.pinned (OpenSpec.upto stateTwinsSpec)

/-- 'stavelaw21.StateRefuses', WHERE WHAT IT READS IS OF BULK AT MOST 1048576: true; the input reads as it did. -/
def stateRefusesUptoRow : OpenClaim := { program := "ytjodiieeocaipaagreatdoor", sum := "fb5eefc69527ed189b2726a480fea45fdf9f5651a46cb77a90ac672c0d215ea5", func := "stave/stavelaw21.StateRefuses", spec := "stateRefuses", inPlace := ["internal/bytealg.IndexByteString", "internal/bytealg.IndexString", "maps.clone", "internal/reflectlite.ValueOf", "(internal/reflectlite.Value).Type", "(internal/reflectlite.Value).IsNil", "internal/reflectlite.TypeOf", "(internal/reflectlite.Value).Elem", "(internal/reflectlite.Value).Set"], unfollowed := true, recurses := true, named := ["unicode/utf8.first", "unicode/utf8.acceptRanges", "errors.errorType", "internal/bytealg.MaxLen"], plainKeys := false, apart := false, laid := [("unicode/utf8.acceptRanges", laid_unicode_utf8_acceptRanges), ("errors.errorType", laid_errors_errorType), ("unicode/utf8.first", laid_unicode_utf8_first)], narrowed := true }
def StateRefusesUptoSaid : Prop := stateRefusesUptoRow.holds Tryz.pinned (OpenSpec.upto stateRefusesSpec)

end Rows
end Go.Proofs.YtjodiieeocaipaaGreatDoor
