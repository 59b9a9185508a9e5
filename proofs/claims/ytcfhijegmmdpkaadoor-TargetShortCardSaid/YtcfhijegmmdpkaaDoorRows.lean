/-
  NARROWER THAN 'FOR EVERY INPUT', by the rows' own cells (each row's printed sentence says how): PathCleans: laid · PathOrder: laid · PathSafe: laid · PathDots: laid · PathLong: laid · TargetResolves: laid · TargetInside: laid · TargetBack: laid · TargetUps: laid · TargetDown: laid · TargetShort: laid · PathUps: laid · WholeInside: laid.
  DERIVED. THE GIVEN ROWS OF THIS SEAT. 13 by the template 'for every input the law returns true; each argument reads behind the call as it read before'; 0 by the template 'total and deterministic' (their statements: YtcfhijegmmdpkaaDoorTotals.lean).
  GIVEN WITH THE SEED: the statements are not yours to turn. If you find one false, say at which input.
  Laid BY PROGRAM, IN A SANDBOX (cutbox-rows.mjs): the forced cells as the released guide's own fill.sh prints them over the translation f116acbfbc7bbc8e… (all of the seat's roots in one cut). By AI agents, Wed Nov 11 2026. No macro, syntax, notation, axiom, sorry.
-/
import Derived.Test.YtcfhijegmmdpkaaDoorChecked
import GoSem.PinnedTables
import GoSem.Claim
import GoSem.ClaimJoined
import GoSem.ClaimMapViews
import Derived.JoinedTies
import Derived.KernelRfl
namespace Go.Proofs.YtcfhijegmmdpkaaDoor
/- THE CELL 'sum', in the pinned program and in every row, IS THE sha256 OF THE DUMP (.gsa) THAT YtcfhijegmmdpkaaDoorProg.lean LOADS. Nothing in Lean hashes anything: it is a label: what it is worth is what the hold of that sum in a sandbox is worth. -/
noncomputable def Tryd.pinned : Pinned := { name := "ytcfhijegmmdpkaadoor", sum := "f116acbfbc7bbc8e2528f602efd1e8c589c3b492543c8ecd8282dceda98012fa", checked := Tryd.checked }
namespace Rows
def none {H : Type} : Left H := { results := [], args := [] }

/- WHAT THE LISTED PACKAGE-LEVEL VARIABLES READ AS WHEN THE CALL BEGINS. Each datum BY PROGRAM (the guide's laid-datum.mjs) off the statement by which the dump's own 'gosem.cut.vars' lays the variable. In a bare row this is a premise. The card (YtcfhijegmmdpkaaDoorCards.lean) ties it to the program's text. -/
def laid_unicode_utf8_acceptRanges {H : Type} : DataW H := .agg [.agg [.lit (.int .u8 128), .lit (.int .u8 191)], .agg [.lit (.int .u8 160), .lit (.int .u8 191)], .agg [.lit (.int .u8 128), .lit (.int .u8 159)], .agg [.lit (.int .u8 144), .lit (.int .u8 191)], .agg [.lit (.int .u8 128), .lit (.int .u8 143)], .agg [.lit (.int .u8 0), .lit (.int .u8 0)], .agg [.lit (.int .u8 0), .lit (.int .u8 0)], .agg [.lit (.int .u8 0), .lit (.int .u8 0)], .agg [.lit (.int .u8 0), .lit (.int .u8 0)], .agg [.lit (.int .u8 0), .lit (.int .u8 0)], .agg [.lit (.int .u8 0), .lit (.int .u8 0)], .agg [.lit (.int .u8 0), .lit (.int .u8 0)], .agg [.lit (.int .u8 0), .lit (.int .u8 0)], .agg [.lit (.int .u8 0), .lit (.int .u8 0)], .agg [.lit (.int .u8 0), .lit (.int .u8 0)], .agg [.lit (.int .u8 0), .lit (.int .u8 0)]]
/-- One of Go's own tables, pinned by name: the form's constant. -/
def laid_unicode_utf8_first : DataW Unit := Go.Pinned.utf8First

/-- 'pannierlaw10.PathCleans': WHATEVER THE INPUT: true; the input reads as it did. -/
def pathCleansSpec : ChangeSpec := { name := "pathCleans", fn := fun _ => fun
  | [d] => { results := [.lit (.bool true)], args := [d] }
  | _ => none }
def pathCleansRow : OpenClaim := { program := "ytcfhijegmmdpkaadoor", sum := "f116acbfbc7bbc8e2528f602efd1e8c589c3b492543c8ecd8282dceda98012fa", func := "pannier/pannierlaw10.PathCleans", spec := "pathCleans", inPlace := ["internal/bytealg.CountString", "internal/bytealg.IndexByteString", "internal/bytealg.IndexString", "internal/abi.NoEscape", "internal/bytealg.MakeNoZero", "internal/bytealg.abigen_runtime_cmpstring"], named := ["unicode/utf8.first", "unicode/utf8.acceptRanges", "internal/bytealg.MaxLen"], apart := false, laid := [("unicode/utf8.acceptRanges", laid_unicode_utf8_acceptRanges), ("unicode/utf8.first", laid_unicode_utf8_first)] }
def PathCleansSaid : Prop := pathCleansRow.holds Tryd.pinned (OpenSpec.ofChange pathCleansSpec)

/-- ITS FALSE NEIGHBOUR: 'it returns false'. Refute it at one input. -/
def pathCleansWrong : ChangeSpec := { name := "pathCleans", fn := fun _ => fun
  | [d] => { results := [.lit (.bool false)], args := [d] }
  | _ => none }
def PathCleansWrongFalsely : Prop := pathCleansRow.holds Tryd.pinned (OpenSpec.ofChange pathCleansWrong)

/-- 'pannierlaw10.PathOrder': WHATEVER THE INPUT: true; the input reads as it did. -/
def pathOrderSpec : ChangeSpec := { name := "pathOrder", fn := fun _ => fun
  | [d1, d2, d3] => { results := [.lit (.bool true)], args := [d1, d2, d3] }
  | _ => none }
def pathOrderRow : OpenClaim := { program := "ytcfhijegmmdpkaadoor", sum := "f116acbfbc7bbc8e2528f602efd1e8c589c3b492543c8ecd8282dceda98012fa", func := "pannier/pannierlaw10.PathOrder", spec := "pathOrder", inPlace := ["internal/bytealg.CountString", "internal/bytealg.IndexByteString", "internal/bytealg.IndexString", "internal/abi.NoEscape", "internal/bytealg.MakeNoZero", "internal/bytealg.abigen_runtime_cmpstring"], named := ["unicode/utf8.first", "unicode/utf8.acceptRanges", "internal/bytealg.MaxLen"], apart := false, laid := [("unicode/utf8.acceptRanges", laid_unicode_utf8_acceptRanges), ("unicode/utf8.first", laid_unicode_utf8_first)] }
def PathOrderSaid : Prop := pathOrderRow.holds Tryd.pinned (OpenSpec.ofChange pathOrderSpec)

/-- ITS FALSE NEIGHBOUR: 'it returns false'. Refute it at one input. -/
def pathOrderWrong : ChangeSpec := { name := "pathOrder", fn := fun _ => fun
  | [d1, d2, d3] => { results := [.lit (.bool false)], args := [d1, d2, d3] }
  | _ => none }
def PathOrderWrongFalsely : Prop := pathOrderRow.holds Tryd.pinned (OpenSpec.ofChange pathOrderWrong)

/-- 'pannierlaw10.PathSafe': WHATEVER THE INPUT: true; the input reads as it did. -/
def pathSafeSpec : ChangeSpec := { name := "pathSafe", fn := fun _ => fun
  | [d] => { results := [.lit (.bool true)], args := [d] }
  | _ => none }
def pathSafeRow : OpenClaim := { program := "ytcfhijegmmdpkaadoor", sum := "f116acbfbc7bbc8e2528f602efd1e8c589c3b492543c8ecd8282dceda98012fa", func := "pannier/pannierlaw10.PathSafe", spec := "pathSafe", inPlace := ["internal/bytealg.CountString", "internal/bytealg.IndexByteString", "internal/bytealg.IndexString", "internal/abi.NoEscape", "internal/bytealg.MakeNoZero", "internal/bytealg.abigen_runtime_cmpstring"], named := ["unicode/utf8.first", "unicode/utf8.acceptRanges", "internal/bytealg.MaxLen"], apart := false, laid := [("unicode/utf8.acceptRanges", laid_unicode_utf8_acceptRanges), ("unicode/utf8.first", laid_unicode_utf8_first)] }
def PathSafeSaid : Prop := pathSafeRow.holds Tryd.pinned (OpenSpec.ofChange pathSafeSpec)

/-- ITS FALSE NEIGHBOUR: 'it returns false'. Refute it at one input. -/
def pathSafeWrong : ChangeSpec := { name := "pathSafe", fn := fun _ => fun
  | [d] => { results := [.lit (.bool false)], args := [d] }
  | _ => none }
def PathSafeWrongFalsely : Prop := pathSafeRow.holds Tryd.pinned (OpenSpec.ofChange pathSafeWrong)

/-- 'pannierlaw10.PathDots': WHATEVER THE INPUT: true; the input reads as it did. -/
def pathDotsSpec : ChangeSpec := { name := "pathDots", fn := fun _ => fun
  | [d1, d2] => { results := [.lit (.bool true)], args := [d1, d2] }
  | _ => none }
def pathDotsRow : OpenClaim := { program := "ytcfhijegmmdpkaadoor", sum := "f116acbfbc7bbc8e2528f602efd1e8c589c3b492543c8ecd8282dceda98012fa", func := "pannier/pannierlaw10.PathDots", spec := "pathDots", inPlace := ["internal/bytealg.CountString", "internal/bytealg.IndexByteString", "internal/bytealg.IndexString", "internal/abi.NoEscape", "internal/bytealg.MakeNoZero", "internal/bytealg.abigen_runtime_cmpstring"], named := ["unicode/utf8.first", "unicode/utf8.acceptRanges", "internal/bytealg.MaxLen"], apart := false, laid := [("unicode/utf8.acceptRanges", laid_unicode_utf8_acceptRanges), ("unicode/utf8.first", laid_unicode_utf8_first)] }
def PathDotsSaid : Prop := pathDotsRow.holds Tryd.pinned (OpenSpec.ofChange pathDotsSpec)

/-- ITS FALSE NEIGHBOUR: 'it returns false'. Refute it at one input. -/
def pathDotsWrong : ChangeSpec := { name := "pathDots", fn := fun _ => fun
  | [d1, d2] => { results := [.lit (.bool false)], args := [d1, d2] }
  | _ => none }
def PathDotsWrongFalsely : Prop := pathDotsRow.holds Tryd.pinned (OpenSpec.ofChange pathDotsWrong)

/-- 'pannierlaw10.PathLong': WHATEVER THE INPUT: true; the input reads as it did. -/
def pathLongSpec : ChangeSpec := { name := "pathLong", fn := fun _ => fun
  | [d1, d2] => { results := [.lit (.bool true)], args := [d1, d2] }
  | _ => none }
def pathLongRow : OpenClaim := { program := "ytcfhijegmmdpkaadoor", sum := "f116acbfbc7bbc8e2528f602efd1e8c589c3b492543c8ecd8282dceda98012fa", func := "pannier/pannierlaw10.PathLong", spec := "pathLong", inPlace := ["internal/bytealg.CountString", "internal/bytealg.IndexByteString", "internal/bytealg.IndexString", "internal/abi.NoEscape", "internal/bytealg.MakeNoZero", "internal/bytealg.abigen_runtime_cmpstring"], named := ["unicode/utf8.first", "unicode/utf8.acceptRanges", "internal/bytealg.MaxLen"], apart := false, laid := [("unicode/utf8.acceptRanges", laid_unicode_utf8_acceptRanges), ("unicode/utf8.first", laid_unicode_utf8_first)] }
def PathLongSaid : Prop := pathLongRow.holds Tryd.pinned (OpenSpec.ofChange pathLongSpec)

/-- ITS FALSE NEIGHBOUR: 'it returns false'. Refute it at one input. -/
def pathLongWrong : ChangeSpec := { name := "pathLong", fn := fun _ => fun
  | [d1, d2] => { results := [.lit (.bool false)], args := [d1, d2] }
  | _ => none }
def PathLongWrongFalsely : Prop := pathLongRow.holds Tryd.pinned (OpenSpec.ofChange pathLongWrong)

/-- 'pannierlaw11.TargetResolves': WHATEVER THE INPUT: true; the input reads as it did. -/
def targetResolvesSpec : ChangeSpec := { name := "targetResolves", fn := fun _ => fun
  | [d1, d2] => { results := [.lit (.bool true)], args := [d1, d2] }
  | _ => none }
def targetResolvesRow : OpenClaim := { program := "ytcfhijegmmdpkaadoor", sum := "f116acbfbc7bbc8e2528f602efd1e8c589c3b492543c8ecd8282dceda98012fa", func := "pannier/pannierlaw11.TargetResolves", spec := "targetResolves", inPlace := ["internal/bytealg.CountString", "internal/bytealg.IndexByteString", "internal/bytealg.IndexString", "internal/abi.NoEscape", "internal/bytealg.MakeNoZero"], named := ["unicode/utf8.first", "unicode/utf8.acceptRanges", "internal/bytealg.MaxLen"], apart := false, laid := [("unicode/utf8.acceptRanges", laid_unicode_utf8_acceptRanges), ("unicode/utf8.first", laid_unicode_utf8_first)] }
def TargetResolvesSaid : Prop := targetResolvesRow.holds Tryd.pinned (OpenSpec.ofChange targetResolvesSpec)

/-- ITS FALSE NEIGHBOUR: 'it returns false'. Refute it at one input. -/
def targetResolvesWrong : ChangeSpec := { name := "targetResolves", fn := fun _ => fun
  | [d1, d2] => { results := [.lit (.bool false)], args := [d1, d2] }
  | _ => none }
def TargetResolvesWrongFalsely : Prop := targetResolvesRow.holds Tryd.pinned (OpenSpec.ofChange targetResolvesWrong)

/-- 'pannierlaw11.TargetInside': WHATEVER THE INPUT: true; the input reads as it did. -/
def targetInsideSpec : ChangeSpec := { name := "targetInside", fn := fun _ => fun
  | [d1, d2] => { results := [.lit (.bool true)], args := [d1, d2] }
  | _ => none }
def targetInsideRow : OpenClaim := { program := "ytcfhijegmmdpkaadoor", sum := "f116acbfbc7bbc8e2528f602efd1e8c589c3b492543c8ecd8282dceda98012fa", func := "pannier/pannierlaw11.TargetInside", spec := "targetInside", inPlace := ["internal/bytealg.CountString", "internal/bytealg.IndexByteString", "internal/bytealg.IndexString", "internal/abi.NoEscape", "internal/bytealg.MakeNoZero"], named := ["unicode/utf8.first", "unicode/utf8.acceptRanges", "internal/bytealg.MaxLen"], apart := false, laid := [("unicode/utf8.acceptRanges", laid_unicode_utf8_acceptRanges), ("unicode/utf8.first", laid_unicode_utf8_first)] }
def TargetInsideSaid : Prop := targetInsideRow.holds Tryd.pinned (OpenSpec.ofChange targetInsideSpec)

/-- ITS FALSE NEIGHBOUR: 'it returns false'. Refute it at one input. -/
def targetInsideWrong : ChangeSpec := { name := "targetInside", fn := fun _ => fun
  | [d1, d2] => { results := [.lit (.bool false)], args := [d1, d2] }
  | _ => none }
def TargetInsideWrongFalsely : Prop := targetInsideRow.holds Tryd.pinned (OpenSpec.ofChange targetInsideWrong)

/-- 'pannierlaw11.TargetBack': WHATEVER THE INPUT: true; the input reads as it did. -/
def targetBackSpec : ChangeSpec := { name := "targetBack", fn := fun _ => fun
  | [d1, d2] => { results := [.lit (.bool true)], args := [d1, d2] }
  | _ => none }
def targetBackRow : OpenClaim := { program := "ytcfhijegmmdpkaadoor", sum := "f116acbfbc7bbc8e2528f602efd1e8c589c3b492543c8ecd8282dceda98012fa", func := "pannier/pannierlaw11.TargetBack", spec := "targetBack", inPlace := ["internal/bytealg.CountString", "internal/bytealg.IndexByteString", "internal/bytealg.IndexString", "internal/abi.NoEscape", "internal/bytealg.MakeNoZero"], named := ["unicode/utf8.first", "unicode/utf8.acceptRanges", "internal/bytealg.MaxLen"], apart := false, laid := [("unicode/utf8.acceptRanges", laid_unicode_utf8_acceptRanges), ("unicode/utf8.first", laid_unicode_utf8_first)] }
def TargetBackSaid : Prop := targetBackRow.holds Tryd.pinned (OpenSpec.ofChange targetBackSpec)

/-- ITS FALSE NEIGHBOUR: 'it returns false'. Refute it at one input. -/
def targetBackWrong : ChangeSpec := { name := "targetBack", fn := fun _ => fun
  | [d1, d2] => { results := [.lit (.bool false)], args := [d1, d2] }
  | _ => none }
def TargetBackWrongFalsely : Prop := targetBackRow.holds Tryd.pinned (OpenSpec.ofChange targetBackWrong)

/-- 'pannierlaw11.TargetUps': WHATEVER THE INPUT: true; the input reads as it did. -/
def targetUpsSpec : ChangeSpec := { name := "targetUps", fn := fun _ => fun
  | [d1, d2] => { results := [.lit (.bool true)], args := [d1, d2] }
  | _ => none }
def targetUpsRow : OpenClaim := { program := "ytcfhijegmmdpkaadoor", sum := "f116acbfbc7bbc8e2528f602efd1e8c589c3b492543c8ecd8282dceda98012fa", func := "pannier/pannierlaw11.TargetUps", spec := "targetUps", inPlace := ["internal/bytealg.CountString", "internal/bytealg.IndexByteString", "internal/bytealg.IndexString", "internal/abi.NoEscape", "internal/bytealg.MakeNoZero"], named := ["unicode/utf8.first", "unicode/utf8.acceptRanges", "internal/bytealg.MaxLen"], apart := false, laid := [("unicode/utf8.acceptRanges", laid_unicode_utf8_acceptRanges), ("unicode/utf8.first", laid_unicode_utf8_first)] }
def TargetUpsSaid : Prop := targetUpsRow.holds Tryd.pinned (OpenSpec.ofChange targetUpsSpec)

/-- ITS FALSE NEIGHBOUR: 'it returns false'. Refute it at one input. -/
def targetUpsWrong : ChangeSpec := { name := "targetUps", fn := fun _ => fun
  | [d1, d2] => { results := [.lit (.bool false)], args := [d1, d2] }
  | _ => none }
def TargetUpsWrongFalsely : Prop := targetUpsRow.holds Tryd.pinned (OpenSpec.ofChange targetUpsWrong)

/-- 'pannierlaw11.TargetDown': WHATEVER THE INPUT: true; the input reads as it did. -/
def targetDownSpec : ChangeSpec := { name := "targetDown", fn := fun _ => fun
  | [d1, d2] => { results := [.lit (.bool true)], args := [d1, d2] }
  | _ => none }
def targetDownRow : OpenClaim := { program := "ytcfhijegmmdpkaadoor", sum := "f116acbfbc7bbc8e2528f602efd1e8c589c3b492543c8ecd8282dceda98012fa", func := "pannier/pannierlaw11.TargetDown", spec := "targetDown", inPlace := ["internal/bytealg.CountString", "internal/bytealg.IndexByteString", "internal/bytealg.IndexString", "internal/abi.NoEscape", "internal/bytealg.MakeNoZero"], named := ["unicode/utf8.first", "unicode/utf8.acceptRanges", "internal/bytealg.MaxLen"], apart := false, laid := [("unicode/utf8.acceptRanges", laid_unicode_utf8_acceptRanges), ("unicode/utf8.first", laid_unicode_utf8_first)] }
def TargetDownSaid : Prop := targetDownRow.holds Tryd.pinned (OpenSpec.ofChange targetDownSpec)

/-- ITS FALSE NEIGHBOUR: 'it returns false'. Refute it at one input. -/
def targetDownWrong : ChangeSpec := { name := "targetDown", fn := fun _ => fun
  | [d1, d2] => { results := [.lit (.bool false)], args := [d1, d2] }
  | _ => none }
def TargetDownWrongFalsely : Prop := targetDownRow.holds Tryd.pinned (OpenSpec.ofChange targetDownWrong)

/-- 'pannierlaw11.TargetShort': WHATEVER THE INPUT: true; the input reads as it did. -/
def targetShortSpec : ChangeSpec := { name := "targetShort", fn := fun _ => fun
  | [d1, d2] => { results := [.lit (.bool true)], args := [d1, d2] }
  | _ => none }
def targetShortRow : OpenClaim := { program := "ytcfhijegmmdpkaadoor", sum := "f116acbfbc7bbc8e2528f602efd1e8c589c3b492543c8ecd8282dceda98012fa", func := "pannier/pannierlaw11.TargetShort", spec := "targetShort", inPlace := ["internal/bytealg.CountString", "internal/bytealg.IndexByteString", "internal/bytealg.IndexString", "internal/abi.NoEscape", "internal/bytealg.MakeNoZero"], named := ["unicode/utf8.first", "unicode/utf8.acceptRanges", "internal/bytealg.MaxLen"], apart := false, laid := [("unicode/utf8.acceptRanges", laid_unicode_utf8_acceptRanges), ("unicode/utf8.first", laid_unicode_utf8_first)] }
def TargetShortSaid : Prop := targetShortRow.holds Tryd.pinned (OpenSpec.ofChange targetShortSpec)

/-- ITS FALSE NEIGHBOUR: 'it returns false'. Refute it at one input. -/
def targetShortWrong : ChangeSpec := { name := "targetShort", fn := fun _ => fun
  | [d1, d2] => { results := [.lit (.bool false)], args := [d1, d2] }
  | _ => none }
def TargetShortWrongFalsely : Prop := targetShortRow.holds Tryd.pinned (OpenSpec.ofChange targetShortWrong)

/-- 'pannierlaw10.PathUps': WHATEVER THE INPUT: true; the input reads as it did. -/
def pathUpsSpec : ChangeSpec := { name := "pathUps", fn := fun _ => fun
  | [d1, d2] => { results := [.lit (.bool true)], args := [d1, d2] }
  | _ => none }
def pathUpsRow : OpenClaim := { program := "ytcfhijegmmdpkaadoor", sum := "f116acbfbc7bbc8e2528f602efd1e8c589c3b492543c8ecd8282dceda98012fa", func := "pannier/pannierlaw10.PathUps", spec := "pathUps", inPlace := ["internal/bytealg.CountString", "internal/bytealg.IndexByteString", "internal/bytealg.IndexString", "internal/abi.NoEscape", "internal/bytealg.MakeNoZero", "internal/bytealg.abigen_runtime_cmpstring"], named := ["unicode/utf8.first", "unicode/utf8.acceptRanges", "internal/bytealg.MaxLen"], apart := false, laid := [("unicode/utf8.acceptRanges", laid_unicode_utf8_acceptRanges), ("unicode/utf8.first", laid_unicode_utf8_first)] }
def PathUpsSaid : Prop := pathUpsRow.holds Tryd.pinned (OpenSpec.ofChange pathUpsSpec)

/-- ITS FALSE NEIGHBOUR: 'it returns false'. Refute it at one input. -/
def pathUpsWrong : ChangeSpec := { name := "pathUps", fn := fun _ => fun
  | [d1, d2] => { results := [.lit (.bool false)], args := [d1, d2] }
  | _ => none }
def PathUpsWrongFalsely : Prop := pathUpsRow.holds Tryd.pinned (OpenSpec.ofChange pathUpsWrong)

/-- 'panniertop.WholeInside': WHATEVER THE INPUT: true; the input reads as it did. -/
def wholeInsideSpec : ChangeSpec := { name := "wholeInside", fn := fun _ => fun
  | [d1, d2] => { results := [.lit (.bool true)], args := [d1, d2] }
  | _ => none }
def wholeInsideRow : OpenClaim := { program := "ytcfhijegmmdpkaadoor", sum := "f116acbfbc7bbc8e2528f602efd1e8c589c3b492543c8ecd8282dceda98012fa", func := "pannier/panniertop.WholeInside", spec := "wholeInside", inPlace := ["internal/bytealg.CountString", "internal/bytealg.IndexByteString", "internal/bytealg.IndexString", "internal/abi.NoEscape", "internal/bytealg.MakeNoZero"], named := ["unicode/utf8.first", "unicode/utf8.acceptRanges", "internal/bytealg.MaxLen"], apart := false, laid := [("unicode/utf8.acceptRanges", laid_unicode_utf8_acceptRanges), ("unicode/utf8.first", laid_unicode_utf8_first)] }
def WholeInsideSaid : Prop := wholeInsideRow.holds Tryd.pinned (OpenSpec.ofChange wholeInsideSpec)

/-- ITS FALSE NEIGHBOUR: 'it returns false'. Refute it at one input. -/
def wholeInsideWrong : ChangeSpec := { name := "wholeInside", fn := fun _ => fun
  | [d1, d2] => { results := [.lit (.bool false)], args := [d1, d2] }
  | _ => none }
def WholeInsideWrongFalsely : Prop := wholeInsideRow.holds Tryd.pinned (OpenSpec.ofChange wholeInsideWrong)

/- THE SECOND FORM. 'bulk': how many values and letters a reading holds, each counted each time it is reached (what is shared counts as often as it is met; a slice's spare places count too). A statement '..UptoSaid' is the law's where the arguments, and the package variables that the reading takes, are together of bulk at most 1048576: NARROWER than '..Said'. Prove '..Said' where nothing that the law and all that it calls make is longer than what came in: it says more and counts as full. Else prove '..UptoSaid'. A law counts once. -/
mutual
def uptoBulk {H : Type} : DataW H → Nat
  | .lit (.string bytes) => bytes.length + 1
  | .lit _ => 1
  | .nil => 1
  | .ptr d => uptoBulk d + 1
  | .slice elems spare => uptoBulkAll elems + uptoBulkAll spare + 1
  | .agg parts => uptoBulkAll parts + 1
  | .iface _ d => uptoBulk d + 1
  | .map entries => uptoBulkEntries entries + 1
  | .held _ => 1
def uptoBulkAll {H : Type} : List (DataW H) → Nat
  | [] => 0
  | d :: r => uptoBulk d + uptoBulkAll r
def uptoBulkEntries {H : Type} : List (Lit × DataW H) → Nat
  | [] => 0
  | x :: r => uptoBulkEntry x + uptoBulkEntries r
def uptoBulkEntry {H : Type} : Lit × DataW H → Nat
  | (.string bytes, d) => bytes.length + uptoBulk d + 1
  | (_, d) => uptoBulk d + 1
 end
def uptoSmall : (H : Type) → List (DataW H) → Bool := fun _ ds => decide (uptoBulkAll ds ≤ 1048576)
def OpenSpec.upto (s : _root_.Go.ChangeSpec) : _root_.Go.OpenSpec := { _root_.Go.OpenSpec.ofChange s with cond := some uptoSmall }

/-- 'pannierlaw10.PathCleans', WHERE WHAT IT READS IS OF BULK AT MOST 1048576: true; the input reads as it did. -/
def pathCleansUptoRow : OpenClaim := { program := "ytcfhijegmmdpkaadoor", sum := "f116acbfbc7bbc8e2528f602efd1e8c589c3b492543c8ecd8282dceda98012fa", func := "pannier/pannierlaw10.PathCleans", spec := "pathCleans", inPlace := ["internal/bytealg.CountString", "internal/bytealg.IndexByteString", "internal/bytealg.IndexString", "internal/abi.NoEscape", "internal/bytealg.MakeNoZero", "internal/bytealg.abigen_runtime_cmpstring"], named := ["unicode/utf8.first", "unicode/utf8.acceptRanges", "internal/bytealg.MaxLen"], apart := false, laid := [("unicode/utf8.acceptRanges", laid_unicode_utf8_acceptRanges), ("unicode/utf8.first", laid_unicode_utf8_first)], narrowed := true }
def PathCleansUptoSaid : Prop := pathCleansUptoRow.holds Tryd.pinned (OpenSpec.upto pathCleansSpec)

/-- 'pannierlaw10.PathOrder', WHERE WHAT IT READS IS OF BULK AT MOST 1048576: true; the input reads as it did. -/
def pathOrderUptoRow : OpenClaim := { program := "ytcfhijegmmdpkaadoor", sum := "f116acbfbc7bbc8e2528f602efd1e8c589c3b492543c8ecd8282dceda98012fa", func := "pannier/pannierlaw10.PathOrder", spec := "pathOrder", inPlace := ["internal/bytealg.CountString", "internal/bytealg.IndexByteString", "internal/bytealg.IndexString", "internal/abi.NoEscape", "internal/bytealg.MakeNoZero", "internal/bytealg.abigen_runtime_cmpstring"], named := ["unicode/utf8.first", "unicode/utf8.acceptRanges", "internal/bytealg.MaxLen"], apart := false, laid := [("unicode/utf8.acceptRanges", laid_unicode_utf8_acceptRanges), ("unicode/utf8.first", laid_unicode_utf8_first)], narrowed := true }
def PathOrderUptoSaid : Prop := pathOrderUptoRow.holds Tryd.pinned (OpenSpec.upto pathOrderSpec)

/-- 'pannierlaw10.PathSafe', WHERE WHAT IT READS IS OF BULK AT MOST 1048576: true; the input reads as it did. -/
def pathSafeUptoRow : OpenClaim := { program := "ytcfhijegmmdpkaadoor", sum := "f116acbfbc7bbc8e2528f602efd1e8c589c3b492543c8ecd8282dceda98012fa", func := "pannier/pannierlaw10.PathSafe", spec := "pathSafe", inPlace := ["internal/bytealg.CountString", "internal/bytealg.IndexByteString", "internal/bytealg.IndexString", "internal/abi.NoEscape", "internal/bytealg.MakeNoZero", "internal/bytealg.abigen_runtime_cmpstring"], named := ["unicode/utf8.first", "unicode/utf8.acceptRanges", "internal/bytealg.MaxLen"], apart := false, laid := [("unicode/utf8.acceptRanges", laid_unicode_utf8_acceptRanges), ("unicode/utf8.first", laid_unicode_utf8_first)], narrowed := true }
def PathSafeUptoSaid : Prop := pathSafeUptoRow.holds Tryd.pinned (OpenSpec.upto pathSafeSpec)

/-- 'pannierlaw10.PathDots', WHERE WHAT IT READS IS OF BULK AT MOST 1048576: true; the input reads as it did. -/
def pathDotsUptoRow : OpenClaim := { program := "ytcfhijegmmdpkaadoor", sum := "f116acbfbc7bbc8e2528f602efd1e8c589c3b492543c8ecd8282dceda98012fa", func := "pannier/pannierlaw10.PathDots", spec := "pathDots", inPlace := ["internal/bytealg.CountString", "internal/bytealg.IndexByteString", "internal/bytealg.IndexString", "internal/abi.NoEscape", "internal/bytealg.MakeNoZero", "internal/bytealg.abigen_runtime_cmpstring"], named := ["unicode/utf8.first", "unicode/utf8.acceptRanges", "internal/bytealg.MaxLen"], apart := false, laid := [("unicode/utf8.acceptRanges", laid_unicode_utf8_acceptRanges), ("unicode/utf8.first", laid_unicode_utf8_first)], narrowed := true }
def PathDotsUptoSaid : Prop := pathDotsUptoRow.holds Tryd.pinned (OpenSpec.upto pathDotsSpec)

/-- 'pannierlaw10.PathLong', WHERE WHAT IT READS IS OF BULK AT MOST 1048576: true; the input reads as it did. -/
def pathLongUptoRow : OpenClaim := { program := "ytcfhijegmmdpkaadoor", sum := "f116acbfbc7bbc8e2528f602efd1e8c589c3b492543c8ecd8282dceda98012fa", func := "pannier/pannierlaw10.PathLong", spec := "pathLong", inPlace := ["internal/bytealg.CountString", "internal/bytealg.IndexByteString", "internal/bytealg.IndexString", "internal/abi.NoEscape", "internal/bytealg.MakeNoZero", "internal/bytealg.abigen_runtime_cmpstring"], named := ["unicode/utf8.first", "unicode/utf8.acceptRanges", "internal/bytealg.MaxLen"], apart := false, laid := [("unicode/utf8.acceptRanges", laid_unicode_utf8_acceptRanges), ("unicode/utf8.first", laid_unicode_utf8_first)], narrowed := true }
def PathLongUptoSaid : Prop := pathLongUptoRow.holds Tryd.pinned (OpenSpec.upto pathLongSpec)

/-- 'pannierlaw11.TargetResolves', WHERE WHAT IT READS IS OF BULK AT MOST 1048576: true; the input reads as it did. -/
def targetResolvesUptoRow : OpenClaim := { program := "ytcfhijegmmdpkaadoor", sum := "f116acbfbc7bbc8e2528f602efd1e8c589c3b492543c8ecd8282dceda98012fa", func := "pannier/pannierlaw11.TargetResolves", spec := "targetResolves", inPlace := ["internal/bytealg.CountString", "internal/bytealg.IndexByteString", "internal/bytealg.IndexString", "internal/abi.NoEscape", "internal/bytealg.MakeNoZero"], named := ["unicode/utf8.first", "unicode/utf8.acceptRanges", "internal/bytealg.MaxLen"], apart := false, laid := [("unicode/utf8.acceptRanges", laid_unicode_utf8_acceptRanges), ("unicode/utf8.first", laid_unicode_utf8_first)], narrowed := true }
def TargetResolvesUptoSaid : Prop := targetResolvesUptoRow.holds Tryd.pinned (OpenSpec.upto targetResolvesSpec)

/-- 'pannierlaw11.TargetInside', WHERE WHAT IT READS IS OF BULK AT MOST 1048576: true; the input reads as it did. -/
def targetInsideUptoRow : OpenClaim := { program := "ytcfhijegmmdpkaadoor", sum := "f116acbfbc7bbc8e2528f602efd1e8c589c3b492543c8ecd8282dceda98012fa", func := "pannier/pannierlaw11.TargetInside", spec := "targetInside", inPlace := ["internal/bytealg.CountString", "internal/bytealg.IndexByteString", "internal/bytealg.IndexString", "internal/abi.NoEscape", "internal/bytealg.MakeNoZero"], named := ["unicode/utf8.first", "unicode/utf8.acceptRanges", "internal/bytealg.MaxLen"], apart := false, laid := [("unicode/utf8.acceptRanges", laid_unicode_utf8_acceptRanges), ("unicode/utf8.first", laid_unicode_utf8_first)], narrowed := true }
def TargetInsideUptoSaid : Prop := targetInsideUptoRow.holds Tryd.pinned (OpenSpec.upto targetInsideSpec)

/-- 'pannierlaw11.TargetBack', WHERE WHAT IT READS IS OF BULK AT MOST 1048576: true; the input reads as it did. -/
def targetBackUptoRow : OpenClaim := { program := "ytcfhijegmmdpkaadoor", sum := "f116acbfbc7bbc8e2528f602efd1e8c589c3b492543c8ecd8282dceda98012fa", func := "pannier/pannierlaw11.TargetBack", spec := "targetBack", inPlace := ["internal/bytealg.CountString", "internal/bytealg.IndexByteString", "internal/bytealg.IndexString", "internal/abi.NoEscape", "internal/bytealg.MakeNoZero"], named := ["unicode/utf8.first", "unicode/utf8.acceptRanges", "internal/bytealg.MaxLen"], apart := false, laid := [("unicode/utf8.acceptRanges", laid_unicode_utf8_acceptRanges), ("unicode/utf8.first", laid_unicode_utf8_first)], narrowed := true }
def TargetBackUptoSaid : Prop := targetBackUptoRow.holds Tryd.pinned (OpenSpec.upto targetBackSpec)

/-- 'pannierlaw11.TargetUps', WHERE WHAT IT READS IS OF BULK AT MOST 1048576: true; the input reads as it did. -/
def targetUpsUptoRow : OpenClaim := { program := "ytcfhijegmmdpkaadoor", sum := "f116acbfbc7bbc8e2528f602efd1e8c589c3b492543c8ecd8282dceda98012fa", func := "pannier/pannierlaw11.TargetUps", spec := "targetUps", inPlace := ["internal/bytealg.CountString", "internal/bytealg.IndexByteString", "internal/bytealg.IndexString", "internal/abi.NoEscape", "internal/bytealg.MakeNoZero"], named := ["unicode/utf8.first", "unicode/utf8.acceptRanges", "internal/bytealg.MaxLen"], apart := false, laid := [("unicode/utf8.acceptRanges", laid_unicode_utf8_acceptRanges), ("unicode/utf8.first", laid_unicode_utf8_first)], narrowed := true }
def TargetUpsUptoSaid : Prop := targetUpsUptoRow.holds Tryd.pinned (OpenSpec.upto targetUpsSpec)

/-- 'pannierlaw11.TargetDown', WHERE WHAT IT READS IS OF BULK AT MOST 1048576: true; the input reads as it did. -/
def targetDownUptoRow : OpenClaim := { program := "ytcfhijegmmdpkaadoor", sum := "f116acbfbc7bbc8e2528f602efd1e8c589c3b492543c8ecd8282dceda98012fa", func := "pannier/pannierlaw11.TargetDown", spec := "targetDown", inPlace := ["internal/bytealg.CountString", "internal/bytealg.IndexByteString", "internal/bytealg.IndexString", "internal/abi.NoEscape", "internal/bytealg.MakeNoZero"], named := ["unicode/utf8.first", "unicode/utf8.acceptRanges", "internal/bytealg.MaxLen"], apart := false, laid := [("unicode/utf8.acceptRanges", laid_unicode_utf8_acceptRanges), ("unicode/utf8.first", laid_unicode_utf8_first)], narrowed := true }
def TargetDownUptoSaid : Prop := targetDownUptoRow.holds Tryd.pinned (OpenSpec.upto targetDownSpec)

/-- 'pannierlaw11.TargetShort', WHERE WHAT IT READS IS OF BULK AT MOST 1048576: true; the input reads as it did. -/
def targetShortUptoRow : OpenClaim := { program := "ytcfhijegmmdpkaadoor", sum := "f116acbfbc7bbc8e2528f602efd1e8c589c3b492543c8ecd8282dceda98012fa", func := "pannier/pannierlaw11.TargetShort", spec := "targetShort", inPlace := ["internal/bytealg.CountString", "internal/bytealg.IndexByteString", "internal/bytealg.IndexString", "internal/abi.NoEscape", "internal/bytealg.MakeNoZero"], named := ["unicode/utf8.first", "unicode/utf8.acceptRanges", "internal/bytealg.MaxLen"], apart := false, laid := [("unicode/utf8.acceptRanges", laid_unicode_utf8_acceptRanges), ("unicode/utf8.first", laid_unicode_utf8_first)], narrowed := true }
def TargetShortUptoSaid : Prop := targetShortUptoRow.holds Tryd.pinned (OpenSpec.upto targetShortSpec)

/-- 'pannierlaw10.PathUps', WHERE WHAT IT READS IS OF BULK AT MOST 1048576: true; the input reads as it did. -/
def pathUpsUptoRow : OpenClaim := { program := "ytcfhijegmmdpkaadoor", sum := "f116acbfbc7bbc8e2528f602efd1e8c589c3b492543c8ecd8282dceda98012fa", func := "pannier/pannierlaw10.PathUps", spec := "pathUps", inPlace := ["internal/bytealg.CountString", "internal/bytealg.IndexByteString", "internal/bytealg.IndexString", "internal/abi.NoEscape", "internal/bytealg.MakeNoZero", "internal/bytealg.abigen_runtime_cmpstring"], named := ["unicode/utf8.first", "unicode/utf8.acceptRanges", "internal/bytealg.MaxLen"], apart := false, laid := [("unicode/utf8.acceptRanges", laid_unicode_utf8_acceptRanges), ("unicode/utf8.first", laid_unicode_utf8_first)], narrowed := true }
def PathUpsUptoSaid : Prop := pathUpsUptoRow.holds Tryd.pinned (OpenSpec.upto pathUpsSpec)

/-- 'panniertop.WholeInside', WHERE WHAT IT READS IS OF BULK AT MOST 1048576: true; the input reads as it did. -/
def wholeInsideUptoRow : OpenClaim := { program := "ytcfhijegmmdpkaadoor", sum := "f116acbfbc7bbc8e2528f602efd1e8c589c3b492543c8ecd8282dceda98012fa", func := "pannier/panniertop.WholeInside", spec := "wholeInside", inPlace := ["internal/bytealg.CountString", "internal/bytealg.IndexByteString", "internal/bytealg.IndexString", "internal/abi.NoEscape", "internal/bytealg.MakeNoZero"], named := ["unicode/utf8.first", "unicode/utf8.acceptRanges", "internal/bytealg.MaxLen"], apart := false, laid := [("unicode/utf8.acceptRanges", laid_unicode_utf8_acceptRanges), ("unicode/utf8.first", laid_unicode_utf8_first)], narrowed := true }
def WholeInsideUptoSaid : Prop := wholeInsideUptoRow.holds Tryd.pinned (OpenSpec.upto wholeInsideSpec)

end Rows
end Go.Proofs.YtcfhijegmmdpkaaDoor
