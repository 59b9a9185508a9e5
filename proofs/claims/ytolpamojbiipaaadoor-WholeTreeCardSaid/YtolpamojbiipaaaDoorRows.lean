/-
  NARROWER THAN 'FOR EVERY INPUT', by the rows' own cells (each row's printed sentence says how): UsageAdds: laid · UsageFits: laid · UsageOf: laid · UsageGrows: laid · UsageNames: laid · MergeOver: laid · MergeApart: laid · MergeKinds: laid · MergeGone: laid · UsageCuts: laid · MergeTwice: laid · MergeFits: laid · WholeTree: laid.
  DERIVED. THE GIVEN ROWS OF THIS SEAT. 13 by the template 'for every input the law returns true; each argument reads behind the call as it read before'; 0 by the template 'total and deterministic' (their statements: YtolpamojbiipaaaDoorTotals.lean).
  GIVEN WITH THE SEED: the statements are not yours to turn. If you find one false, say at which input.
  Laid BY PROGRAM, IN A SANDBOX (cutbox-rows.mjs): the forced cells as the released guide's own fill.sh prints them over the translation 88f345eb5bbf8c5e… (all of the seat's roots in one cut). By AI agents, Wed Nov 11 2026. No macro, syntax, notation, axiom, sorry.
-/
import Derived.Test.YtolpamojbiipaaaDoorChecked
import GoSem.PinnedTables
import GoSem.Claim
import GoSem.ClaimJoined
import GoSem.ClaimMapViews
import Derived.JoinedTies
import Derived.KernelRfl
namespace Go.Proofs.YtolpamojbiipaaaDoor
/- THE CELL 'sum', in the pinned program and in every row, IS THE sha256 OF THE DUMP (.gsa) THAT YtolpamojbiipaaaDoorProg.lean LOADS. Nothing in Lean hashes anything: it is a label: what it is worth is what the hold of that sum in a sandbox is worth. -/
noncomputable def Tryd.pinned : Pinned := { name := "ytolpamojbiipaaadoor", sum := "88f345eb5bbf8c5ec1f5279357d90e802c375ec493753c771593608c33d3b7db", checked := Tryd.checked }
namespace Rows
def none {H : Type} : Left H := { results := [], args := [] }

/- WHAT THE LISTED PACKAGE-LEVEL VARIABLES READ AS WHEN THE CALL BEGINS. Each datum BY PROGRAM (the guide's laid-datum.mjs) off the statement by which the dump's own 'gosem.cut.vars' lays the variable. In a bare row this is a premise. The card (YtolpamojbiipaaaDoorCards.lean) ties it to the program's text. -/
def laid_unicode_utf8_acceptRanges {H : Type} : DataW H := .agg [.agg [.lit (.int .u8 128), .lit (.int .u8 191)], .agg [.lit (.int .u8 160), .lit (.int .u8 191)], .agg [.lit (.int .u8 128), .lit (.int .u8 159)], .agg [.lit (.int .u8 144), .lit (.int .u8 191)], .agg [.lit (.int .u8 128), .lit (.int .u8 143)], .agg [.lit (.int .u8 0), .lit (.int .u8 0)], .agg [.lit (.int .u8 0), .lit (.int .u8 0)], .agg [.lit (.int .u8 0), .lit (.int .u8 0)], .agg [.lit (.int .u8 0), .lit (.int .u8 0)], .agg [.lit (.int .u8 0), .lit (.int .u8 0)], .agg [.lit (.int .u8 0), .lit (.int .u8 0)], .agg [.lit (.int .u8 0), .lit (.int .u8 0)], .agg [.lit (.int .u8 0), .lit (.int .u8 0)], .agg [.lit (.int .u8 0), .lit (.int .u8 0)], .agg [.lit (.int .u8 0), .lit (.int .u8 0)], .agg [.lit (.int .u8 0), .lit (.int .u8 0)]]
/-- One of Go's own tables, pinned by name: the form's constant. -/
def laid_unicode_utf8_first : DataW Unit := Go.Pinned.utf8First

/-- 'pannierlaw14.UsageAdds': WHATEVER THE INPUT: true; the input reads as it did. -/
def usageAddsSpec : ChangeSpec := { name := "usageAdds", fn := fun _ => fun
  | [d1, d2, d3] => { results := [.lit (.bool true)], args := [d1, d2, d3] }
  | _ => none }
def usageAddsRow : OpenClaim := { program := "ytolpamojbiipaaadoor", sum := "88f345eb5bbf8c5ec1f5279357d90e802c375ec493753c771593608c33d3b7db", func := "pannier/pannierlaw14.UsageAdds", spec := "usageAdds", inPlace := ["internal/bytealg.CountString", "internal/bytealg.IndexByteString", "internal/bytealg.IndexString", "internal/bytealg.abigen_runtime_cmpstring", "slices.overlaps[pannier/tree.Row]"], unfollowed := true, recurses := true, named := ["unicode/utf8.first", "unicode/utf8.acceptRanges", "internal/bytealg.MaxLen"], apart := false, laid := [("unicode/utf8.acceptRanges", laid_unicode_utf8_acceptRanges), ("unicode/utf8.first", laid_unicode_utf8_first)] }
def UsageAddsSaid : Prop := usageAddsRow.holds Tryd.pinned (OpenSpec.ofChange usageAddsSpec)

/-- ITS FALSE NEIGHBOUR: 'it returns false'. Refute it at one input. -/
def usageAddsWrong : ChangeSpec := { name := "usageAdds", fn := fun _ => fun
  | [d1, d2, d3] => { results := [.lit (.bool false)], args := [d1, d2, d3] }
  | _ => none }
def UsageAddsWrongFalsely : Prop := usageAddsRow.holds Tryd.pinned (OpenSpec.ofChange usageAddsWrong)

/-- 'pannierlaw14.UsageFits': WHATEVER THE INPUT: true; the input reads as it did. -/
def usageFitsSpec : ChangeSpec := { name := "usageFits", fn := fun _ => fun
  | [d1, d2, d3] => { results := [.lit (.bool true)], args := [d1, d2, d3] }
  | _ => none }
def usageFitsRow : OpenClaim := { program := "ytolpamojbiipaaadoor", sum := "88f345eb5bbf8c5ec1f5279357d90e802c375ec493753c771593608c33d3b7db", func := "pannier/pannierlaw14.UsageFits", spec := "usageFits", inPlace := ["internal/bytealg.CountString", "internal/bytealg.IndexByteString", "internal/bytealg.IndexString", "internal/bytealg.abigen_runtime_cmpstring", "slices.overlaps[pannier/tree.Row]"], unfollowed := true, recurses := true, named := ["unicode/utf8.first", "unicode/utf8.acceptRanges", "internal/bytealg.MaxLen"], apart := false, laid := [("unicode/utf8.acceptRanges", laid_unicode_utf8_acceptRanges), ("unicode/utf8.first", laid_unicode_utf8_first)] }
def UsageFitsSaid : Prop := usageFitsRow.holds Tryd.pinned (OpenSpec.ofChange usageFitsSpec)

/-- ITS FALSE NEIGHBOUR: 'it returns false'. Refute it at one input. -/
def usageFitsWrong : ChangeSpec := { name := "usageFits", fn := fun _ => fun
  | [d1, d2, d3] => { results := [.lit (.bool false)], args := [d1, d2, d3] }
  | _ => none }
def UsageFitsWrongFalsely : Prop := usageFitsRow.holds Tryd.pinned (OpenSpec.ofChange usageFitsWrong)

/-- 'pannierlaw14.UsageOf': WHATEVER THE INPUT: true; the input reads as it did. -/
def usageOfSpec : ChangeSpec := { name := "usageOf", fn := fun _ => fun
  | [d] => { results := [.lit (.bool true)], args := [d] }
  | _ => none }
def usageOfRow : OpenClaim := { program := "ytolpamojbiipaaadoor", sum := "88f345eb5bbf8c5ec1f5279357d90e802c375ec493753c771593608c33d3b7db", func := "pannier/pannierlaw14.UsageOf", spec := "usageOf", inPlace := ["internal/bytealg.CountString", "internal/bytealg.IndexByteString", "internal/bytealg.IndexString", "internal/bytealg.abigen_runtime_cmpstring", "slices.overlaps[pannier/tree.Row]", "internal/abi.NoEscape", "internal/bytealg.MakeNoZero"], unfollowed := true, recurses := true, named := ["unicode/utf8.first", "unicode/utf8.acceptRanges", "internal/bytealg.MaxLen"], apart := false, laid := [("unicode/utf8.acceptRanges", laid_unicode_utf8_acceptRanges), ("unicode/utf8.first", laid_unicode_utf8_first)] }
def UsageOfSaid : Prop := usageOfRow.holds Tryd.pinned (OpenSpec.ofChange usageOfSpec)

/-- ITS FALSE NEIGHBOUR: 'it returns false'. Refute it at one input. -/
def usageOfWrong : ChangeSpec := { name := "usageOf", fn := fun _ => fun
  | [d] => { results := [.lit (.bool false)], args := [d] }
  | _ => none }
def UsageOfWrongFalsely : Prop := usageOfRow.holds Tryd.pinned (OpenSpec.ofChange usageOfWrong)

/-- 'pannierlaw14.UsageGrows': WHATEVER THE INPUT: true; the input reads as it did. -/
def usageGrowsSpec : ChangeSpec := { name := "usageGrows", fn := fun _ => fun
  | [d1, d2] => { results := [.lit (.bool true)], args := [d1, d2] }
  | _ => none }
def usageGrowsRow : OpenClaim := { program := "ytolpamojbiipaaadoor", sum := "88f345eb5bbf8c5ec1f5279357d90e802c375ec493753c771593608c33d3b7db", func := "pannier/pannierlaw14.UsageGrows", spec := "usageGrows", inPlace := ["internal/bytealg.CountString", "internal/bytealg.IndexByteString", "internal/bytealg.IndexString", "internal/bytealg.abigen_runtime_cmpstring", "slices.overlaps[pannier/tree.Row]", "internal/abi.NoEscape", "internal/bytealg.MakeNoZero"], unfollowed := true, recurses := true, named := ["unicode/utf8.first", "unicode/utf8.acceptRanges", "internal/bytealg.MaxLen"], apart := false, laid := [("unicode/utf8.acceptRanges", laid_unicode_utf8_acceptRanges), ("unicode/utf8.first", laid_unicode_utf8_first)] }
def UsageGrowsSaid : Prop := usageGrowsRow.holds Tryd.pinned (OpenSpec.ofChange usageGrowsSpec)

/-- ITS FALSE NEIGHBOUR: 'it returns false'. Refute it at one input. -/
def usageGrowsWrong : ChangeSpec := { name := "usageGrows", fn := fun _ => fun
  | [d1, d2] => { results := [.lit (.bool false)], args := [d1, d2] }
  | _ => none }
def UsageGrowsWrongFalsely : Prop := usageGrowsRow.holds Tryd.pinned (OpenSpec.ofChange usageGrowsWrong)

/-- 'pannierlaw14.UsageNames': WHATEVER THE INPUT: true; the input reads as it did. -/
def usageNamesSpec : ChangeSpec := { name := "usageNames", fn := fun _ => fun
  | [d1, d2, d3] => { results := [.lit (.bool true)], args := [d1, d2, d3] }
  | _ => none }
def usageNamesRow : OpenClaim := { program := "ytolpamojbiipaaadoor", sum := "88f345eb5bbf8c5ec1f5279357d90e802c375ec493753c771593608c33d3b7db", func := "pannier/pannierlaw14.UsageNames", spec := "usageNames", inPlace := ["internal/bytealg.CountString", "internal/bytealg.IndexByteString", "internal/bytealg.IndexString", "internal/bytealg.abigen_runtime_cmpstring", "slices.overlaps[pannier/tree.Row]", "internal/abi.NoEscape", "internal/bytealg.MakeNoZero"], unfollowed := true, recurses := true, named := ["unicode/utf8.first", "unicode/utf8.acceptRanges", "internal/bytealg.MaxLen"], apart := false, laid := [("unicode/utf8.acceptRanges", laid_unicode_utf8_acceptRanges), ("unicode/utf8.first", laid_unicode_utf8_first)] }
def UsageNamesSaid : Prop := usageNamesRow.holds Tryd.pinned (OpenSpec.ofChange usageNamesSpec)

/-- ITS FALSE NEIGHBOUR: 'it returns false'. Refute it at one input. -/
def usageNamesWrong : ChangeSpec := { name := "usageNames", fn := fun _ => fun
  | [d1, d2, d3] => { results := [.lit (.bool false)], args := [d1, d2, d3] }
  | _ => none }
def UsageNamesWrongFalsely : Prop := usageNamesRow.holds Tryd.pinned (OpenSpec.ofChange usageNamesWrong)

/-- 'pannierlaw17.MergeOver': WHATEVER THE INPUT: true; the input reads as it did. -/
def mergeOverSpec : ChangeSpec := { name := "mergeOver", fn := fun _ => fun
  | [d1, d2] => { results := [.lit (.bool true)], args := [d1, d2] }
  | _ => none }
def mergeOverRow : OpenClaim := { program := "ytolpamojbiipaaadoor", sum := "88f345eb5bbf8c5ec1f5279357d90e802c375ec493753c771593608c33d3b7db", func := "pannier/pannierlaw17.MergeOver", spec := "mergeOver", inPlace := ["internal/bytealg.CountString", "internal/bytealg.IndexByteString", "internal/bytealg.IndexString", "internal/bytealg.abigen_runtime_cmpstring", "slices.overlaps[pannier/tree.Row]", "internal/abi.NoEscape", "internal/bytealg.MakeNoZero"], unfollowed := true, recurses := true, named := ["unicode/utf8.first", "unicode/utf8.acceptRanges", "internal/bytealg.MaxLen"], apart := false, laid := [("unicode/utf8.acceptRanges", laid_unicode_utf8_acceptRanges), ("unicode/utf8.first", laid_unicode_utf8_first)] }
def MergeOverSaid : Prop := mergeOverRow.holds Tryd.pinned (OpenSpec.ofChange mergeOverSpec)

/-- ITS FALSE NEIGHBOUR: 'it returns false'. Refute it at one input. -/
def mergeOverWrong : ChangeSpec := { name := "mergeOver", fn := fun _ => fun
  | [d1, d2] => { results := [.lit (.bool false)], args := [d1, d2] }
  | _ => none }
def MergeOverWrongFalsely : Prop := mergeOverRow.holds Tryd.pinned (OpenSpec.ofChange mergeOverWrong)

/-- 'pannierlaw17.MergeApart': WHATEVER THE INPUT: true; the input reads as it did. -/
def mergeApartSpec : ChangeSpec := { name := "mergeApart", fn := fun _ => fun
  | [d1, d2] => { results := [.lit (.bool true)], args := [d1, d2] }
  | _ => none }
def mergeApartRow : OpenClaim := { program := "ytolpamojbiipaaadoor", sum := "88f345eb5bbf8c5ec1f5279357d90e802c375ec493753c771593608c33d3b7db", func := "pannier/pannierlaw17.MergeApart", spec := "mergeApart", inPlace := ["internal/bytealg.CountString", "internal/bytealg.IndexByteString", "internal/bytealg.IndexString", "internal/bytealg.abigen_runtime_cmpstring", "slices.overlaps[pannier/tree.Row]", "internal/abi.NoEscape", "internal/bytealg.MakeNoZero"], unfollowed := true, recurses := true, named := ["unicode/utf8.first", "unicode/utf8.acceptRanges", "internal/bytealg.MaxLen"], apart := false, laid := [("unicode/utf8.acceptRanges", laid_unicode_utf8_acceptRanges), ("unicode/utf8.first", laid_unicode_utf8_first)] }
def MergeApartSaid : Prop := mergeApartRow.holds Tryd.pinned (OpenSpec.ofChange mergeApartSpec)

/-- ITS FALSE NEIGHBOUR: 'it returns false'. Refute it at one input. -/
def mergeApartWrong : ChangeSpec := { name := "mergeApart", fn := fun _ => fun
  | [d1, d2] => { results := [.lit (.bool false)], args := [d1, d2] }
  | _ => none }
def MergeApartWrongFalsely : Prop := mergeApartRow.holds Tryd.pinned (OpenSpec.ofChange mergeApartWrong)

/-- 'pannierlaw17.MergeKinds': WHATEVER THE INPUT: true; the input reads as it did. -/
def mergeKindsSpec : ChangeSpec := { name := "mergeKinds", fn := fun _ => fun
  | [d1, d2] => { results := [.lit (.bool true)], args := [d1, d2] }
  | _ => none }
def mergeKindsRow : OpenClaim := { program := "ytolpamojbiipaaadoor", sum := "88f345eb5bbf8c5ec1f5279357d90e802c375ec493753c771593608c33d3b7db", func := "pannier/pannierlaw17.MergeKinds", spec := "mergeKinds", inPlace := ["internal/bytealg.CountString", "internal/bytealg.IndexByteString", "internal/bytealg.IndexString", "internal/bytealg.abigen_runtime_cmpstring", "slices.overlaps[pannier/tree.Row]", "internal/abi.NoEscape", "internal/bytealg.MakeNoZero"], unfollowed := true, recurses := true, named := ["unicode/utf8.first", "unicode/utf8.acceptRanges", "internal/bytealg.MaxLen"], apart := false, laid := [("unicode/utf8.acceptRanges", laid_unicode_utf8_acceptRanges), ("unicode/utf8.first", laid_unicode_utf8_first)] }
def MergeKindsSaid : Prop := mergeKindsRow.holds Tryd.pinned (OpenSpec.ofChange mergeKindsSpec)

/-- ITS FALSE NEIGHBOUR: 'it returns false'. Refute it at one input. -/
def mergeKindsWrong : ChangeSpec := { name := "mergeKinds", fn := fun _ => fun
  | [d1, d2] => { results := [.lit (.bool false)], args := [d1, d2] }
  | _ => none }
def MergeKindsWrongFalsely : Prop := mergeKindsRow.holds Tryd.pinned (OpenSpec.ofChange mergeKindsWrong)

/-- 'pannierlaw17.MergeGone': WHATEVER THE INPUT: true; the input reads as it did. -/
def mergeGoneSpec : ChangeSpec := { name := "mergeGone", fn := fun _ => fun
  | [d1, d2] => { results := [.lit (.bool true)], args := [d1, d2] }
  | _ => none }
def mergeGoneRow : OpenClaim := { program := "ytolpamojbiipaaadoor", sum := "88f345eb5bbf8c5ec1f5279357d90e802c375ec493753c771593608c33d3b7db", func := "pannier/pannierlaw17.MergeGone", spec := "mergeGone", inPlace := ["internal/bytealg.CountString", "internal/bytealg.IndexByteString", "internal/bytealg.IndexString", "internal/bytealg.abigen_runtime_cmpstring", "slices.overlaps[pannier/tree.Row]", "internal/abi.NoEscape", "internal/bytealg.MakeNoZero"], unfollowed := true, recurses := true, named := ["unicode/utf8.first", "unicode/utf8.acceptRanges", "internal/bytealg.MaxLen"], apart := false, laid := [("unicode/utf8.acceptRanges", laid_unicode_utf8_acceptRanges), ("unicode/utf8.first", laid_unicode_utf8_first)] }
def MergeGoneSaid : Prop := mergeGoneRow.holds Tryd.pinned (OpenSpec.ofChange mergeGoneSpec)

/-- ITS FALSE NEIGHBOUR: 'it returns false'. Refute it at one input. -/
def mergeGoneWrong : ChangeSpec := { name := "mergeGone", fn := fun _ => fun
  | [d1, d2] => { results := [.lit (.bool false)], args := [d1, d2] }
  | _ => none }
def MergeGoneWrongFalsely : Prop := mergeGoneRow.holds Tryd.pinned (OpenSpec.ofChange mergeGoneWrong)

/-- 'pannierlaw14.UsageCuts': WHATEVER THE INPUT: true; the input reads as it did. -/
def usageCutsSpec : ChangeSpec := { name := "usageCuts", fn := fun _ => fun
  | [d1, d2, d3] => { results := [.lit (.bool true)], args := [d1, d2, d3] }
  | _ => none }
def usageCutsRow : OpenClaim := { program := "ytolpamojbiipaaadoor", sum := "88f345eb5bbf8c5ec1f5279357d90e802c375ec493753c771593608c33d3b7db", func := "pannier/pannierlaw14.UsageCuts", spec := "usageCuts", inPlace := ["internal/bytealg.CountString", "internal/bytealg.IndexByteString", "internal/bytealg.IndexString", "internal/bytealg.abigen_runtime_cmpstring", "slices.overlaps[pannier/tree.Row]", "internal/abi.NoEscape", "internal/bytealg.MakeNoZero"], unfollowed := true, recurses := true, named := ["unicode/utf8.first", "unicode/utf8.acceptRanges", "internal/bytealg.MaxLen"], apart := false, laid := [("unicode/utf8.acceptRanges", laid_unicode_utf8_acceptRanges), ("unicode/utf8.first", laid_unicode_utf8_first)] }
def UsageCutsSaid : Prop := usageCutsRow.holds Tryd.pinned (OpenSpec.ofChange usageCutsSpec)

/-- ITS FALSE NEIGHBOUR: 'it returns false'. Refute it at one input. -/
def usageCutsWrong : ChangeSpec := { name := "usageCuts", fn := fun _ => fun
  | [d1, d2, d3] => { results := [.lit (.bool false)], args := [d1, d2, d3] }
  | _ => none }
def UsageCutsWrongFalsely : Prop := usageCutsRow.holds Tryd.pinned (OpenSpec.ofChange usageCutsWrong)

/-- 'pannierlaw17.MergeTwice': WHATEVER THE INPUT: true; the input reads as it did. -/
def mergeTwiceSpec : ChangeSpec := { name := "mergeTwice", fn := fun _ => fun
  | [d1, d2] => { results := [.lit (.bool true)], args := [d1, d2] }
  | _ => none }
def mergeTwiceRow : OpenClaim := { program := "ytolpamojbiipaaadoor", sum := "88f345eb5bbf8c5ec1f5279357d90e802c375ec493753c771593608c33d3b7db", func := "pannier/pannierlaw17.MergeTwice", spec := "mergeTwice", inPlace := ["internal/bytealg.CountString", "internal/bytealg.IndexByteString", "internal/bytealg.IndexString", "internal/bytealg.abigen_runtime_cmpstring", "slices.overlaps[pannier/tree.Row]", "internal/abi.NoEscape", "internal/bytealg.MakeNoZero"], unfollowed := true, recurses := true, named := ["unicode/utf8.first", "unicode/utf8.acceptRanges", "internal/bytealg.MaxLen"], apart := false, laid := [("unicode/utf8.acceptRanges", laid_unicode_utf8_acceptRanges), ("unicode/utf8.first", laid_unicode_utf8_first)] }
def MergeTwiceSaid : Prop := mergeTwiceRow.holds Tryd.pinned (OpenSpec.ofChange mergeTwiceSpec)

/-- ITS FALSE NEIGHBOUR: 'it returns false'. Refute it at one input. -/
def mergeTwiceWrong : ChangeSpec := { name := "mergeTwice", fn := fun _ => fun
  | [d1, d2] => { results := [.lit (.bool false)], args := [d1, d2] }
  | _ => none }
def MergeTwiceWrongFalsely : Prop := mergeTwiceRow.holds Tryd.pinned (OpenSpec.ofChange mergeTwiceWrong)

/-- 'pannierlaw17.MergeFits': WHATEVER THE INPUT: true; the input reads as it did. -/
def mergeFitsSpec : ChangeSpec := { name := "mergeFits", fn := fun _ => fun
  | [d1, d2] => { results := [.lit (.bool true)], args := [d1, d2] }
  | _ => none }
def mergeFitsRow : OpenClaim := { program := "ytolpamojbiipaaadoor", sum := "88f345eb5bbf8c5ec1f5279357d90e802c375ec493753c771593608c33d3b7db", func := "pannier/pannierlaw17.MergeFits", spec := "mergeFits", inPlace := ["internal/bytealg.CountString", "internal/bytealg.IndexByteString", "internal/bytealg.IndexString", "internal/bytealg.abigen_runtime_cmpstring", "slices.overlaps[pannier/tree.Row]", "internal/abi.NoEscape", "internal/bytealg.MakeNoZero"], unfollowed := true, recurses := true, named := ["unicode/utf8.first", "unicode/utf8.acceptRanges", "internal/bytealg.MaxLen"], apart := false, laid := [("unicode/utf8.acceptRanges", laid_unicode_utf8_acceptRanges), ("unicode/utf8.first", laid_unicode_utf8_first)] }
def MergeFitsSaid : Prop := mergeFitsRow.holds Tryd.pinned (OpenSpec.ofChange mergeFitsSpec)

/-- ITS FALSE NEIGHBOUR: 'it returns false'. Refute it at one input. -/
def mergeFitsWrong : ChangeSpec := { name := "mergeFits", fn := fun _ => fun
  | [d1, d2] => { results := [.lit (.bool false)], args := [d1, d2] }
  | _ => none }
def MergeFitsWrongFalsely : Prop := mergeFitsRow.holds Tryd.pinned (OpenSpec.ofChange mergeFitsWrong)

/-- 'panniertop.WholeTree': WHATEVER THE INPUT: true; the input reads as it did. -/
def wholeTreeSpec : ChangeSpec := { name := "wholeTree", fn := fun _ => fun
  | [d1, d2] => { results := [.lit (.bool true)], args := [d1, d2] }
  | _ => none }
def wholeTreeRow : OpenClaim := { program := "ytolpamojbiipaaadoor", sum := "88f345eb5bbf8c5ec1f5279357d90e802c375ec493753c771593608c33d3b7db", func := "pannier/panniertop.WholeTree", spec := "wholeTree", inPlace := ["internal/bytealg.CountString", "internal/bytealg.IndexByteString", "internal/bytealg.IndexString", "internal/bytealg.abigen_runtime_cmpstring", "slices.overlaps[pannier/tree.Row]", "internal/abi.NoEscape", "internal/bytealg.MakeNoZero"], unfollowed := true, recurses := true, named := ["unicode/utf8.first", "unicode/utf8.acceptRanges", "internal/bytealg.MaxLen"], apart := false, laid := [("unicode/utf8.acceptRanges", laid_unicode_utf8_acceptRanges), ("unicode/utf8.first", laid_unicode_utf8_first)] }
def WholeTreeSaid : Prop := wholeTreeRow.holds Tryd.pinned (OpenSpec.ofChange wholeTreeSpec)

/-- ITS FALSE NEIGHBOUR: 'it returns false'. Refute it at one input. -/
def wholeTreeWrong : ChangeSpec := { name := "wholeTree", fn := fun _ => fun
  | [d1, d2] => { results := [.lit (.bool false)], args := [d1, d2] }
  | _ => none }
def WholeTreeWrongFalsely : Prop := wholeTreeRow.holds Tryd.pinned (OpenSpec.ofChange wholeTreeWrong)

/- THE SECOND FORM. 'bulk': how many values and letters a reading holds, each counted each time it is reached (what is shared counts as often as it is met; a slice's spare places count too). A statement '..UptoSaid' is the law's where the arguments, and the package variables that the reading takes, are together of bulk at most 1048576: NARROWER than '..Said'. Prove '..Said' where nothing that the law and all that it calls make is longer than what came in: it says more and counts as full. Else prove '..UptoSaid'. A law counts once. -/
mutual
def uptoBulk {H : Type} : DataW H → Nat
  | .lit (.string bytes) => bytes.length + 1
  | .lit _ => 1
  | .nil => 1
  | .ptr d => uptoBulk d + 1
  | .slice elems spare => uptoBulkAll elems + uptoBulkAll spare + 1
  | .agg parts => uptoBulkAll parts + 1
  | .iface _ d => uptoBulk d + 1
  | .map entries => uptoBulkEntries entries + 1
  | .held _ => 1
def uptoBulkAll {H : Type} : List (DataW H) → Nat
  | [] => 0
  | d :: r => uptoBulk d + uptoBulkAll r
def uptoBulkEntries {H : Type} : List (Lit × DataW H) → Nat
  | [] => 0
  | x :: r => uptoBulkEntry x + uptoBulkEntries r
def uptoBulkEntry {H : Type} : Lit × DataW H → Nat
  | (.string bytes, d) => bytes.length + uptoBulk d + 1
  | (_, d) => uptoBulk d + 1
 end
def uptoSmall : (H : Type) → List (DataW H) → Bool := fun _ ds => decide (uptoBulkAll ds ≤ 1048576)
def OpenSpec.upto (s : _root_.Go.ChangeSpec) : _root_.Go.OpenSpec := { _root_.Go.OpenSpec.ofChange s with cond := some uptoSmall }

/-- 'pannierlaw14.UsageAdds', WHERE WHAT IT READS IS OF BULK AT MOST 1048576: true; the input reads as it did. -/
def usageAddsUptoRow : OpenClaim := { program := "ytolpamojbiipaaadoor", sum := "88f345eb5bbf8c5ec1f5279357d90e802c375ec493753c771593608c33d3b7db", func := "pannier/pannierlaw14.UsageAdds", spec := "usageAdds", inPlace := ["internal/bytealg.CountString", "internal/bytealg.IndexByteString", "internal/bytealg.IndexString", "internal/bytealg.abigen_runtime_cmpstring", "slices.overlaps[pannier/tree.Row]"], unfollowed := true, recurses := true, named := ["unicode/utf8.first", "unicode/utf8.acceptRanges", "internal/bytealg.MaxLen"], apart := false, laid := [("unicode/utf8.acceptRanges", laid_unicode_utf8_acceptRanges), ("unicode/utf8.first", laid_unicode_utf8_first)], narrowed := true }
def UsageAddsUptoSaid : Prop := usageAddsUptoRow.holds Tryd.pinned (OpenSpec.upto usageAddsSpec)

/-- 'pannierlaw14.UsageFits', WHERE WHAT IT READS IS OF BULK AT MOST 1048576: true; the input reads as it did. -/
def usageFitsUptoRow : OpenClaim := { program := "ytolpamojbiipaaadoor", sum := "88f345eb5bbf8c5ec1f5279357d90e802c375ec493753c771593608c33d3b7db", func := "pannier/pannierlaw14.UsageFits", spec := "usageFits", inPlace := ["internal/bytealg.CountString", "internal/bytealg.IndexByteString", "internal/bytealg.IndexString", "internal/bytealg.abigen_runtime_cmpstring", "slices.overlaps[pannier/tree.Row]"], unfollowed := true, recurses := true, named := ["unicode/utf8.first", "unicode/utf8.acceptRanges", "internal/bytealg.MaxLen"], apart := false, laid := [("unicode/utf8.acceptRanges", laid_unicode_utf8_acceptRanges), ("unicode/utf8.first", laid_unicode_utf8_first)], narrowed := true }
def UsageFitsUptoSaid : Prop := usageFitsUptoRow.holds Tryd.pinned (OpenSpec.upto usageFitsSpec)

/-- 'pannierlaw14.UsageOf', WHERE WHAT IT READS IS OF BULK AT MOST 1048576: true; the input reads as it did. -/
def usageOfUptoRow : OpenClaim := { program := "ytolpamojbiipaaadoor", sum := "88f345eb5bbf8c5ec1f5279357d90e802c375ec493753c771593608c33d3b7db", func := "pannier/pannierlaw14.UsageOf", spec := "usageOf", inPlace := ["internal/bytealg.CountString", "internal/bytealg.IndexByteString", "internal/bytealg.IndexString", "internal/bytealg.abigen_runtime_cmpstring", "slices.overlaps[pannier/tree.Row]", "internal/abi.NoEscape", "internal/bytealg.MakeNoZero"], unfollowed := true, recurses := true, named := ["unicode/utf8.first", "unicode/utf8.acceptRanges", "internal/bytealg.MaxLen"], apart := false, laid := [("unicode/utf8.acceptRanges", laid_unicode_utf8_acceptRanges), ("unicode/utf8.first", laid_unicode_utf8_first)], narrowed := true }
def UsageOfUptoSaid : Prop := usageOfUptoRow.holds Tryd.pinned (OpenSpec.upto usageOfSpec)

/-- 'pannierlaw14.UsageGrows', WHERE WHAT IT READS IS OF BULK AT MOST 1048576: true; the input reads as it did. -/
def usageGrowsUptoRow : OpenClaim := { program := "ytolpamojbiipaaadoor", sum := "88f345eb5bbf8c5ec1f5279357d90e802c375ec493753c771593608c33d3b7db", func := "pannier/pannierlaw14.UsageGrows", spec := "usageGrows", inPlace := ["internal/bytealg.CountString", "internal/bytealg.IndexByteString", "internal/bytealg.IndexString", "internal/bytealg.abigen_runtime_cmpstring", "slices.overlaps[pannier/tree.Row]", "internal/abi.NoEscape", "internal/bytealg.MakeNoZero"], unfollowed := true, recurses := true, named := ["unicode/utf8.first", "unicode/utf8.acceptRanges", "internal/bytealg.MaxLen"], apart := false, laid := [("unicode/utf8.acceptRanges", laid_unicode_utf8_acceptRanges), ("unicode/utf8.first", laid_unicode_utf8_first)], narrowed := true }
def UsageGrowsUptoSaid : Prop := usageGrowsUptoRow.holds Tryd.pinned (OpenSpec.upto usageGrowsSpec)

/-- 'pannierlaw14.UsageNames', WHERE WHAT IT READS IS OF BULK AT MOST 1048576: true; the input reads as it did. -/
def usageNamesUptoRow : OpenClaim := { program := "ytolpamojbiipaaadoor", sum := "88f345eb5bbf8c5ec1f5279357d90e802c375ec493753c771593608c33d3b7db", func := "pannier/pannierlaw14.UsageNames", spec := "usageNames", inPlace := ["internal/bytealg.CountString", "internal/bytealg.IndexByteString", "internal/bytealg.IndexString", "internal/bytealg.abigen_runtime_cmpstring", "slices.overlaps[pannier/tree.Row]", "internal/abi.NoEscape", "internal/bytealg.MakeNoZero"], unfollowed := true, recurses := true, named := ["unicode/utf8.first", "unicode/utf8.acceptRanges", "internal/bytealg.MaxLen"], apart := false, laid := [("unicode/utf8.acceptRanges", laid_unicode_utf8_acceptRanges), ("unicode/utf8.first", laid_unicode_utf8_first)], narrowed := true }
def UsageNamesUptoSaid : Prop := usageNamesUptoRow.holds Tryd.pinned (OpenSpec.upto usageNamesSpec)

/-- 'pannierlaw17.MergeOver', WHERE WHAT IT READS IS OF BULK AT MOST 1048576: true; the input reads as it did. -/
def mergeOverUptoRow : OpenClaim := { program := "ytolpamojbiipaaadoor", sum := "88f345eb5bbf8c5ec1f5279357d90e802c375ec493753c771593608c33d3b7db", func := "pannier/pannierlaw17.MergeOver", spec := "mergeOver", inPlace := ["internal/bytealg.CountString", "internal/bytealg.IndexByteString", "internal/bytealg.IndexString", "internal/bytealg.abigen_runtime_cmpstring", "slices.overlaps[pannier/tree.Row]", "internal/abi.NoEscape", "internal/bytealg.MakeNoZero"], unfollowed := true, recurses := true, named := ["unicode/utf8.first", "unicode/utf8.acceptRanges", "internal/bytealg.MaxLen"], apart := false, laid := [("unicode/utf8.acceptRanges", laid_unicode_utf8_acceptRanges), ("unicode/utf8.first", laid_unicode_utf8_first)], narrowed := true }
def MergeOverUptoSaid : Prop := mergeOverUptoRow.holds Tryd.pinned (OpenSpec.upto mergeOverSpec)

/-- 'pannierlaw17.MergeApart', WHERE WHAT IT READS IS OF BULK AT MOST 1048576: true; the input reads as it did. -/
def mergeApartUptoRow : OpenClaim := { program := "ytolpamojbiipaaadoor", sum := "88f345eb5bbf8c5ec1f5279357d90e802c375ec493753c771593608c33d3b7db", func := "pannier/pannierlaw17.MergeApart", spec := "mergeApart", inPlace := ["internal/bytealg.CountString", "internal/bytealg.IndexByteString", "internal/bytealg.IndexString", "internal/bytealg.abigen_runtime_cmpstring", "slices.overlaps[pannier/tree.Row]", "internal/abi.NoEscape", "internal/bytealg.MakeNoZero"], unfollowed := true, recurses := true, named := ["unicode/utf8.first", "unicode/utf8.acceptRanges", "internal/bytealg.MaxLen"], apart := false, laid := [("unicode/utf8.acceptRanges", laid_unicode_utf8_acceptRanges), ("unicode/utf8.first", laid_unicode_utf8_first)], narrowed := true }
def MergeApartUptoSaid : Prop := mergeApartUptoRow.holds Tryd.pinned (OpenSpec.upto mergeApartSpec)

/-- 'pannierlaw17.MergeKinds', WHERE WHAT IT READS IS OF BULK AT MOST 1048576: true; the input reads as it did. -/
def mergeKindsUptoRow : OpenClaim := { program := "ytolpamojbiipaaadoor", sum := "88f345eb5bbf8c5ec1f5279357d90e802c375ec493753c771593608c33d3b7db", func := "pannier/pannierlaw17.MergeKinds", spec := "mergeKinds", inPlace := ["internal/bytealg.CountString", "internal/bytealg.IndexByteString", "internal/bytealg.IndexString", "internal/bytealg.abigen_runtime_cmpstring", "slices.overlaps[pannier/tree.Row]", "internal/abi.NoEscape", "internal/bytealg.MakeNoZero"], unfollowed := true, recurses := true, named := ["unicode/utf8.first", "unicode/utf8.acceptRanges", "internal/bytealg.MaxLen"], apart := false, laid := [("unicode/utf8.acceptRanges", laid_unicode_utf8_acceptRanges), ("unicode/utf8.first", laid_unicode_utf8_first)], narrowed := true }
def MergeKindsUptoSaid : Prop := mergeKindsUptoRow.holds Tryd.pinned (OpenSpec.upto mergeKindsSpec)

/-- 'pannierlaw17.MergeGone', WHERE WHAT IT READS IS OF BULK AT MOST 1048576: true; the input reads as it did. -/
def mergeGoneUptoRow : OpenClaim := { program := "ytolpamojbiipaaadoor", sum := "88f345eb5bbf8c5ec1f5279357d90e802c375ec493753c771593608c33d3b7db", func := "pannier/pannierlaw17.MergeGone", spec := "mergeGone", inPlace := ["internal/bytealg.CountString", "internal/bytealg.IndexByteString", "internal/bytealg.IndexString", "internal/bytealg.abigen_runtime_cmpstring", "slices.overlaps[pannier/tree.Row]", "internal/abi.NoEscape", "internal/bytealg.MakeNoZero"], unfollowed := true, recurses := true, named := ["unicode/utf8.first", "unicode/utf8.acceptRanges", "internal/bytealg.MaxLen"], apart := false, laid := [("unicode/utf8.acceptRanges", laid_unicode_utf8_acceptRanges), ("unicode/utf8.first", laid_unicode_utf8_first)], narrowed := true }
def MergeGoneUptoSaid : Prop := mergeGoneUptoRow.holds Tryd.pinned (OpenSpec.upto mergeGoneSpec)

/-- 'pannierlaw14.UsageCuts', WHERE WHAT IT READS IS OF BULK AT MOST 1048576: true; the input reads as it did. -/
def usageCutsUptoRow : OpenClaim := { program := "ytolpamojbiipaaadoor", sum := "88f345eb5bbf8c5ec1f5279357d90e802c375ec493753c771593608c33d3b7db", func := "pannier/pannierlaw14.UsageCuts", spec := "usageCuts", inPlace := ["internal/bytealg.CountString", "internal/bytealg.IndexByteString", "internal/bytealg.IndexString", "internal/bytealg.abigen_runtime_cmpstring", "slices.overlaps[pannier/tree.Row]", "internal/abi.NoEscape", "internal/bytealg.MakeNoZero"], unfollowed := true, recurses := true, named := ["unicode/utf8.first", "unicode/utf8.acceptRanges", "internal/bytealg.MaxLen"], apart := false, laid := [("unicode/utf8.acceptRanges", laid_unicode_utf8_acceptRanges), ("unicode/utf8.first", laid_unicode_utf8_first)], narrowed := true }
def UsageCutsUptoSaid : Prop := usageCutsUptoRow.holds Tryd.pinned (OpenSpec.upto usageCutsSpec)

/-- 'pannierlaw17.MergeTwice', WHERE WHAT IT READS IS OF BULK AT MOST 1048576: true; the input reads as it did. -/
def mergeTwiceUptoRow : OpenClaim := { program := "ytolpamojbiipaaadoor", sum := "88f345eb5bbf8c5ec1f5279357d90e802c375ec493753c771593608c33d3b7db", func := "pannier/pannierlaw17.MergeTwice", spec := "mergeTwice", inPlace := ["internal/bytealg.CountString", "internal/bytealg.IndexByteString", "internal/bytealg.IndexString", "internal/bytealg.abigen_runtime_cmpstring", "slices.overlaps[pannier/tree.Row]", "internal/abi.NoEscape", "internal/bytealg.MakeNoZero"], unfollowed := true, recurses := true, named := ["unicode/utf8.first", "unicode/utf8.acceptRanges", "internal/bytealg.MaxLen"], apart := false, laid := [("unicode/utf8.acceptRanges", laid_unicode_utf8_acceptRanges), ("unicode/utf8.first", laid_unicode_utf8_first)], narrowed := true }
def MergeTwiceUptoSaid : Prop := mergeTwiceUptoRow.holds Tryd.pinned (OpenSpec.upto mergeTwiceSpec)

/-- 'pannierlaw17.MergeFits', WHERE WHAT IT READS IS OF BULK AT MOST 1048576: true; the input reads as it did. -/
def mergeFitsUptoRow : OpenClaim := { program := "ytolpamojbiipaaadoor", sum := "88f345eb5bbf8c5ec1f5279357d90e802c375ec493753c771593608c33d3b7db", func := "pannier/pannierlaw17.MergeFits", spec := "mergeFits", inPlace := ["internal/bytealg.CountString", "internal/bytealg.IndexByteString", "internal/bytealg.IndexString", "internal/bytealg.abigen_runtime_cmpstring", "slices.overlaps[pannier/tree.Row]", "internal/abi.NoEscape", "internal/bytealg.MakeNoZero"], unfollowed := true, recurses := true, named := ["unicode/utf8.first", "unicode/utf8.acceptRanges", "internal/bytealg.MaxLen"], apart := false, laid := [("unicode/utf8.acceptRanges", laid_unicode_utf8_acceptRanges), ("unicode/utf8.first", laid_unicode_utf8_first)], narrowed := true }
def MergeFitsUptoSaid : Prop := mergeFitsUptoRow.holds Tryd.pinned (OpenSpec.upto mergeFitsSpec)

/-- 'panniertop.WholeTree', WHERE WHAT IT READS IS OF BULK AT MOST 1048576: true; the input reads as it did. -/
def wholeTreeUptoRow : OpenClaim := { program := "ytolpamojbiipaaadoor", sum := "88f345eb5bbf8c5ec1f5279357d90e802c375ec493753c771593608c33d3b7db", func := "pannier/panniertop.WholeTree", spec := "wholeTree", inPlace := ["internal/bytealg.CountString", "internal/bytealg.IndexByteString", "internal/bytealg.IndexString", "internal/bytealg.abigen_runtime_cmpstring", "slices.overlaps[pannier/tree.Row]", "internal/abi.NoEscape", "internal/bytealg.MakeNoZero"], unfollowed := true, recurses := true, named := ["unicode/utf8.first", "unicode/utf8.acceptRanges", "internal/bytealg.MaxLen"], apart := false, laid := [("unicode/utf8.acceptRanges", laid_unicode_utf8_acceptRanges), ("unicode/utf8.first", laid_unicode_utf8_first)], narrowed := true }
def WholeTreeUptoSaid : Prop := wholeTreeUptoRow.holds Tryd.pinned (OpenSpec.upto wholeTreeSpec)

end Rows
end Go.Proofs.YtolpamojbiipaaaDoor
