/-
  No cell of these rows narrows 'for every input' (looked for: loops, veiled, ifaces, maps, wideKeys, modest, calm, conditions, laid).
  DERIVED. THE GIVEN ROWS OF THIS SEAT. 12 by the template 'for every input the law returns true; each argument reads behind the call as it read before'; 0 by the template 'total and deterministic' (their statements: YteeofjlohaeinaaTotals.lean).
  GIVEN WITH THE SEED: the statements are not yours to turn. If you find one false, say at which input.
  Laid BY PROGRAM, IN A SANDBOX (cutbox-rows.mjs): the forced cells as the released guide's own fill.sh prints them over the translation 9c543fe47ed6b7ed… (all of the seat's roots in one cut). By AI agents, Wed Nov 11 2026. No macro, syntax, notation, axiom, sorry.
-/
import Derived.Test.YteeofjlohaeinaaChecked
import GoSem.Claim
import GoSem.ClaimJoined
import GoSem.ClaimMapViews
import Derived.JoinedTies
import Derived.KernelRfl
namespace Go.Proofs.Yteeofjlohaeinaa
/- THE CELL 'sum', in the pinned program and in every row, IS THE sha256 OF THE DUMP (.gsa) THAT YteeofjlohaeinaaProg.lean LOADS. Nothing in Lean hashes anything: it is a label: what it is worth is what the hold of that sum in a sandbox is worth. -/
noncomputable def Try.pinned : Pinned := { name := "yteeofjlohaeinaa", sum := "9c543fe47ed6b7ed6318fe28058ccc535fab82300caf77a8bfc8bae1e1019c05", checked := Try.checked }
namespace Rows
def none {H : Type} : Left H := { results := [], args := [] }

/-- 'pannierlaw02.OctalParses': WHATEVER THE INPUT: true; the input reads as it did. -/
def octalParsesSpec : ChangeSpec := { name := "octalParses", fn := fun _ => fun
  | [d] => { results := [.lit (.bool true)], args := [d] }
  | _ => none }
def octalParsesRow : OpenClaim := { program := "yteeofjlohaeinaa", sum := "9c543fe47ed6b7ed6318fe28058ccc535fab82300caf77a8bfc8bae1e1019c05", func := "pannier/pannierlaw02.OctalParses", spec := "octalParses", apart := false }
def OctalParsesSaid : Prop := octalParsesRow.holds Try.pinned (OpenSpec.ofChange octalParsesSpec)

/-- ITS FALSE NEIGHBOUR: 'it returns false'. Refute it at one input. -/
def octalParsesWrong : ChangeSpec := { name := "octalParses", fn := fun _ => fun
  | [d] => { results := [.lit (.bool false)], args := [d] }
  | _ => none }
def OctalParsesWrongFalsely : Prop := octalParsesRow.holds Try.pinned (OpenSpec.ofChange octalParsesWrong)

/-- 'pannierlaw02.OctalFormats': WHATEVER THE INPUT: true; the input reads as it did. -/
def octalFormatsSpec : ChangeSpec := { name := "octalFormats", fn := fun _ => fun
  | [d1, d2] => { results := [.lit (.bool true)], args := [d1, d2] }
  | _ => none }
def octalFormatsRow : OpenClaim := { program := "yteeofjlohaeinaa", sum := "9c543fe47ed6b7ed6318fe28058ccc535fab82300caf77a8bfc8bae1e1019c05", func := "pannier/pannierlaw02.OctalFormats", spec := "octalFormats", apart := false }
def OctalFormatsSaid : Prop := octalFormatsRow.holds Try.pinned (OpenSpec.ofChange octalFormatsSpec)

/-- ITS FALSE NEIGHBOUR: 'it returns false'. Refute it at one input. -/
def octalFormatsWrong : ChangeSpec := { name := "octalFormats", fn := fun _ => fun
  | [d1, d2] => { results := [.lit (.bool false)], args := [d1, d2] }
  | _ => none }
def OctalFormatsWrongFalsely : Prop := octalFormatsRow.holds Try.pinned (OpenSpec.ofChange octalFormatsWrong)

/-- 'pannierlaw02.OctalBinary': WHATEVER THE INPUT: true; the input reads as it did. -/
def octalBinarySpec : ChangeSpec := { name := "octalBinary", fn := fun _ => fun
  | [d1, d2] => { results := [.lit (.bool true)], args := [d1, d2] }
  | _ => none }
def octalBinaryRow : OpenClaim := { program := "yteeofjlohaeinaa", sum := "9c543fe47ed6b7ed6318fe28058ccc535fab82300caf77a8bfc8bae1e1019c05", func := "pannier/pannierlaw02.OctalBinary", spec := "octalBinary", apart := false }
def OctalBinarySaid : Prop := octalBinaryRow.holds Try.pinned (OpenSpec.ofChange octalBinarySpec)

/-- ITS FALSE NEIGHBOUR: 'it returns false'. Refute it at one input. -/
def octalBinaryWrong : ChangeSpec := { name := "octalBinary", fn := fun _ => fun
  | [d1, d2] => { results := [.lit (.bool false)], args := [d1, d2] }
  | _ => none }
def OctalBinaryWrongFalsely : Prop := octalBinaryRow.holds Try.pinned (OpenSpec.ofChange octalBinaryWrong)

/-- 'pannierlaw02.OctalBlank': WHATEVER THE INPUT: true; the input reads as it did. -/
def octalBlankSpec : ChangeSpec := { name := "octalBlank", fn := fun _ => fun
  | [d1, d2, d3] => { results := [.lit (.bool true)], args := [d1, d2, d3] }
  | _ => none }
def octalBlankRow : OpenClaim := { program := "yteeofjlohaeinaa", sum := "9c543fe47ed6b7ed6318fe28058ccc535fab82300caf77a8bfc8bae1e1019c05", func := "pannier/pannierlaw02.OctalBlank", spec := "octalBlank", apart := false }
def OctalBlankSaid : Prop := octalBlankRow.holds Try.pinned (OpenSpec.ofChange octalBlankSpec)

/-- ITS FALSE NEIGHBOUR: 'it returns false'. Refute it at one input. -/
def octalBlankWrong : ChangeSpec := { name := "octalBlank", fn := fun _ => fun
  | [d1, d2, d3] => { results := [.lit (.bool false)], args := [d1, d2, d3] }
  | _ => none }
def OctalBlankWrongFalsely : Prop := octalBlankRow.holds Try.pinned (OpenSpec.ofChange octalBlankWrong)

/-- 'pannierlaw02.OctalWidth': WHATEVER THE INPUT: true; the input reads as it did. -/
def octalWidthSpec : ChangeSpec := { name := "octalWidth", fn := fun _ => fun
  | [d1, d2] => { results := [.lit (.bool true)], args := [d1, d2] }
  | _ => none }
def octalWidthRow : OpenClaim := { program := "yteeofjlohaeinaa", sum := "9c543fe47ed6b7ed6318fe28058ccc535fab82300caf77a8bfc8bae1e1019c05", func := "pannier/pannierlaw02.OctalWidth", spec := "octalWidth", apart := false }
def OctalWidthSaid : Prop := octalWidthRow.holds Try.pinned (OpenSpec.ofChange octalWidthSpec)

/-- ITS FALSE NEIGHBOUR: 'it returns false'. Refute it at one input. -/
def octalWidthWrong : ChangeSpec := { name := "octalWidth", fn := fun _ => fun
  | [d1, d2] => { results := [.lit (.bool false)], args := [d1, d2] }
  | _ => none }
def OctalWidthWrongFalsely : Prop := octalWidthRow.holds Try.pinned (OpenSpec.ofChange octalWidthWrong)

/-- 'pannierlaw02.OctalOrder': WHATEVER THE INPUT: true; the input reads as it did. -/
def octalOrderSpec : ChangeSpec := { name := "octalOrder", fn := fun _ => fun
  | [d1, d2] => { results := [.lit (.bool true)], args := [d1, d2] }
  | _ => none }
def octalOrderRow : OpenClaim := { program := "yteeofjlohaeinaa", sum := "9c543fe47ed6b7ed6318fe28058ccc535fab82300caf77a8bfc8bae1e1019c05", func := "pannier/pannierlaw02.OctalOrder", spec := "octalOrder", apart := false }
def OctalOrderSaid : Prop := octalOrderRow.holds Try.pinned (OpenSpec.ofChange octalOrderSpec)

/-- ITS FALSE NEIGHBOUR: 'it returns false'. Refute it at one input. -/
def octalOrderWrong : ChangeSpec := { name := "octalOrder", fn := fun _ => fun
  | [d1, d2] => { results := [.lit (.bool false)], args := [d1, d2] }
  | _ => none }
def OctalOrderWrongFalsely : Prop := octalOrderRow.holds Try.pinned (OpenSpec.ofChange octalOrderWrong)

/-- 'pannierlaw05.SumOf': WHATEVER THE INPUT: true; the input reads as it did. -/
def sumOfSpec : ChangeSpec := { name := "sumOf", fn := fun _ => fun
  | [d] => { results := [.lit (.bool true)], args := [d] }
  | _ => none }
def sumOfRow : OpenClaim := { program := "yteeofjlohaeinaa", sum := "9c543fe47ed6b7ed6318fe28058ccc535fab82300caf77a8bfc8bae1e1019c05", func := "pannier/pannierlaw05.SumOf", spec := "sumOf", unfollowed := true, recurses := true, apart := false }
def SumOfSaid : Prop := sumOfRow.holds Try.pinned (OpenSpec.ofChange sumOfSpec)

/-- ITS FALSE NEIGHBOUR: 'it returns false'. Refute it at one input. -/
def sumOfWrong : ChangeSpec := { name := "sumOf", fn := fun _ => fun
  | [d] => { results := [.lit (.bool false)], args := [d] }
  | _ => none }
def SumOfWrongFalsely : Prop := sumOfRow.holds Try.pinned (OpenSpec.ofChange sumOfWrong)

/-- 'pannierlaw05.SumSeals': WHATEVER THE INPUT: true; the input reads as it did. -/
def sumSealsSpec : ChangeSpec := { name := "sumSeals", fn := fun _ => fun
  | [d1, d2, d3] => { results := [.lit (.bool true)], args := [d1, d2, d3] }
  | _ => none }
def sumSealsRow : OpenClaim := { program := "yteeofjlohaeinaa", sum := "9c543fe47ed6b7ed6318fe28058ccc535fab82300caf77a8bfc8bae1e1019c05", func := "pannier/pannierlaw05.SumSeals", spec := "sumSeals", unfollowed := true, recurses := true, apart := false }
def SumSealsSaid : Prop := sumSealsRow.holds Try.pinned (OpenSpec.ofChange sumSealsSpec)

/-- ITS FALSE NEIGHBOUR: 'it returns false'. Refute it at one input. -/
def sumSealsWrong : ChangeSpec := { name := "sumSeals", fn := fun _ => fun
  | [d1, d2, d3] => { results := [.lit (.bool false)], args := [d1, d2, d3] }
  | _ => none }
def SumSealsWrongFalsely : Prop := sumSealsRow.holds Try.pinned (OpenSpec.ofChange sumSealsWrong)

/-- 'pannierlaw05.SumOld': WHATEVER THE INPUT: true; the input reads as it did. -/
def sumOldSpec : ChangeSpec := { name := "sumOld", fn := fun _ => fun
  | [d] => { results := [.lit (.bool true)], args := [d] }
  | _ => none }
def sumOldRow : OpenClaim := { program := "yteeofjlohaeinaa", sum := "9c543fe47ed6b7ed6318fe28058ccc535fab82300caf77a8bfc8bae1e1019c05", func := "pannier/pannierlaw05.SumOld", spec := "sumOld", unfollowed := true, recurses := true, apart := false }
def SumOldSaid : Prop := sumOldRow.holds Try.pinned (OpenSpec.ofChange sumOldSpec)

/-- ITS FALSE NEIGHBOUR: 'it returns false'. Refute it at one input. -/
def sumOldWrong : ChangeSpec := { name := "sumOld", fn := fun _ => fun
  | [d] => { results := [.lit (.bool false)], args := [d] }
  | _ => none }
def SumOldWrongFalsely : Prop := sumOldRow.holds Try.pinned (OpenSpec.ofChange sumOldWrong)

/-- 'pannierlaw05.SumAdds': WHATEVER THE INPUT: true; the input reads as it did. -/
def sumAddsSpec : ChangeSpec := { name := "sumAdds", fn := fun _ => fun
  | [d1, d2, d3] => { results := [.lit (.bool true)], args := [d1, d2, d3] }
  | _ => none }
def sumAddsRow : OpenClaim := { program := "yteeofjlohaeinaa", sum := "9c543fe47ed6b7ed6318fe28058ccc535fab82300caf77a8bfc8bae1e1019c05", func := "pannier/pannierlaw05.SumAdds", spec := "sumAdds", unfollowed := true, recurses := true, apart := false }
def SumAddsSaid : Prop := sumAddsRow.holds Try.pinned (OpenSpec.ofChange sumAddsSpec)

/-- ITS FALSE NEIGHBOUR: 'it returns false'. Refute it at one input. -/
def sumAddsWrong : ChangeSpec := { name := "sumAdds", fn := fun _ => fun
  | [d1, d2, d3] => { results := [.lit (.bool false)], args := [d1, d2, d3] }
  | _ => none }
def SumAddsWrongFalsely : Prop := sumAddsRow.holds Try.pinned (OpenSpec.ofChange sumAddsWrong)

/-- 'pannierlaw05.SumField': WHATEVER THE INPUT: true; the input reads as it did. -/
def sumFieldSpec : ChangeSpec := { name := "sumField", fn := fun _ => fun
  | [d1, d2, d3] => { results := [.lit (.bool true)], args := [d1, d2, d3] }
  | _ => none }
def sumFieldRow : OpenClaim := { program := "yteeofjlohaeinaa", sum := "9c543fe47ed6b7ed6318fe28058ccc535fab82300caf77a8bfc8bae1e1019c05", func := "pannier/pannierlaw05.SumField", spec := "sumField", unfollowed := true, recurses := true, apart := false }
def SumFieldSaid : Prop := sumFieldRow.holds Try.pinned (OpenSpec.ofChange sumFieldSpec)

/-- ITS FALSE NEIGHBOUR: 'it returns false'. Refute it at one input. -/
def sumFieldWrong : ChangeSpec := { name := "sumField", fn := fun _ => fun
  | [d1, d2, d3] => { results := [.lit (.bool false)], args := [d1, d2, d3] }
  | _ => none }
def SumFieldWrongFalsely : Prop := sumFieldRow.holds Try.pinned (OpenSpec.ofChange sumFieldWrong)

/-- 'pannierlaw05.SumOwn': WHATEVER THE INPUT: true; the input reads as it did. -/
def sumOwnSpec : ChangeSpec := { name := "sumOwn", fn := fun _ => fun
  | [d] => { results := [.lit (.bool true)], args := [d] }
  | _ => none }
def sumOwnRow : OpenClaim := { program := "yteeofjlohaeinaa", sum := "9c543fe47ed6b7ed6318fe28058ccc535fab82300caf77a8bfc8bae1e1019c05", func := "pannier/pannierlaw05.SumOwn", spec := "sumOwn", unfollowed := true, recurses := true, apart := false }
def SumOwnSaid : Prop := sumOwnRow.holds Try.pinned (OpenSpec.ofChange sumOwnSpec)

/-- ITS FALSE NEIGHBOUR: 'it returns false'. Refute it at one input. -/
def sumOwnWrong : ChangeSpec := { name := "sumOwn", fn := fun _ => fun
  | [d] => { results := [.lit (.bool false)], args := [d] }
  | _ => none }
def SumOwnWrongFalsely : Prop := sumOwnRow.holds Try.pinned (OpenSpec.ofChange sumOwnWrong)

/- THE SECOND FORM. 'bulk': how many values and letters a reading holds, each counted each time it is reached (what is shared counts as often as it is met; a slice's spare places count too). A statement '..UptoSaid' is the law's where the arguments, and the package variables that the reading takes, are together of bulk at most 1048576: NARROWER than '..Said'. Prove '..Said' where nothing that the law and all that it calls make is longer than what came in: it says more and counts as full. Else prove '..UptoSaid'. A law counts once. -/
mutual
def uptoBulk {H : Type} : DataW H → Nat
  | .lit (.string bytes) => bytes.length + 1
  | .lit _ => 1
  | .nil => 1
  | .ptr d => uptoBulk d + 1
  | .slice elems spare => uptoBulkAll elems + uptoBulkAll spare + 1
  | .agg parts => uptoBulkAll parts + 1
  | .iface _ d => uptoBulk d + 1
  | .map entries => uptoBulkEntries entries + 1
  | .held _ => 1
def uptoBulkAll {H : Type} : List (DataW H) → Nat
  | [] => 0
  | d :: r => uptoBulk d + uptoBulkAll r
def uptoBulkEntries {H : Type} : List (Lit × DataW H) → Nat
  | [] => 0
  | x :: r => uptoBulkEntry x + uptoBulkEntries r
def uptoBulkEntry {H : Type} : Lit × DataW H → Nat
  | (.string bytes, d) => bytes.length + uptoBulk d + 1
  | (_, d) => uptoBulk d + 1
 end
def uptoSmall : (H : Type) → List (DataW H) → Bool := fun _ ds => decide (uptoBulkAll ds ≤ 1048576)
def OpenSpec.upto (s : _root_.Go.ChangeSpec) : _root_.Go.OpenSpec := { _root_.Go.OpenSpec.ofChange s with cond := some uptoSmall }

/-- 'pannierlaw02.OctalParses', WHERE WHAT IT READS IS OF BULK AT MOST 1048576: true; the input reads as it did. -/
def octalParsesUptoRow : OpenClaim := { program := "yteeofjlohaeinaa", sum := "9c543fe47ed6b7ed6318fe28058ccc535fab82300caf77a8bfc8bae1e1019c05", func := "pannier/pannierlaw02.OctalParses", spec := "octalParses", apart := false, narrowed := true }
def OctalParsesUptoSaid : Prop := octalParsesUptoRow.holds Try.pinned (OpenSpec.upto octalParsesSpec)

/-- 'pannierlaw02.OctalFormats', WHERE WHAT IT READS IS OF BULK AT MOST 1048576: true; the input reads as it did. -/
def octalFormatsUptoRow : OpenClaim := { program := "yteeofjlohaeinaa", sum := "9c543fe47ed6b7ed6318fe28058ccc535fab82300caf77a8bfc8bae1e1019c05", func := "pannier/pannierlaw02.OctalFormats", spec := "octalFormats", apart := false, narrowed := true }
def OctalFormatsUptoSaid : Prop := octalFormatsUptoRow.holds Try.pinned (OpenSpec.upto octalFormatsSpec)

/-- 'pannierlaw02.OctalBinary', WHERE WHAT IT READS IS OF BULK AT MOST 1048576: true; the input reads as it did. -/
def octalBinaryUptoRow : OpenClaim := { program := "yteeofjlohaeinaa", sum := "9c543fe47ed6b7ed6318fe28058ccc535fab82300caf77a8bfc8bae1e1019c05", func := "pannier/pannierlaw02.OctalBinary", spec := "octalBinary", apart := false, narrowed := true }
def OctalBinaryUptoSaid : Prop := octalBinaryUptoRow.holds Try.pinned (OpenSpec.upto octalBinarySpec)

/-- 'pannierlaw02.OctalBlank', WHERE WHAT IT READS IS OF BULK AT MOST 1048576: true; the input reads as it did. -/
def octalBlankUptoRow : OpenClaim := { program := "yteeofjlohaeinaa", sum := "9c543fe47ed6b7ed6318fe28058ccc535fab82300caf77a8bfc8bae1e1019c05", func := "pannier/pannierlaw02.OctalBlank", spec := "octalBlank", apart := false, narrowed := true }
def OctalBlankUptoSaid : Prop := octalBlankUptoRow.holds Try.pinned (OpenSpec.upto octalBlankSpec)

/-- 'pannierlaw02.OctalWidth', WHERE WHAT IT READS IS OF BULK AT MOST 1048576: true; the input reads as it did. -/
def octalWidthUptoRow : OpenClaim := { program := "yteeofjlohaeinaa", sum := "9c543fe47ed6b7ed6318fe28058ccc535fab82300caf77a8bfc8bae1e1019c05", func := "pannier/pannierlaw02.OctalWidth", spec := "octalWidth", apart := false, narrowed := true }
def OctalWidthUptoSaid : Prop := octalWidthUptoRow.holds Try.pinned (OpenSpec.upto octalWidthSpec)

/-- 'pannierlaw02.OctalOrder', WHERE WHAT IT READS IS OF BULK AT MOST 1048576: true; the input reads as it did. -/
def octalOrderUptoRow : OpenClaim := { program := "yteeofjlohaeinaa", sum := "9c543fe47ed6b7ed6318fe28058ccc535fab82300caf77a8bfc8bae1e1019c05", func := "pannier/pannierlaw02.OctalOrder", spec := "octalOrder", apart := false, narrowed := true }
def OctalOrderUptoSaid : Prop := octalOrderUptoRow.holds Try.pinned (OpenSpec.upto octalOrderSpec)

/-- 'pannierlaw05.SumOf', WHERE WHAT IT READS IS OF BULK AT MOST 1048576: true; the input reads as it did. -/
def sumOfUptoRow : OpenClaim := { program := "yteeofjlohaeinaa", sum := "9c543fe47ed6b7ed6318fe28058ccc535fab82300caf77a8bfc8bae1e1019c05", func := "pannier/pannierlaw05.SumOf", spec := "sumOf", unfollowed := true, recurses := true, apart := false, narrowed := true }
def SumOfUptoSaid : Prop := sumOfUptoRow.holds Try.pinned (OpenSpec.upto sumOfSpec)

/-- 'pannierlaw05.SumSeals', WHERE WHAT IT READS IS OF BULK AT MOST 1048576: true; the input reads as it did. -/
def sumSealsUptoRow : OpenClaim := { program := "yteeofjlohaeinaa", sum := "9c543fe47ed6b7ed6318fe28058ccc535fab82300caf77a8bfc8bae1e1019c05", func := "pannier/pannierlaw05.SumSeals", spec := "sumSeals", unfollowed := true, recurses := true, apart := false, narrowed := true }
def SumSealsUptoSaid : Prop := sumSealsUptoRow.holds Try.pinned (OpenSpec.upto sumSealsSpec)

/-- 'pannierlaw05.SumOld', WHERE WHAT IT READS IS OF BULK AT MOST 1048576: true; the input reads as it did. -/
def sumOldUptoRow : OpenClaim := { program := "yteeofjlohaeinaa", sum := "9c543fe47ed6b7ed6318fe28058ccc535fab82300caf77a8bfc8bae1e1019c05", func := "pannier/pannierlaw05.SumOld", spec := "sumOld", unfollowed := true, recurses := true, apart := false, narrowed := true }
def SumOldUptoSaid : Prop := sumOldUptoRow.holds Try.pinned (OpenSpec.upto sumOldSpec)

/-- 'pannierlaw05.SumAdds', WHERE WHAT IT READS IS OF BULK AT MOST 1048576: true; the input reads as it did. -/
def sumAddsUptoRow : OpenClaim := { program := "yteeofjlohaeinaa", sum := "9c543fe47ed6b7ed6318fe28058ccc535fab82300caf77a8bfc8bae1e1019c05", func := "pannier/pannierlaw05.SumAdds", spec := "sumAdds", unfollowed := true, recurses := true, apart := false, narrowed := true }
def SumAddsUptoSaid : Prop := sumAddsUptoRow.holds Try.pinned (OpenSpec.upto sumAddsSpec)

/-- 'pannierlaw05.SumField', WHERE WHAT IT READS IS OF BULK AT MOST 1048576: true; the input reads as it did. -/
def sumFieldUptoRow : OpenClaim := { program := "yteeofjlohaeinaa", sum := "9c543fe47ed6b7ed6318fe28058ccc535fab82300caf77a8bfc8bae1e1019c05", func := "pannier/pannierlaw05.SumField", spec := "sumField", unfollowed := true, recurses := true, apart := false, narrowed := true }
def SumFieldUptoSaid : Prop := sumFieldUptoRow.holds Try.pinned (OpenSpec.upto sumFieldSpec)

/-- 'pannierlaw05.SumOwn', WHERE WHAT IT READS IS OF BULK AT MOST 1048576: true; the input reads as it did. -/
def sumOwnUptoRow : OpenClaim := { program := "yteeofjlohaeinaa", sum := "9c543fe47ed6b7ed6318fe28058ccc535fab82300caf77a8bfc8bae1e1019c05", func := "pannier/pannierlaw05.SumOwn", spec := "sumOwn", unfollowed := true, recurses := true, apart := false, narrowed := true }
def SumOwnUptoSaid : Prop := sumOwnUptoRow.holds Try.pinned (OpenSpec.upto sumOwnSpec)

end Rows
end Go.Proofs.Yteeofjlohaeinaa
