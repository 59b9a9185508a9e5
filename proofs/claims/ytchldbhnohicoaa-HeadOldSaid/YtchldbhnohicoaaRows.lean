/-
  No cell of these rows narrows 'for every input' (looked for: loops, veiled, ifaces, maps, wideKeys, modest, calm, conditions, laid).
  DERIVED. THE GIVEN ROWS OF THIS SEAT. 7 by the template 'for every input the law returns true; each argument reads behind the call as it read before'; 0 by the template 'total and deterministic' (their statements: YtchldbhnohicoaaTotals.lean).
  GIVEN WITH THE SEED: the statements are not yours to turn. If you find one false, say at which input.
  Laid BY PROGRAM, IN A SANDBOX (cutbox-rows.mjs): the forced cells as the released guide's own fill.sh prints them over the translation 7bee3298d7513ff8… (all of the seat's roots in one cut). By AI agents, Wed Nov 11 2026. No macro, syntax, notation, axiom, sorry.
-/
import Derived.Test.YtchldbhnohicoaaChecked
import GoSem.Claim
import GoSem.ClaimJoined
import GoSem.ClaimMapViews
import Derived.JoinedTies
import Derived.KernelRfl
namespace Go.Proofs.Ytchldbhnohicoaa
/- THE CELL 'sum', in the pinned program and in every row, IS THE sha256 OF THE DUMP (.gsa) THAT YtchldbhnohicoaaProg.lean LOADS. Nothing in Lean hashes anything: it is a label: what it is worth is what the hold of that sum in a sandbox is worth. -/
noncomputable def Try.pinned : Pinned := { name := "ytchldbhnohicoaa", sum := "7bee3298d7513ff8376ce4fe9ec335a27e60d0c7d7e4a88142b5bb2b07f332b5", checked := Try.checked }
namespace Rows
def none {H : Type} : Left H := { results := [], args := [] }

/-- 'pannierlaw06.HeadReads': WHATEVER THE INPUT: true; the input reads as it did. -/
def headReadsSpec : ChangeSpec := { name := "headReads", fn := fun _ => fun
  | [d] => { results := [.lit (.bool true)], args := [d] }
  | _ => none }
def headReadsRow : OpenClaim := { program := "ytchldbhnohicoaa", sum := "7bee3298d7513ff8376ce4fe9ec335a27e60d0c7d7e4a88142b5bb2b07f332b5", func := "pannier/pannierlaw06.HeadReads", spec := "headReads", inPlace := ["internal/bytealg.IndexByteString", "internal/bytealg.IndexString"], unfollowed := true, recurses := true, named := ["internal/bytealg.MaxLen"], apart := false }
def HeadReadsSaid : Prop := headReadsRow.holds Try.pinned (OpenSpec.ofChange headReadsSpec)

/-- ITS FALSE NEIGHBOUR: 'it returns false'. Refute it at one input. -/
def headReadsWrong : ChangeSpec := { name := "headReads", fn := fun _ => fun
  | [d] => { results := [.lit (.bool false)], args := [d] }
  | _ => none }
def HeadReadsWrongFalsely : Prop := headReadsRow.holds Try.pinned (OpenSpec.ofChange headReadsWrong)

/-- 'pannierlaw06.HeadWrites': WHATEVER THE INPUT: true; the input reads as it did. -/
def headWritesSpec : ChangeSpec := { name := "headWrites", fn := fun _ => fun
  | [d] => { results := [.lit (.bool true)], args := [d] }
  | _ => none }
def headWritesRow : OpenClaim := { program := "ytchldbhnohicoaa", sum := "7bee3298d7513ff8376ce4fe9ec335a27e60d0c7d7e4a88142b5bb2b07f332b5", func := "pannier/pannierlaw06.HeadWrites", spec := "headWrites", inPlace := ["internal/bytealg.IndexByteString", "internal/bytealg.IndexString"], unfollowed := true, recurses := true, named := ["internal/bytealg.MaxLen"], apart := false }
def HeadWritesSaid : Prop := headWritesRow.holds Try.pinned (OpenSpec.ofChange headWritesSpec)

/-- ITS FALSE NEIGHBOUR: 'it returns false'. Refute it at one input. -/
def headWritesWrong : ChangeSpec := { name := "headWrites", fn := fun _ => fun
  | [d] => { results := [.lit (.bool false)], args := [d] }
  | _ => none }
def HeadWritesWrongFalsely : Prop := headWritesRow.holds Try.pinned (OpenSpec.ofChange headWritesWrong)

/-- 'pannierlaw06.HeadOdd': WHATEVER THE INPUT: true; the input reads as it did. -/
def headOddSpec : ChangeSpec := { name := "headOdd", fn := fun _ => fun
  | [d1, d2, d3] => { results := [.lit (.bool true)], args := [d1, d2, d3] }
  | _ => none }
def headOddRow : OpenClaim := { program := "ytchldbhnohicoaa", sum := "7bee3298d7513ff8376ce4fe9ec335a27e60d0c7d7e4a88142b5bb2b07f332b5", func := "pannier/pannierlaw06.HeadOdd", spec := "headOdd", inPlace := ["internal/bytealg.IndexByteString", "internal/bytealg.IndexString"], unfollowed := true, recurses := true, named := ["internal/bytealg.MaxLen"], apart := false }
def HeadOddSaid : Prop := headOddRow.holds Try.pinned (OpenSpec.ofChange headOddSpec)

/-- ITS FALSE NEIGHBOUR: 'it returns false'. Refute it at one input. -/
def headOddWrong : ChangeSpec := { name := "headOdd", fn := fun _ => fun
  | [d1, d2, d3] => { results := [.lit (.bool false)], args := [d1, d2, d3] }
  | _ => none }
def HeadOddWrongFalsely : Prop := headOddRow.holds Try.pinned (OpenSpec.ofChange headOddWrong)

/-- 'pannierlaw06.HeadOld': WHATEVER THE INPUT: true; the input reads as it did. -/
def headOldSpec : ChangeSpec := { name := "headOld", fn := fun _ => fun
  | [d1, d2] => { results := [.lit (.bool true)], args := [d1, d2] }
  | _ => none }
def headOldRow : OpenClaim := { program := "ytchldbhnohicoaa", sum := "7bee3298d7513ff8376ce4fe9ec335a27e60d0c7d7e4a88142b5bb2b07f332b5", func := "pannier/pannierlaw06.HeadOld", spec := "headOld", inPlace := ["internal/bytealg.IndexByteString", "internal/bytealg.IndexString"], unfollowed := true, recurses := true, named := ["internal/bytealg.MaxLen"], apart := false }
def HeadOldSaid : Prop := headOldRow.holds Try.pinned (OpenSpec.ofChange headOldSpec)

/-- ITS FALSE NEIGHBOUR: 'it returns false'. Refute it at one input. -/
def headOldWrong : ChangeSpec := { name := "headOld", fn := fun _ => fun
  | [d1, d2] => { results := [.lit (.bool false)], args := [d1, d2] }
  | _ => none }
def HeadOldWrongFalsely : Prop := headOldRow.holds Try.pinned (OpenSpec.ofChange headOldWrong)

/-- 'pannierlaw06.HeadShort': WHATEVER THE INPUT: true; the input reads as it did. -/
def headShortSpec : ChangeSpec := { name := "headShort", fn := fun _ => fun
  | [d] => { results := [.lit (.bool true)], args := [d] }
  | _ => none }
def headShortRow : OpenClaim := { program := "ytchldbhnohicoaa", sum := "7bee3298d7513ff8376ce4fe9ec335a27e60d0c7d7e4a88142b5bb2b07f332b5", func := "pannier/pannierlaw06.HeadShort", spec := "headShort", inPlace := ["internal/bytealg.IndexByteString", "internal/bytealg.IndexString"], unfollowed := true, recurses := true, named := ["internal/bytealg.MaxLen"], apart := false }
def HeadShortSaid : Prop := headShortRow.holds Try.pinned (OpenSpec.ofChange headShortSpec)

/-- ITS FALSE NEIGHBOUR: 'it returns false'. Refute it at one input. -/
def headShortWrong : ChangeSpec := { name := "headShort", fn := fun _ => fun
  | [d] => { results := [.lit (.bool false)], args := [d] }
  | _ => none }
def HeadShortWrongFalsely : Prop := headShortRow.holds Try.pinned (OpenSpec.ofChange headShortWrong)

/-- 'pannierlaw06.HeadFulls': WHATEVER THE INPUT: true; the input reads as it did. -/
def headFullsSpec : ChangeSpec := { name := "headFulls", fn := fun _ => fun
  | [d1, d2] => { results := [.lit (.bool true)], args := [d1, d2] }
  | _ => none }
def headFullsRow : OpenClaim := { program := "ytchldbhnohicoaa", sum := "7bee3298d7513ff8376ce4fe9ec335a27e60d0c7d7e4a88142b5bb2b07f332b5", func := "pannier/pannierlaw06.HeadFulls", spec := "headFulls", inPlace := ["internal/bytealg.IndexByteString", "internal/bytealg.IndexString"], unfollowed := true, recurses := true, named := ["internal/bytealg.MaxLen"], apart := false }
def HeadFullsSaid : Prop := headFullsRow.holds Try.pinned (OpenSpec.ofChange headFullsSpec)

/-- ITS FALSE NEIGHBOUR: 'it returns false'. Refute it at one input. -/
def headFullsWrong : ChangeSpec := { name := "headFulls", fn := fun _ => fun
  | [d1, d2] => { results := [.lit (.bool false)], args := [d1, d2] }
  | _ => none }
def HeadFullsWrongFalsely : Prop := headFullsRow.holds Try.pinned (OpenSpec.ofChange headFullsWrong)

/-- 'pannierlaw06.HeadSplits': WHATEVER THE INPUT: true; the input reads as it did. -/
def headSplitsSpec : ChangeSpec := { name := "headSplits", fn := fun _ => fun
  | [d] => { results := [.lit (.bool true)], args := [d] }
  | _ => none }
def headSplitsRow : OpenClaim := { program := "ytchldbhnohicoaa", sum := "7bee3298d7513ff8376ce4fe9ec335a27e60d0c7d7e4a88142b5bb2b07f332b5", func := "pannier/pannierlaw06.HeadSplits", spec := "headSplits", inPlace := ["internal/bytealg.IndexByteString", "internal/bytealg.IndexString"], unfollowed := true, recurses := true, named := ["internal/bytealg.MaxLen"], apart := false }
def HeadSplitsSaid : Prop := headSplitsRow.holds Try.pinned (OpenSpec.ofChange headSplitsSpec)

/-- ITS FALSE NEIGHBOUR: 'it returns false'. Refute it at one input. -/
def headSplitsWrong : ChangeSpec := { name := "headSplits", fn := fun _ => fun
  | [d] => { results := [.lit (.bool false)], args := [d] }
  | _ => none }
def HeadSplitsWrongFalsely : Prop := headSplitsRow.holds Try.pinned (OpenSpec.ofChange headSplitsWrong)

/- THE SECOND FORM. 'bulk': how many values and letters a reading holds, each counted each time it is reached (what is shared counts as often as it is met; a slice's spare places count too). A statement '..UptoSaid' is the law's where the arguments, and the package variables that the reading takes, are together of bulk at most 1048576: NARROWER than '..Said'. Prove '..Said' where nothing that the law and all that it calls make is longer than what came in: it says more and counts as full. Else prove '..UptoSaid'. A law counts once. -/
mutual
def uptoBulk {H : Type} : DataW H → Nat
  | .lit (.string bytes) => bytes.length + 1
  | .lit _ => 1
  | .nil => 1
  | .ptr d => uptoBulk d + 1
  | .slice elems spare => uptoBulkAll elems + uptoBulkAll spare + 1
  | .agg parts => uptoBulkAll parts + 1
  | .iface _ d => uptoBulk d + 1
  | .map entries => uptoBulkEntries entries + 1
  | .held _ => 1
def uptoBulkAll {H : Type} : List (DataW H) → Nat
  | [] => 0
  | d :: r => uptoBulk d + uptoBulkAll r
def uptoBulkEntries {H : Type} : List (Lit × DataW H) → Nat
  | [] => 0
  | x :: r => uptoBulkEntry x + uptoBulkEntries r
def uptoBulkEntry {H : Type} : Lit × DataW H → Nat
  | (.string bytes, d) => bytes.length + uptoBulk d + 1
  | (_, d) => uptoBulk d + 1
 end
def uptoSmall : (H : Type) → List (DataW H) → Bool := fun _ ds => decide (uptoBulkAll ds ≤ 1048576)
def OpenSpec.upto (s : _root_.Go.ChangeSpec) : _root_.Go.OpenSpec := { _root_.Go.OpenSpec.ofChange s with cond := some uptoSmall }

/-- 'pannierlaw06.HeadReads', WHERE WHAT IT READS IS OF BULK AT MOST 1048576: true; the input reads as it did. -/
def headReadsUptoRow : OpenClaim := { program := "ytchldbhnohicoaa", sum := "7bee3298d7513ff8376ce4fe9ec335a27e60d0c7d7e4a88142b5bb2b07f332b5", func := "pannier/pannierlaw06.HeadReads", spec := "headReads", inPlace := ["internal/bytealg.IndexByteString", "internal/bytealg.IndexString"], unfollowed := true, recurses := true, named := ["internal/bytealg.MaxLen"], apart := false, narrowed := true }
def HeadReadsUptoSaid : Prop := headReadsUptoRow.holds Try.pinned (OpenSpec.upto headReadsSpec)

/-- 'pannierlaw06.HeadWrites', WHERE WHAT IT READS IS OF BULK AT MOST 1048576: true; the input reads as it did. -/
def headWritesUptoRow : OpenClaim := { program := "ytchldbhnohicoaa", sum := "7bee3298d7513ff8376ce4fe9ec335a27e60d0c7d7e4a88142b5bb2b07f332b5", func := "pannier/pannierlaw06.HeadWrites", spec := "headWrites", inPlace := ["internal/bytealg.IndexByteString", "internal/bytealg.IndexString"], unfollowed := true, recurses := true, named := ["internal/bytealg.MaxLen"], apart := false, narrowed := true }
def HeadWritesUptoSaid : Prop := headWritesUptoRow.holds Try.pinned (OpenSpec.upto headWritesSpec)

/-- 'pannierlaw06.HeadOdd', WHERE WHAT IT READS IS OF BULK AT MOST 1048576: true; the input reads as it did. -/
def headOddUptoRow : OpenClaim := { program := "ytchldbhnohicoaa", sum := "7bee3298d7513ff8376ce4fe9ec335a27e60d0c7d7e4a88142b5bb2b07f332b5", func := "pannier/pannierlaw06.HeadOdd", spec := "headOdd", inPlace := ["internal/bytealg.IndexByteString", "internal/bytealg.IndexString"], unfollowed := true, recurses := true, named := ["internal/bytealg.MaxLen"], apart := false, narrowed := true }
def HeadOddUptoSaid : Prop := headOddUptoRow.holds Try.pinned (OpenSpec.upto headOddSpec)

/-- 'pannierlaw06.HeadOld', WHERE WHAT IT READS IS OF BULK AT MOST 1048576: true; the input reads as it did. -/
def headOldUptoRow : OpenClaim := { program := "ytchldbhnohicoaa", sum := "7bee3298d7513ff8376ce4fe9ec335a27e60d0c7d7e4a88142b5bb2b07f332b5", func := "pannier/pannierlaw06.HeadOld", spec := "headOld", inPlace := ["internal/bytealg.IndexByteString", "internal/bytealg.IndexString"], unfollowed := true, recurses := true, named := ["internal/bytealg.MaxLen"], apart := false, narrowed := true }
def HeadOldUptoSaid : Prop := headOldUptoRow.holds Try.pinned (OpenSpec.upto headOldSpec)

/-- 'pannierlaw06.HeadShort', WHERE WHAT IT READS IS OF BULK AT MOST 1048576: true; the input reads as it did. -/
def headShortUptoRow : OpenClaim := { program := "ytchldbhnohicoaa", sum := "7bee3298d7513ff8376ce4fe9ec335a27e60d0c7d7e4a88142b5bb2b07f332b5", func := "pannier/pannierlaw06.HeadShort", spec := "headShort", inPlace := ["internal/bytealg.IndexByteString", "internal/bytealg.IndexString"], unfollowed := true, recurses := true, named := ["internal/bytealg.MaxLen"], apart := false, narrowed := true }
def HeadShortUptoSaid : Prop := headShortUptoRow.holds Try.pinned (OpenSpec.upto headShortSpec)

/-- 'pannierlaw06.HeadFulls', WHERE WHAT IT READS IS OF BULK AT MOST 1048576: true; the input reads as it did. -/
def headFullsUptoRow : OpenClaim := { program := "ytchldbhnohicoaa", sum := "7bee3298d7513ff8376ce4fe9ec335a27e60d0c7d7e4a88142b5bb2b07f332b5", func := "pannier/pannierlaw06.HeadFulls", spec := "headFulls", inPlace := ["internal/bytealg.IndexByteString", "internal/bytealg.IndexString"], unfollowed := true, recurses := true, named := ["internal/bytealg.MaxLen"], apart := false, narrowed := true }
def HeadFullsUptoSaid : Prop := headFullsUptoRow.holds Try.pinned (OpenSpec.upto headFullsSpec)

/-- 'pannierlaw06.HeadSplits', WHERE WHAT IT READS IS OF BULK AT MOST 1048576: true; the input reads as it did. -/
def headSplitsUptoRow : OpenClaim := { program := "ytchldbhnohicoaa", sum := "7bee3298d7513ff8376ce4fe9ec335a27e60d0c7d7e4a88142b5bb2b07f332b5", func := "pannier/pannierlaw06.HeadSplits", spec := "headSplits", inPlace := ["internal/bytealg.IndexByteString", "internal/bytealg.IndexString"], unfollowed := true, recurses := true, named := ["internal/bytealg.MaxLen"], apart := false, narrowed := true }
def HeadSplitsUptoSaid : Prop := headSplitsUptoRow.holds Try.pinned (OpenSpec.upto headSplitsSpec)

end Rows
end Go.Proofs.Ytchldbhnohicoaa
