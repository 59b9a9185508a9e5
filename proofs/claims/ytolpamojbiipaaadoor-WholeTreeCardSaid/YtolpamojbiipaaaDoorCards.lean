/-
  DERIVED. GIVEN WITH THE SEED: THE CARDS: each row of YtolpamojbiipaaaDoorRows.lean that lists a variable, with what it lists TIED to the program's text (the seventh form; the later family's looks); each row that meets fmt, with fmt's text TOLD by the authors' own Lean function (tested against real Go, not proved from fmt's source: count such statements apart). THE CARD IS WHAT COUNTS. Prove the row's statement (the work); the ties are given (YtolpamojbiipaaaDoorTie.lean); close each card by the builder's one call (the guide's Derived/Test/ToyasCard.lean, 'card_holds'). Laid BY PROGRAM, IN A SANDBOX (cutbox-door.mjs). By AI agents, Wed Nov 11 2026. No macro, syntax, notation, axiom, sorry.
-/
import Derived.Test.YtolpamojbiipaaaDoorRows
import GoSem.ClaimSeven
namespace Go.Proofs.YtolpamojbiipaaaDoor
namespace Rows

/-- THE TIED CARD OF 'pannierlaw14.UsageAdds'. -/
def usageAddsCard : Claim7 := { stood := { row := usageAddsRow, standIns := [], harness := (true, "8829a5796ad8fca6950acaae280fc8f35fcf52a0400929be0dc6ecf8e36a3e36"), looks := false }, kinds := [], alts := [], laidByText := true, laidKinds := [.data, .pinned], laidTests := true, laidLooks := .later }
def UsageAddsCardSaid : Prop := Claim7.holds Tryd.pinned (.plain (OpenSpec.ofChange usageAddsSpec)) usageAddsCard

/-- THE TIED CARD OF 'pannierlaw14.UsageFits'. -/
def usageFitsCard : Claim7 := { stood := { row := usageFitsRow, standIns := [], harness := (true, "8829a5796ad8fca6950acaae280fc8f35fcf52a0400929be0dc6ecf8e36a3e36"), looks := false }, kinds := [], alts := [], laidByText := true, laidKinds := [.data, .pinned], laidTests := true, laidLooks := .later }
def UsageFitsCardSaid : Prop := Claim7.holds Tryd.pinned (.plain (OpenSpec.ofChange usageFitsSpec)) usageFitsCard

/-- THE TIED CARD OF 'pannierlaw14.UsageOf'. -/
def usageOfCard : Claim7 := { stood := { row := usageOfRow, standIns := [], harness := (true, "8829a5796ad8fca6950acaae280fc8f35fcf52a0400929be0dc6ecf8e36a3e36"), looks := false }, kinds := [], alts := [], laidByText := true, laidKinds := [.data, .pinned], laidTests := true, laidLooks := .later }
def UsageOfCardSaid : Prop := Claim7.holds Tryd.pinned (.plain (OpenSpec.ofChange usageOfSpec)) usageOfCard

/-- THE TIED CARD OF 'pannierlaw14.UsageGrows'. -/
def usageGrowsCard : Claim7 := { stood := { row := usageGrowsRow, standIns := [], harness := (true, "8829a5796ad8fca6950acaae280fc8f35fcf52a0400929be0dc6ecf8e36a3e36"), looks := false }, kinds := [], alts := [], laidByText := true, laidKinds := [.data, .pinned], laidTests := true, laidLooks := .later }
def UsageGrowsCardSaid : Prop := Claim7.holds Tryd.pinned (.plain (OpenSpec.ofChange usageGrowsSpec)) usageGrowsCard

/-- THE TIED CARD OF 'pannierlaw14.UsageNames'. -/
def usageNamesCard : Claim7 := { stood := { row := usageNamesRow, standIns := [], harness := (true, "8829a5796ad8fca6950acaae280fc8f35fcf52a0400929be0dc6ecf8e36a3e36"), looks := false }, kinds := [], alts := [], laidByText := true, laidKinds := [.data, .pinned], laidTests := true, laidLooks := .later }
def UsageNamesCardSaid : Prop := Claim7.holds Tryd.pinned (.plain (OpenSpec.ofChange usageNamesSpec)) usageNamesCard

/-- THE TIED CARD OF 'pannierlaw17.MergeOver'. -/
def mergeOverCard : Claim7 := { stood := { row := mergeOverRow, standIns := [], harness := (true, "8829a5796ad8fca6950acaae280fc8f35fcf52a0400929be0dc6ecf8e36a3e36"), looks := false }, kinds := [], alts := [], laidByText := true, laidKinds := [.data, .pinned], laidTests := true, laidLooks := .later }
def MergeOverCardSaid : Prop := Claim7.holds Tryd.pinned (.plain (OpenSpec.ofChange mergeOverSpec)) mergeOverCard

/-- THE TIED CARD OF 'pannierlaw17.MergeApart'. -/
def mergeApartCard : Claim7 := { stood := { row := mergeApartRow, standIns := [], harness := (true, "8829a5796ad8fca6950acaae280fc8f35fcf52a0400929be0dc6ecf8e36a3e36"), looks := false }, kinds := [], alts := [], laidByText := true, laidKinds := [.data, .pinned], laidTests := true, laidLooks := .later }
def MergeApartCardSaid : Prop := Claim7.holds Tryd.pinned (.plain (OpenSpec.ofChange mergeApartSpec)) mergeApartCard

/-- THE TIED CARD OF 'pannierlaw17.MergeKinds'. -/
def mergeKindsCard : Claim7 := { stood := { row := mergeKindsRow, standIns := [], harness := (true, "8829a5796ad8fca6950acaae280fc8f35fcf52a0400929be0dc6ecf8e36a3e36"), looks := false }, kinds := [], alts := [], laidByText := true, laidKinds := [.data, .pinned], laidTests := true, laidLooks := .later }
def MergeKindsCardSaid : Prop := Claim7.holds Tryd.pinned (.plain (OpenSpec.ofChange mergeKindsSpec)) mergeKindsCard

/-- THE TIED CARD OF 'pannierlaw17.MergeGone'. -/
def mergeGoneCard : Claim7 := { stood := { row := mergeGoneRow, standIns := [], harness := (true, "8829a5796ad8fca6950acaae280fc8f35fcf52a0400929be0dc6ecf8e36a3e36"), looks := false }, kinds := [], alts := [], laidByText := true, laidKinds := [.data, .pinned], laidTests := true, laidLooks := .later }
def MergeGoneCardSaid : Prop := Claim7.holds Tryd.pinned (.plain (OpenSpec.ofChange mergeGoneSpec)) mergeGoneCard

/-- THE TIED CARD OF 'pannierlaw14.UsageCuts'. -/
def usageCutsCard : Claim7 := { stood := { row := usageCutsRow, standIns := [], harness := (true, "8829a5796ad8fca6950acaae280fc8f35fcf52a0400929be0dc6ecf8e36a3e36"), looks := false }, kinds := [], alts := [], laidByText := true, laidKinds := [.data, .pinned], laidTests := true, laidLooks := .later }
def UsageCutsCardSaid : Prop := Claim7.holds Tryd.pinned (.plain (OpenSpec.ofChange usageCutsSpec)) usageCutsCard

/-- THE TIED CARD OF 'pannierlaw17.MergeTwice'. -/
def mergeTwiceCard : Claim7 := { stood := { row := mergeTwiceRow, standIns := [], harness := (true, "8829a5796ad8fca6950acaae280fc8f35fcf52a0400929be0dc6ecf8e36a3e36"), looks := false }, kinds := [], alts := [], laidByText := true, laidKinds := [.data, .pinned], laidTests := true, laidLooks := .later }
def MergeTwiceCardSaid : Prop := Claim7.holds Tryd.pinned (.plain (OpenSpec.ofChange mergeTwiceSpec)) mergeTwiceCard

/-- THE TIED CARD OF 'pannierlaw17.MergeFits'. -/
def mergeFitsCard : Claim7 := { stood := { row := mergeFitsRow, standIns := [], harness := (true, "8829a5796ad8fca6950acaae280fc8f35fcf52a0400929be0dc6ecf8e36a3e36"), looks := false }, kinds := [], alts := [], laidByText := true, laidKinds := [.data, .pinned], laidTests := true, laidLooks := .later }
def MergeFitsCardSaid : Prop := Claim7.holds Tryd.pinned (.plain (OpenSpec.ofChange mergeFitsSpec)) mergeFitsCard

/-- THE TIED CARD OF 'panniertop.WholeTree'. -/
def wholeTreeCard : Claim7 := { stood := { row := wholeTreeRow, standIns := [], harness := (true, "8829a5796ad8fca6950acaae280fc8f35fcf52a0400929be0dc6ecf8e36a3e36"), looks := false }, kinds := [], alts := [], laidByText := true, laidKinds := [.data, .pinned], laidTests := true, laidLooks := .later }
def WholeTreeCardSaid : Prop := Claim7.holds Tryd.pinned (.plain (OpenSpec.ofChange wholeTreeSpec)) wholeTreeCard

/-- THE SECOND FORM's CARD OF 'pannierlaw14.UsageAdds'. -/
def usageAddsUptoCard : Claim7 := { stood := { row := usageAddsUptoRow, standIns := [], harness := (true, "8829a5796ad8fca6950acaae280fc8f35fcf52a0400929be0dc6ecf8e36a3e36"), looks := false }, kinds := [], alts := [], laidByText := true, laidKinds := [.data, .pinned], laidTests := true, laidLooks := .later }
def UsageAddsUptoCardSaid : Prop := Claim7.holds Tryd.pinned (.plain (OpenSpec.upto usageAddsSpec)) usageAddsUptoCard

/-- THE SECOND FORM's CARD OF 'pannierlaw14.UsageFits'. -/
def usageFitsUptoCard : Claim7 := { stood := { row := usageFitsUptoRow, standIns := [], harness := (true, "8829a5796ad8fca6950acaae280fc8f35fcf52a0400929be0dc6ecf8e36a3e36"), looks := false }, kinds := [], alts := [], laidByText := true, laidKinds := [.data, .pinned], laidTests := true, laidLooks := .later }
def UsageFitsUptoCardSaid : Prop := Claim7.holds Tryd.pinned (.plain (OpenSpec.upto usageFitsSpec)) usageFitsUptoCard

/-- THE SECOND FORM's CARD OF 'pannierlaw14.UsageOf'. -/
def usageOfUptoCard : Claim7 := { stood := { row := usageOfUptoRow, standIns := [], harness := (true, "8829a5796ad8fca6950acaae280fc8f35fcf52a0400929be0dc6ecf8e36a3e36"), looks := false }, kinds := [], alts := [], laidByText := true, laidKinds := [.data, .pinned], laidTests := true, laidLooks := .later }
def UsageOfUptoCardSaid : Prop := Claim7.holds Tryd.pinned (.plain (OpenSpec.upto usageOfSpec)) usageOfUptoCard

/-- THE SECOND FORM's CARD OF 'pannierlaw14.UsageGrows'. -/
def usageGrowsUptoCard : Claim7 := { stood := { row := usageGrowsUptoRow, standIns := [], harness := (true, "8829a5796ad8fca6950acaae280fc8f35fcf52a0400929be0dc6ecf8e36a3e36"), looks := false }, kinds := [], alts := [], laidByText := true, laidKinds := [.data, .pinned], laidTests := true, laidLooks := .later }
def UsageGrowsUptoCardSaid : Prop := Claim7.holds Tryd.pinned (.plain (OpenSpec.upto usageGrowsSpec)) usageGrowsUptoCard

/-- THE SECOND FORM's CARD OF 'pannierlaw14.UsageNames'. -/
def usageNamesUptoCard : Claim7 := { stood := { row := usageNamesUptoRow, standIns := [], harness := (true, "8829a5796ad8fca6950acaae280fc8f35fcf52a0400929be0dc6ecf8e36a3e36"), looks := false }, kinds := [], alts := [], laidByText := true, laidKinds := [.data, .pinned], laidTests := true, laidLooks := .later }
def UsageNamesUptoCardSaid : Prop := Claim7.holds Tryd.pinned (.plain (OpenSpec.upto usageNamesSpec)) usageNamesUptoCard

/-- THE SECOND FORM's CARD OF 'pannierlaw17.MergeOver'. -/
def mergeOverUptoCard : Claim7 := { stood := { row := mergeOverUptoRow, standIns := [], harness := (true, "8829a5796ad8fca6950acaae280fc8f35fcf52a0400929be0dc6ecf8e36a3e36"), looks := false }, kinds := [], alts := [], laidByText := true, laidKinds := [.data, .pinned], laidTests := true, laidLooks := .later }
def MergeOverUptoCardSaid : Prop := Claim7.holds Tryd.pinned (.plain (OpenSpec.upto mergeOverSpec)) mergeOverUptoCard

/-- THE SECOND FORM's CARD OF 'pannierlaw17.MergeApart'. -/
def mergeApartUptoCard : Claim7 := { stood := { row := mergeApartUptoRow, standIns := [], harness := (true, "8829a5796ad8fca6950acaae280fc8f35fcf52a0400929be0dc6ecf8e36a3e36"), looks := false }, kinds := [], alts := [], laidByText := true, laidKinds := [.data, .pinned], laidTests := true, laidLooks := .later }
def MergeApartUptoCardSaid : Prop := Claim7.holds Tryd.pinned (.plain (OpenSpec.upto mergeApartSpec)) mergeApartUptoCard

/-- THE SECOND FORM's CARD OF 'pannierlaw17.MergeKinds'. -/
def mergeKindsUptoCard : Claim7 := { stood := { row := mergeKindsUptoRow, standIns := [], harness := (true, "8829a5796ad8fca6950acaae280fc8f35fcf52a0400929be0dc6ecf8e36a3e36"), looks := false }, kinds := [], alts := [], laidByText := true, laidKinds := [.data, .pinned], laidTests := true, laidLooks := .later }
def MergeKindsUptoCardSaid : Prop := Claim7.holds Tryd.pinned (.plain (OpenSpec.upto mergeKindsSpec)) mergeKindsUptoCard

/-- THE SECOND FORM's CARD OF 'pannierlaw17.MergeGone'. -/
def mergeGoneUptoCard : Claim7 := { stood := { row := mergeGoneUptoRow, standIns := [], harness := (true, "8829a5796ad8fca6950acaae280fc8f35fcf52a0400929be0dc6ecf8e36a3e36"), looks := false }, kinds := [], alts := [], laidByText := true, laidKinds := [.data, .pinned], laidTests := true, laidLooks := .later }
def MergeGoneUptoCardSaid : Prop := Claim7.holds Tryd.pinned (.plain (OpenSpec.upto mergeGoneSpec)) mergeGoneUptoCard

/-- THE SECOND FORM's CARD OF 'pannierlaw14.UsageCuts'. -/
def usageCutsUptoCard : Claim7 := { stood := { row := usageCutsUptoRow, standIns := [], harness := (true, "8829a5796ad8fca6950acaae280fc8f35fcf52a0400929be0dc6ecf8e36a3e36"), looks := false }, kinds := [], alts := [], laidByText := true, laidKinds := [.data, .pinned], laidTests := true, laidLooks := .later }
def UsageCutsUptoCardSaid : Prop := Claim7.holds Tryd.pinned (.plain (OpenSpec.upto usageCutsSpec)) usageCutsUptoCard

/-- THE SECOND FORM's CARD OF 'pannierlaw17.MergeTwice'. -/
def mergeTwiceUptoCard : Claim7 := { stood := { row := mergeTwiceUptoRow, standIns := [], harness := (true, "8829a5796ad8fca6950acaae280fc8f35fcf52a0400929be0dc6ecf8e36a3e36"), looks := false }, kinds := [], alts := [], laidByText := true, laidKinds := [.data, .pinned], laidTests := true, laidLooks := .later }
def MergeTwiceUptoCardSaid : Prop := Claim7.holds Tryd.pinned (.plain (OpenSpec.upto mergeTwiceSpec)) mergeTwiceUptoCard

/-- THE SECOND FORM's CARD OF 'pannierlaw17.MergeFits'. -/
def mergeFitsUptoCard : Claim7 := { stood := { row := mergeFitsUptoRow, standIns := [], harness := (true, "8829a5796ad8fca6950acaae280fc8f35fcf52a0400929be0dc6ecf8e36a3e36"), looks := false }, kinds := [], alts := [], laidByText := true, laidKinds := [.data, .pinned], laidTests := true, laidLooks := .later }
def MergeFitsUptoCardSaid : Prop := Claim7.holds Tryd.pinned (.plain (OpenSpec.upto mergeFitsSpec)) mergeFitsUptoCard

/-- THE SECOND FORM's CARD OF 'panniertop.WholeTree'. -/
def wholeTreeUptoCard : Claim7 := { stood := { row := wholeTreeUptoRow, standIns := [], harness := (true, "8829a5796ad8fca6950acaae280fc8f35fcf52a0400929be0dc6ecf8e36a3e36"), looks := false }, kinds := [], alts := [], laidByText := true, laidKinds := [.data, .pinned], laidTests := true, laidLooks := .later }
def WholeTreeUptoCardSaid : Prop := Claim7.holds Tryd.pinned (.plain (OpenSpec.upto wholeTreeSpec)) wholeTreeUptoCard
end Rows
end Go.Proofs.YtolpamojbiipaaaDoor
