/-
  DERIVED. GIVEN WITH THE SEED: THE CARDS: each row of YtcfhijegmmdpkaaDoorRows.lean that lists a variable, with what it lists TIED to the program's text (the seventh form; the later family's looks); each row that meets fmt, with fmt's text TOLD by the authors' own Lean function (tested against real Go, not proved from fmt's source: count such statements apart). THE CARD IS WHAT COUNTS. Prove the row's statement (the work); the ties are given (YtcfhijegmmdpkaaDoorTie.lean); close each card by the builder's one call (the guide's Derived/Test/ToyasCard.lean, 'card_holds'). Laid BY PROGRAM, IN A SANDBOX (cutbox-door.mjs). By AI agents, Wed Nov 11 2026. No macro, syntax, notation, axiom, sorry.
-/
import Derived.Test.YtcfhijegmmdpkaaDoorRows
import GoSem.ClaimSeven
namespace Go.Proofs.YtcfhijegmmdpkaaDoor
namespace Rows

/-- THE TIED CARD OF 'pannierlaw10.PathCleans'. -/
def pathCleansCard : Claim7 := { stood := { row := pathCleansRow, standIns := [], harness := (true, "929a51acb2ee95f963fcf852b1dfee4d0cdd70a504f9a1519c69e724821cd726"), looks := false }, kinds := [], alts := [], laidByText := true, laidKinds := [.data, .pinned], laidTests := true, laidLooks := .later }
def PathCleansCardSaid : Prop := Claim7.holds Tryd.pinned (.plain (OpenSpec.ofChange pathCleansSpec)) pathCleansCard

/-- THE TIED CARD OF 'pannierlaw10.PathOrder'. -/
def pathOrderCard : Claim7 := { stood := { row := pathOrderRow, standIns := [], harness := (true, "929a51acb2ee95f963fcf852b1dfee4d0cdd70a504f9a1519c69e724821cd726"), looks := false }, kinds := [], alts := [], laidByText := true, laidKinds := [.data, .pinned], laidTests := true, laidLooks := .later }
def PathOrderCardSaid : Prop := Claim7.holds Tryd.pinned (.plain (OpenSpec.ofChange pathOrderSpec)) pathOrderCard

/-- THE TIED CARD OF 'pannierlaw10.PathSafe'. -/
def pathSafeCard : Claim7 := { stood := { row := pathSafeRow, standIns := [], harness := (true, "929a51acb2ee95f963fcf852b1dfee4d0cdd70a504f9a1519c69e724821cd726"), looks := false }, kinds := [], alts := [], laidByText := true, laidKinds := [.data, .pinned], laidTests := true, laidLooks := .later }
def PathSafeCardSaid : Prop := Claim7.holds Tryd.pinned (.plain (OpenSpec.ofChange pathSafeSpec)) pathSafeCard

/-- THE TIED CARD OF 'pannierlaw10.PathDots'. -/
def pathDotsCard : Claim7 := { stood := { row := pathDotsRow, standIns := [], harness := (true, "929a51acb2ee95f963fcf852b1dfee4d0cdd70a504f9a1519c69e724821cd726"), looks := false }, kinds := [], alts := [], laidByText := true, laidKinds := [.data, .pinned], laidTests := true, laidLooks := .later }
def PathDotsCardSaid : Prop := Claim7.holds Tryd.pinned (.plain (OpenSpec.ofChange pathDotsSpec)) pathDotsCard

/-- THE TIED CARD OF 'pannierlaw10.PathLong'. -/
def pathLongCard : Claim7 := { stood := { row := pathLongRow, standIns := [], harness := (true, "929a51acb2ee95f963fcf852b1dfee4d0cdd70a504f9a1519c69e724821cd726"), looks := false }, kinds := [], alts := [], laidByText := true, laidKinds := [.data, .pinned], laidTests := true, laidLooks := .later }
def PathLongCardSaid : Prop := Claim7.holds Tryd.pinned (.plain (OpenSpec.ofChange pathLongSpec)) pathLongCard

/-- THE TIED CARD OF 'pannierlaw11.TargetResolves'. -/
def targetResolvesCard : Claim7 := { stood := { row := targetResolvesRow, standIns := [], harness := (true, "929a51acb2ee95f963fcf852b1dfee4d0cdd70a504f9a1519c69e724821cd726"), looks := false }, kinds := [], alts := [], laidByText := true, laidKinds := [.data, .pinned], laidTests := true, laidLooks := .later }
def TargetResolvesCardSaid : Prop := Claim7.holds Tryd.pinned (.plain (OpenSpec.ofChange targetResolvesSpec)) targetResolvesCard

/-- THE TIED CARD OF 'pannierlaw11.TargetInside'. -/
def targetInsideCard : Claim7 := { stood := { row := targetInsideRow, standIns := [], harness := (true, "929a51acb2ee95f963fcf852b1dfee4d0cdd70a504f9a1519c69e724821cd726"), looks := false }, kinds := [], alts := [], laidByText := true, laidKinds := [.data, .pinned], laidTests := true, laidLooks := .later }
def TargetInsideCardSaid : Prop := Claim7.holds Tryd.pinned (.plain (OpenSpec.ofChange targetInsideSpec)) targetInsideCard

/-- THE TIED CARD OF 'pannierlaw11.TargetBack'. -/
def targetBackCard : Claim7 := { stood := { row := targetBackRow, standIns := [], harness := (true, "929a51acb2ee95f963fcf852b1dfee4d0cdd70a504f9a1519c69e724821cd726"), looks := false }, kinds := [], alts := [], laidByText := true, laidKinds := [.data, .pinned], laidTests := true, laidLooks := .later }
def TargetBackCardSaid : Prop := Claim7.holds Tryd.pinned (.plain (OpenSpec.ofChange targetBackSpec)) targetBackCard

/-- THE TIED CARD OF 'pannierlaw11.TargetUps'. -/
def targetUpsCard : Claim7 := { stood := { row := targetUpsRow, standIns := [], harness := (true, "929a51acb2ee95f963fcf852b1dfee4d0cdd70a504f9a1519c69e724821cd726"), looks := false }, kinds := [], alts := [], laidByText := true, laidKinds := [.data, .pinned], laidTests := true, laidLooks := .later }
def TargetUpsCardSaid : Prop := Claim7.holds Tryd.pinned (.plain (OpenSpec.ofChange targetUpsSpec)) targetUpsCard

/-- THE TIED CARD OF 'pannierlaw11.TargetDown'. -/
def targetDownCard : Claim7 := { stood := { row := targetDownRow, standIns := [], harness := (true, "929a51acb2ee95f963fcf852b1dfee4d0cdd70a504f9a1519c69e724821cd726"), looks := false }, kinds := [], alts := [], laidByText := true, laidKinds := [.data, .pinned], laidTests := true, laidLooks := .later }
def TargetDownCardSaid : Prop := Claim7.holds Tryd.pinned (.plain (OpenSpec.ofChange targetDownSpec)) targetDownCard

/-- THE TIED CARD OF 'pannierlaw11.TargetShort'. -/
def targetShortCard : Claim7 := { stood := { row := targetShortRow, standIns := [], harness := (true, "929a51acb2ee95f963fcf852b1dfee4d0cdd70a504f9a1519c69e724821cd726"), looks := false }, kinds := [], alts := [], laidByText := true, laidKinds := [.data, .pinned], laidTests := true, laidLooks := .later }
def TargetShortCardSaid : Prop := Claim7.holds Tryd.pinned (.plain (OpenSpec.ofChange targetShortSpec)) targetShortCard

/-- THE TIED CARD OF 'pannierlaw10.PathUps'. -/
def pathUpsCard : Claim7 := { stood := { row := pathUpsRow, standIns := [], harness := (true, "929a51acb2ee95f963fcf852b1dfee4d0cdd70a504f9a1519c69e724821cd726"), looks := false }, kinds := [], alts := [], laidByText := true, laidKinds := [.data, .pinned], laidTests := true, laidLooks := .later }
def PathUpsCardSaid : Prop := Claim7.holds Tryd.pinned (.plain (OpenSpec.ofChange pathUpsSpec)) pathUpsCard

/-- THE TIED CARD OF 'panniertop.WholeInside'. -/
def wholeInsideCard : Claim7 := { stood := { row := wholeInsideRow, standIns := [], harness := (true, "929a51acb2ee95f963fcf852b1dfee4d0cdd70a504f9a1519c69e724821cd726"), looks := false }, kinds := [], alts := [], laidByText := true, laidKinds := [.data, .pinned], laidTests := true, laidLooks := .later }
def WholeInsideCardSaid : Prop := Claim7.holds Tryd.pinned (.plain (OpenSpec.ofChange wholeInsideSpec)) wholeInsideCard

/-- THE SECOND FORM's CARD OF 'pannierlaw10.PathCleans'. -/
def pathCleansUptoCard : Claim7 := { stood := { row := pathCleansUptoRow, standIns := [], harness := (true, "929a51acb2ee95f963fcf852b1dfee4d0cdd70a504f9a1519c69e724821cd726"), looks := false }, kinds := [], alts := [], laidByText := true, laidKinds := [.data, .pinned], laidTests := true, laidLooks := .later }
def PathCleansUptoCardSaid : Prop := Claim7.holds Tryd.pinned (.plain (OpenSpec.upto pathCleansSpec)) pathCleansUptoCard

/-- THE SECOND FORM's CARD OF 'pannierlaw10.PathOrder'. -/
def pathOrderUptoCard : Claim7 := { stood := { row := pathOrderUptoRow, standIns := [], harness := (true, "929a51acb2ee95f963fcf852b1dfee4d0cdd70a504f9a1519c69e724821cd726"), looks := false }, kinds := [], alts := [], laidByText := true, laidKinds := [.data, .pinned], laidTests := true, laidLooks := .later }
def PathOrderUptoCardSaid : Prop := Claim7.holds Tryd.pinned (.plain (OpenSpec.upto pathOrderSpec)) pathOrderUptoCard

/-- THE SECOND FORM's CARD OF 'pannierlaw10.PathSafe'. -/
def pathSafeUptoCard : Claim7 := { stood := { row := pathSafeUptoRow, standIns := [], harness := (true, "929a51acb2ee95f963fcf852b1dfee4d0cdd70a504f9a1519c69e724821cd726"), looks := false }, kinds := [], alts := [], laidByText := true, laidKinds := [.data, .pinned], laidTests := true, laidLooks := .later }
def PathSafeUptoCardSaid : Prop := Claim7.holds Tryd.pinned (.plain (OpenSpec.upto pathSafeSpec)) pathSafeUptoCard

/-- THE SECOND FORM's CARD OF 'pannierlaw10.PathDots'. -/
def pathDotsUptoCard : Claim7 := { stood := { row := pathDotsUptoRow, standIns := [], harness := (true, "929a51acb2ee95f963fcf852b1dfee4d0cdd70a504f9a1519c69e724821cd726"), looks := false }, kinds := [], alts := [], laidByText := true, laidKinds := [.data, .pinned], laidTests := true, laidLooks := .later }
def PathDotsUptoCardSaid : Prop := Claim7.holds Tryd.pinned (.plain (OpenSpec.upto pathDotsSpec)) pathDotsUptoCard

/-- THE SECOND FORM's CARD OF 'pannierlaw10.PathLong'. -/
def pathLongUptoCard : Claim7 := { stood := { row := pathLongUptoRow, standIns := [], harness := (true, "929a51acb2ee95f963fcf852b1dfee4d0cdd70a504f9a1519c69e724821cd726"), looks := false }, kinds := [], alts := [], laidByText := true, laidKinds := [.data, .pinned], laidTests := true, laidLooks := .later }
def PathLongUptoCardSaid : Prop := Claim7.holds Tryd.pinned (.plain (OpenSpec.upto pathLongSpec)) pathLongUptoCard

/-- THE SECOND FORM's CARD OF 'pannierlaw11.TargetResolves'. -/
def targetResolvesUptoCard : Claim7 := { stood := { row := targetResolvesUptoRow, standIns := [], harness := (true, "929a51acb2ee95f963fcf852b1dfee4d0cdd70a504f9a1519c69e724821cd726"), looks := false }, kinds := [], alts := [], laidByText := true, laidKinds := [.data, .pinned], laidTests := true, laidLooks := .later }
def TargetResolvesUptoCardSaid : Prop := Claim7.holds Tryd.pinned (.plain (OpenSpec.upto targetResolvesSpec)) targetResolvesUptoCard

/-- THE SECOND FORM's CARD OF 'pannierlaw11.TargetInside'. -/
def targetInsideUptoCard : Claim7 := { stood := { row := targetInsideUptoRow, standIns := [], harness := (true, "929a51acb2ee95f963fcf852b1dfee4d0cdd70a504f9a1519c69e724821cd726"), looks := false }, kinds := [], alts := [], laidByText := true, laidKinds := [.data, .pinned], laidTests := true, laidLooks := .later }
def TargetInsideUptoCardSaid : Prop := Claim7.holds Tryd.pinned (.plain (OpenSpec.upto targetInsideSpec)) targetInsideUptoCard

/-- THE SECOND FORM's CARD OF 'pannierlaw11.TargetBack'. -/
def targetBackUptoCard : Claim7 := { stood := { row := targetBackUptoRow, standIns := [], harness := (true, "929a51acb2ee95f963fcf852b1dfee4d0cdd70a504f9a1519c69e724821cd726"), looks := false }, kinds := [], alts := [], laidByText := true, laidKinds := [.data, .pinned], laidTests := true, laidLooks := .later }
def TargetBackUptoCardSaid : Prop := Claim7.holds Tryd.pinned (.plain (OpenSpec.upto targetBackSpec)) targetBackUptoCard

/-- THE SECOND FORM's CARD OF 'pannierlaw11.TargetUps'. -/
def targetUpsUptoCard : Claim7 := { stood := { row := targetUpsUptoRow, standIns := [], harness := (true, "929a51acb2ee95f963fcf852b1dfee4d0cdd70a504f9a1519c69e724821cd726"), looks := false }, kinds := [], alts := [], laidByText := true, laidKinds := [.data, .pinned], laidTests := true, laidLooks := .later }
def TargetUpsUptoCardSaid : Prop := Claim7.holds Tryd.pinned (.plain (OpenSpec.upto targetUpsSpec)) targetUpsUptoCard

/-- THE SECOND FORM's CARD OF 'pannierlaw11.TargetDown'. -/
def targetDownUptoCard : Claim7 := { stood := { row := targetDownUptoRow, standIns := [], harness := (true, "929a51acb2ee95f963fcf852b1dfee4d0cdd70a504f9a1519c69e724821cd726"), looks := false }, kinds := [], alts := [], laidByText := true, laidKinds := [.data, .pinned], laidTests := true, laidLooks := .later }
def TargetDownUptoCardSaid : Prop := Claim7.holds Tryd.pinned (.plain (OpenSpec.upto targetDownSpec)) targetDownUptoCard

/-- THE SECOND FORM's CARD OF 'pannierlaw11.TargetShort'. -/
def targetShortUptoCard : Claim7 := { stood := { row := targetShortUptoRow, standIns := [], harness := (true, "929a51acb2ee95f963fcf852b1dfee4d0cdd70a504f9a1519c69e724821cd726"), looks := false }, kinds := [], alts := [], laidByText := true, laidKinds := [.data, .pinned], laidTests := true, laidLooks := .later }
def TargetShortUptoCardSaid : Prop := Claim7.holds Tryd.pinned (.plain (OpenSpec.upto targetShortSpec)) targetShortUptoCard

/-- THE SECOND FORM's CARD OF 'pannierlaw10.PathUps'. -/
def pathUpsUptoCard : Claim7 := { stood := { row := pathUpsUptoRow, standIns := [], harness := (true, "929a51acb2ee95f963fcf852b1dfee4d0cdd70a504f9a1519c69e724821cd726"), looks := false }, kinds := [], alts := [], laidByText := true, laidKinds := [.data, .pinned], laidTests := true, laidLooks := .later }
def PathUpsUptoCardSaid : Prop := Claim7.holds Tryd.pinned (.plain (OpenSpec.upto pathUpsSpec)) pathUpsUptoCard

/-- THE SECOND FORM's CARD OF 'panniertop.WholeInside'. -/
def wholeInsideUptoCard : Claim7 := { stood := { row := wholeInsideUptoRow, standIns := [], harness := (true, "929a51acb2ee95f963fcf852b1dfee4d0cdd70a504f9a1519c69e724821cd726"), looks := false }, kinds := [], alts := [], laidByText := true, laidKinds := [.data, .pinned], laidTests := true, laidLooks := .later }
def WholeInsideUptoCardSaid : Prop := Claim7.holds Tryd.pinned (.plain (OpenSpec.upto wholeInsideSpec)) wholeInsideUptoCard
end Rows
end Go.Proofs.YtcfhijegmmdpkaaDoor
