/-
  DERIVED. GIVEN WITH THE SEED: THE CARDS: each row of YtimbefkiledbdaaGreatDoorRows.lean that lists a variable, with what it lists TIED to the program's text (the seventh form; the later family's looks); each row that meets fmt, with fmt's text TOLD by the authors' own Lean function (tested against real Go, not proved from fmt's source: count such statements apart). THE CARD IS WHAT COUNTS. Prove the row's statement (the work); the ties are given (YtimbefkiledbdaaGreatDoorTie.lean); close each card by the builder's one call (the guide's Derived/Test/ToyasCard.lean, 'card_holds'). Laid BY PROGRAM, IN A SANDBOX (cutbox-door.mjs). By AI agents, Wed Nov 11 2026. No macro, syntax, notation, axiom, sorry.
-/
import Derived.Test.YtimbefkiledbdaaGreatDoorRows
import GoSem.ClaimSeven
namespace Go.Proofs.YtimbefkiledbdaaGreatDoor
namespace Rows

/-- THE TIED CARD OF 'panniertop.WholeAsked'. -/
def wholeAskedCard : Claim7 := { stood := { row := wholeAskedRow, standIns := [], harness := (true, "ab0c9ad6a6f959b65b9c76813950ab509687babbd8f430695d3a1e9cb13605b6"), looks := true }, kinds := [], alts := [], laidByText := true, laidKinds := [.data, .data, .data, .data, .handle, .sentinel, .sentinel, .pinned], laidTests := true, laidLooks := .later }
def WholeAskedCardSaid : Prop := Claim7.holds Tryz.pinned (.plain (OpenSpec.ofChange wholeAskedSpec)) wholeAskedCard

/-- THE SECOND FORM's CARD OF 'panniertop.WholeAsked'. -/
def wholeAskedUptoCard : Claim7 := { stood := { row := wholeAskedUptoRow, standIns := [], harness := (true, "ab0c9ad6a6f959b65b9c76813950ab509687babbd8f430695d3a1e9cb13605b6"), looks := true }, kinds := [], alts := [], laidByText := true, laidKinds := [.data, .data, .data, .data, .handle, .sentinel, .sentinel, .pinned], laidTests := true, laidLooks := .later }
def WholeAskedUptoCardSaid : Prop := Claim7.holds Tryz.pinned (.plain (OpenSpec.upto wholeAskedSpec)) wholeAskedUptoCard
end Rows
end Go.Proofs.YtimbefkiledbdaaGreatDoor
