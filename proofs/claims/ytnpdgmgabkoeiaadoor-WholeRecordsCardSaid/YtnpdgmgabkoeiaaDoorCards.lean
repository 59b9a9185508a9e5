/-
  DERIVED. GIVEN WITH THE SEED: THE CARDS: each row of YtnpdgmgabkoeiaaDoorRows.lean that lists a variable, with what it lists TIED to the program's text (the seventh form; the later family's looks); each row that meets fmt, with fmt's text TOLD by the authors' own Lean function (tested against real Go, not proved from fmt's source: count such statements apart). THE CARD IS WHAT COUNTS. Prove the row's statement (the work); the ties are given (YtnpdgmgabkoeiaaDoorTie.lean); close each card by the builder's one call (the guide's Derived/Test/ToyasCard.lean, 'card_holds'). Laid BY PROGRAM, IN A SANDBOX (cutbox-door.mjs). By AI agents, Wed Nov 11 2026. No macro, syntax, notation, axiom, sorry.
-/
import Derived.Test.YtnpdgmgabkoeiaaDoorRows
import GoSem.ClaimSeven
namespace Go.Proofs.YtnpdgmgabkoeiaaDoor
namespace Rows

/-- THE TIED CARD OF 'panniertop.WholeRecords'. -/
def wholeRecordsCard : Claim7 := { stood := { row := wholeRecordsRow, standIns := [], harness := (true, "e53805566cc3c0d39fa8b11d7848279880343899572c4c2c1411a22522e4b89c"), looks := true }, kinds := [], alts := [], laidByText := true, laidKinds := [.data, .data, .data, .sentinel, .sentinel], laidTests := true, laidLooks := .later }
def WholeRecordsCardSaid : Prop := Claim7.holds Tryd.pinned (.plain (OpenSpec.ofChange wholeRecordsSpec)) wholeRecordsCard

/-- THE SECOND FORM's CARD OF 'panniertop.WholeRecords'. -/
def wholeRecordsUptoCard : Claim7 := { stood := { row := wholeRecordsUptoRow, standIns := [], harness := (true, "e53805566cc3c0d39fa8b11d7848279880343899572c4c2c1411a22522e4b89c"), looks := true }, kinds := [], alts := [], laidByText := true, laidKinds := [.data, .data, .data, .sentinel, .sentinel], laidTests := true, laidLooks := .later }
def WholeRecordsUptoCardSaid : Prop := Claim7.holds Tryd.pinned (.plain (OpenSpec.upto wholeRecordsSpec)) wholeRecordsUptoCard
end Rows
end Go.Proofs.YtnpdgmgabkoeiaaDoor
