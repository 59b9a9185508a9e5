/- (*strings.Builder).WriteString: the library's contract, at a numbering given by hand (the shelf's own laying falls on types that only an unreached body names). -/
import Derived.Test.YtnpdgmgabkoeiaaDoorShelf
import Derived.Shelf.Strings.BuilderK
namespace Go.Proofs.YtnpdgmgabkoeiaaDoor.R
open Go.Shelf Go.RowKit

def renB : Ren := ⟨fun n => if n = 166 then 12 else if n = 240 then 20 else if n = 276 then 28 else 0,
  fun n => if n = 0 then 0 else if n = 3 then 3 else if n = 4 then 4 else if n = 5 then 5 else if n = 9 then 9 else if n = 20 then 20 else if n = 37 then 24 else if n = 70 then 41 else if n = 72 then 43 else if n = 75 then 45 else if n = 80 then 50 else if n = 164 then 62 else 0, fun _ => 0⟩
set_option maxRecDepth 100000 in
theorem laysB : Lays.n166 Tryd.prog renB := by
  constructor <;> first | kernel_rfl | (intro w; kernel_rfl)
theorem extraB : Builder.Extra Tryd.prog renB where
  sizeBuilder := by kernel_rfl
  liesBuilder := by kernel_rfl
  t5 := by kernel_rfl
  a5 := fun w => by kernel_rfl
  z5 := fun w => by kernel_rfl
  v5 := fun w => by kernel_rfl
  infoByte := by kernel_rfl
  cellsByte := by kernel_rfl
  sizeByte := by kernel_rfl
  neB5 := by decide
/-- WriteString: the builder's bytes are longer; all that is no builder's block and no row of bytes stands. -/
theorem write_c (B b : Nat) (bs : List Value) (s : ByteArray) (w : World) (h : Lib.IsBuilderF 43 5 B b bs w) (hlen : bs.length + s.size ≤ 140737488355328) (hBw : B ≤ w.heap.size) :
    Calls Tryd.prog 12 #[.pointer (some ⟨b, 0, none⟩), .string s] w fun e w' => e = .returned (.tuple #[.int .i64 s.size, .nilIface]) ∧ (Lib.BuilderAtF 43 5 B b (.pointer (some ⟨b, 0, none⟩)) (bs ++ Lib.strCells s) w' ∧ Below B w w' ∧ Lib.OthersKept 5 (some b) w w') :=
  Any.Builder_WriteString_k laysB extraB B b bs s w h hlen hBw
end Go.Proofs.YtnpdgmgabkoeiaaDoor.R
