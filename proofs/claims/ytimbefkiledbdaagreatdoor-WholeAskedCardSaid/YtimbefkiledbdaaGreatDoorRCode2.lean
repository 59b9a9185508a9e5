/- fault.Code at an error's number in one place. -/
import Derived.Test.YtimbefkiledbdaaGreatDoorRCode
namespace Go.Proofs.YtimbefkiledbdaaGreatDoor.R
open Go.RowKit Go.Proofs.YtimbefkiledbdaaGreatDoorW.PrintWords Go.Proofs.YtimbefkiledbdaaGreatDoorW.PrintLast Go.Proofs.YtimbefkiledbdaaGreatDoorW.PrintMore Go.Proofs.YtimbefkiledbdaaGreatDoor.Mem
set_option linter.unusedVariables false
set_option linter.unusedSimpArgs false

set_option maxRecDepth 100000 in
theorem code_c (n p : Int) (w : World) (hG : GG w) : Calls Tryz.prog 5 #[errV n [p]] w fun e w' => e = .returned (.int .i64 n) ∧ Below w.heap.size w w' := by
  show Calls Tryz.prog 5 #[.iface 50 (.agg #[.int .i64 p, .iface 25 (.int .i64 n)])] w _
  have hg := (hG.below (below_alloc (Below.refl _ _) (.cells #[.int .i64 0] 25))).cell
  have hA := as_c n p ⟨w.heap.size, 0, none⟩ (.int .i64 0) (w.alloc (.cells #[.int .i64 0] 25)) hg (by simp) (by simp)
  clear hg hG
  go_enter Tryz.func5, Tryz.ntmps5
  go_wp2_with (first | (go_at_call 16; refine hA.mono ?_; rintro e w' ⟨rfl, rfl⟩))
  go_ret
  exact ⟨rfl, by repeat (first | exact Below.refl _ _ | refine below_alloc ?_ _)⟩
end Go.Proofs.YtimbefkiledbdaaGreatDoor.R
