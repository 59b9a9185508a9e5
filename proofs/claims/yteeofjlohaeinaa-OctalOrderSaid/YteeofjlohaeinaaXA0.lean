-- Written by a program of this session (wip/tools/xprint.py) out of the translation's print. Lean checks it.
import Derived.Test.YteeofjlohaeinaaProg
import Derived.Below
import Derived.Deep.Draws
import Derived.Deep.AppendLies
import Derived.Maps.AppendAt
import Derived.OwnWalk
import Derived.Laws.BytesArg
import Derived.Laws.MakeOwn
import Derived.Laws.OwnMore
import Derived.Deep.OwnRows
import Derived.Tactics
import Derived.Lib.ConvBytes
import Derived.Laws.Slices
import Derived.WalkKit
import Derived.KernelRfl
import Derived.RowKit3
import Derived.Deep.LoopGhost
import Derived.Deep.QuietTactic
import Derived.BigQuiet
import Derived.WideLaws
import Derived.Deep.DeepCutAuto
import Derived.Deep.CutBlock
import Derived.Deep.RegionHeld3
import Derived.Laws.Rows
import Derived.Lib.AppendStr
import Derived.ArgAppend
import Derived.Laws.IdiomCopy
import Derived.OrdersHeld
import Derived.Laws.BitsLemmas
import Derived.RowKit
import Derived.Test.YteeofjlohaeinaaWWords
import Derived.Test.YteeofjlohaeinaaWLast
import Derived.Test.YteeofjlohaeinaaWTab
import Derived.Test.YteeofjlohaeinaaWFour
import Derived.Test.YteeofjlohaeinaaWQPut
import Derived.Test.YteeofjlohaeinaaWApart
import Derived.Test.YteeofjlohaeinaaWArr
import Derived.Test.YteeofjlohaeinaaWZeros
import Derived.Test.YteeofjlohaeinaaWFoot
import Derived.Test.YteeofjlohaeinaaWKept
import Derived.Test.YteeofjlohaeinaaWShare
import Derived.Test.YteeofjlohaeinaaWN
import Derived.Test.YteeofjlohaeinaaWFootNe
import Derived.Test.YteeofjlohaeinaaWAt
import Derived.Test.YteeofjlohaeinaaWEqStruct
import Derived.Test.YteeofjlohaeinaaWRepsOne
import Derived.Test.YteeofjlohaeinaaWInv
import Derived.Test.YteeofjlohaeinaaWInvWords
import Derived.Test.YteeofjlohaeinaaWGuard
import Derived.Test.YteeofjlohaeinaaWNEv
import Derived.Test.YteeofjlohaeinaaWMore
namespace Go.Proofs.Yteeofjlohaeinaa.XA
open Go.RowKit Go.Proofs.YteeofjlohaeinaaW.PrintWords Go.Proofs.YteeofjlohaeinaaW.PrintLast Go.Proofs.YteeofjlohaeinaaW.PrintMore
attribute [local go_sem] max2_int min2_int max_two min_two max_three min_three max_four min_four   -- for this text's walks alone
set_option linter.unusedVariables false
set_option linter.unusedSimpArgs false



def errW : Option Int → Value
  | none => .nilIface
  | some c => .iface 0 (.int .i64 c)
theorem errW_none : errW none = .nilIface := rfl
theorem errW_some (c : Int) : errW (some c) = .iface 0 (.int .i64 c) := rfl

theorem info5 : (Try.prog.info? 5).map (fun i => (i.zero, i.size, i.bytes)) = some (some (.int .u8 0), 1, 1) := by kernel_rfl
-- the values' own types

end Go.Proofs.Yteeofjlohaeinaa.XA
