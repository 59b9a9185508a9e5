-- Words for walks, as far as this seat's texts name them; laid by a program of this session (wip/tools/prune.py). Lean checks it.
import Derived.Test.YtolpamojbiipaaaDoorWInv
import Derived.Test.YtolpamojbiipaaaDoorWFootNe
namespace Go.Proofs.YtolpamojbiipaaaDoorW.PrintWords
open Go.RowKit
end Go.Proofs.YtolpamojbiipaaaDoorW.PrintWords
namespace Go.Proofs.YtolpamojbiipaaaDoorW.PrintLast
section
variable {ops : Array Oper} {a : Act} {o og : Oper} {g : Nat} {t : Tmp} {u : Bool}
end
end Go.Proofs.YtolpamojbiipaaaDoorW.PrintLast
