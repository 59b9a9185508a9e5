-- Words for walks, as far as this seat's texts name them; laid by a program of this session (wip/tools/prune.py). Lean checks it.
import Derived.Test.YtolpamojbiipaaaDoorWTab
namespace Go.Proofs.YtolpamojbiipaaaDoorW.PrintLast
section
variable {P : Program} {ops : Array Oper} {Q : Exit → Act → World → Prop} {md : Region.Mode} {S : World → Prop} {ds : List Nat} {T : Bool × List (List Nat × List Nat)}
end
end Go.Proofs.YtolpamojbiipaaaDoorW.PrintLast
