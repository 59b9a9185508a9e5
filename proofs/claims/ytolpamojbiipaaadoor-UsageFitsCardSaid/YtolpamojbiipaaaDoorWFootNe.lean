-- Words for walks, as far as this seat's texts name them; laid by a program of this session (wip/tools/prune.py). Lean checks it.
import Derived.Test.YtolpamojbiipaaaDoorWN
namespace Go.Proofs.YtolpamojbiipaaaDoorW.PrintWords
open Go.RowKit
namespace Kd
section
variable {α : Type} {d : Kd α} {W : World} {g n : Nat} {S ok : Nat → Prop} {A : Option Addr} {ad : Addr} {xs : List α}
end
end Kd
end Go.Proofs.YtolpamojbiipaaaDoorW.PrintWords
