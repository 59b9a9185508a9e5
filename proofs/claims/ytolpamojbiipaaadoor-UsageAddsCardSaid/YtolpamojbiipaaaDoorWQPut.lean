-- Words for walks, as far as this seat's texts name them; laid by a program of this session (wip/tools/prune.py). Lean checks it.
import Derived.Test.YtolpamojbiipaaaDoorWWords
import Derived.Test.YtolpamojbiipaaaDoorWLast
namespace Go.Proofs.YtolpamojbiipaaaDoorW.PrintWords
open Go.RowKit
namespace Kd
section
variable {α : Type} {d : Kd α} {e base g o n cap : Nat} {ok okp : Nat → Prop} {w W : World} {v : Value} {xs : List α}
end
section
variable {α : Type} {enc : α → Value} {h1 : ∀ x, (enc x).oneCell' = true} {e base g o n cap : Nat} {ok : Nat → Prop} {W : World} {xs : List α}
end
end Kd
end Go.Proofs.YtolpamojbiipaaaDoorW.PrintWords
