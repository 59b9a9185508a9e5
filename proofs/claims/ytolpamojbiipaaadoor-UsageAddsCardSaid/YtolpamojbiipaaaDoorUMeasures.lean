/- The small head of layer 14's laws. -/
import Derived.Test.YtolpamojbiipaaaDoorUBase
import Derived.Test.YtolpamojbiipaaaDoorXA6
namespace Go.Proofs.YtolpamojbiipaaaDoor.Pure
open Go.RowKit Go.Proofs.YtolpamojbiipaaaDoor.XA Go.Proofs.YtolpamojbiipaaaDoorW.PrintWords Go.Proofs.YtolpamojbiipaaaDoorW.PrintLast Go.Proofs.YtolpamojbiipaaaDoorW.PrintMore
set_option linter.unusedSimpArgs false
set_option linter.unusedVariables false

theorem measures_ev : Ev (fun k => pannierlaw14_measures.f k) true :=
  ⟨3, fun k hk => by
    obtain ⟨q, rfl⟩ : ∃ q, k = q + 3 := ⟨k - 3, by omega⟩
    kernel_rfl⟩
end Go.Proofs.YtolpamojbiipaaaDoor.Pure
