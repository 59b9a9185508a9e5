/- target.Relative and target.Resolve among own boxes: from one path of a tree to another one, and back. -/
import Derived.Test.YtolpamojbiipaaaDoorEMemTree
import Derived.Test.YtolpamojbiipaaaDoorUBackT
namespace Go.Proofs.YtolpamojbiipaaaDoor.XA
open Go.RowKit Go.Proofs.YtolpamojbiipaaaDoorW.PrintWords Go.Proofs.YtolpamojbiipaaaDoorW.PrintLast Go.Proofs.YtolpamojbiipaaaDoorW.PrintMore Go.Proofs.YtolpamojbiipaaaDoor.Mem Go.Proofs.YtolpamojbiipaaaDoor.Pure
set_option linter.unusedVariables false
set_option linter.unusedSimpArgs false

variable {w0 W : World} {P : Nat → Prop} {B : List Bx} {S : World → Prop}
theorem rel_M {x y : Pth} (hx : Dir x) (hy : Dir y) (HM : Mem w0 P W B S) :
    Calls Tryd.prog 42 #[.string (mkS (joinS x)), .string (mkS (joinS y))] W fun e w' => e = .returned (.string (mkS (relS x y))) ∧ Mem w0 P w' B S := by
  obtain ⟨k, hk⟩ := relative_ev hx.good hy.good (by have := hx.len; omega) (by have := hy.len; omega)
  refine (target_Relative.calls k _ _ _ W (hk k (Nat.le_refl _))).mono ?_
  rintro e w' ⟨rfl, hb⟩
  exact ⟨rfl, HM.call hb⟩
theorem res_M (HG : GG w0) {x y : Pth} (hx : Dir x) (hy : Dir y) (HM : Mem w0 P W B S) :
    Calls Tryd.prog 41 #[.string (mkS (joinS x)), .string (mkS (relS x y))] W fun e w' => e = .returned (.tuple #[.string (mkS (joinS y)), .int .i64 0]) ∧ Mem w0 P w' B S := by
  have h := resolve_f (d := x) (l := relS x y) hx.good (by have := hx.len; omega)
  rw [res_back hx hy] at h
  refine (target_Resolve.calls _ _ _ _ W h (GG_below HG HM.below)).mono ?_
  rintro e w' ⟨rfl, hb⟩
  exact ⟨rfl, HM.call hb⟩
end Go.Proofs.YtolpamojbiipaaaDoor.XA
