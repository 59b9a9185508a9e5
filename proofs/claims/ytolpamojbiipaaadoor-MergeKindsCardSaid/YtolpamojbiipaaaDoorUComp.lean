/- What path.Under answers. -/
import Derived.Test.YtolpamojbiipaaaDoorUOrd
import Derived.Test.YtolpamojbiipaaaDoorXA11
namespace Go.Proofs.YtolpamojbiipaaaDoor.Pure
open Go.RowKit Go.Proofs.YtolpamojbiipaaaDoor.XA Go.Proofs.YtolpamojbiipaaaDoorW.PrintWords Go.Proofs.YtolpamojbiipaaaDoorW.PrintLast Go.Proofs.YtolpamojbiipaaaDoorW.PrintMore
set_option linter.unusedSimpArgs false
set_option linter.unusedVariables false

theorem mk_append (a b : List UInt8) : mkS a ++ mkS b = mkS (a ++ b) := by
  apply bl_inj
  rw [bl_append]
  simp [bl, mkS_data]
theorem mk_lit (l : Array UInt8) : (⟨l⟩ : ByteArray) = mkS l.toList := by simp [mkS]
theorem under_f {a b : List UInt8} (ha : a.length ≤ 9223372036854775806) : path_Under.f (mkS a) (mkS b) = some (underS a b) := by
  unfold path_Under.f underS
  simp only [mk_toList, mk_size]
  by_cases h1 : a = []
  · simp [h1]
  simp only [if_neg h1, beq_eq_false_iff_ne.2 h1, Bool.false_or]
  by_cases h2 : b = a
  · simp [h2]
  simp only [if_neg h2, beq_eq_false_iff_ne.2 h2, Bool.false_or, show a.length + 1 ≤ 9223372036854775807 by omega, if_true]
  unfold strings_HasPrefix.f stringslite_HasPrefix.f
  rw [mk_lit #[47], mk_append]
  simp only [mk_size, mk_toList, show (#[47] : Array UInt8).toList = [47] from rfl, List.length_append, List.length_cons, List.length_nil]
  by_cases h3 : a.length + 1 ≤ b.length
  · have e : ((mkS b).extract 0 (((a.length + (0 + 1) : Nat) : Int)).toNat).toList = b.take (a.length + 1) := by
      rw [toList_data, Lib.extract_from_zero, mkS_data]
      congr 1
    simp only [show ((b.length : Int) ≥ ((a.length + (0 + 1) : Nat) : Int)) by omega, show (0 : Int) ≤ ((a.length + (0 + 1) : Nat) : Int) by omega, show ((a.length + (0 + 1) : Nat) : Int) ≤ (b.length : Int) by omega, if_true, e, Option.bind_some]
  · have e : (b.take (a.length + 1) == a ++ [47]) = false := by
      refine beq_eq_false_iff_ne.2 fun e => ?_
      have := congrArg List.length e
      simp at this
      omega
    simp only [show ¬ ((b.length : Int) ≥ ((a.length + (0 + 1) : Nat) : Int)) by omega, if_false, e, Option.bind_some]
end Go.Proofs.YtolpamojbiipaaaDoor.Pure
