/- UsageFits: whether a usage is within limits is so for each of its four numbers; of two together. -/
import Derived.Test.YtolpamojbiipaaaDoorUMeasures
import Derived.Test.YtolpamojbiipaaaDoorXA22
namespace Go.Proofs.YtolpamojbiipaaaDoor.Pure
open Go.RowKit Go.Proofs.YtolpamojbiipaaaDoor.XA Go.Proofs.YtolpamojbiipaaaDoorW.PrintWords Go.Proofs.YtolpamojbiipaaaDoorW.PrintLast Go.Proofs.YtolpamojbiipaaaDoorW.PrintMore
set_option linter.unusedSimpArgs false
set_option linter.unusedVariables false

theorem fits_is (a0 a1 a2 a3 b0 b1 b2 b3 b4 b5 b6 : Int) : usage_Usage_Fits.f a0 a1 a2 a3 b0 b1 b2 b3 b4 b5 b6 = some (decide (a0 ≤ b0 ∧ a1 ≤ b1 ∧ a2 ≤ b2 ∧ a3 ≤ b3)) := by
  unfold usage_Usage_Fits.f
  by_cases h0 : a0 ≤ b0 <;> by_cases h1 : a1 ≤ b1 <;> by_cases h2 : a2 ≤ b2 <;> by_cases h3 : a3 ≤ b3 <;> simp [h0, h1, h2, h3]
theorem mx_ge (a b : Int) : a ≤ mx a b ∧ b ≤ mx a b ∧ (mx a b = a ∨ mx a b = b) := by
  unfold mx
  split
  · omega
  · omega
theorem fits_j2 (k : Nat) (u0 u1 u2 u3 v0 v1 v2 v3 l0 l1 l2 l3 l4 l5 l6 p0 p1 p2 p3 : Int) (h0 : 0 ≤ u0) (h1 : 0 ≤ v0) (h2 : 0 ≤ u1) (h3 : 0 ≤ v1) (e0 : p0 = u0 + v0) (e1 : p1 = u1 + v1) (e2 : p2 = mx u2 v2) (e3 : p3 = mx u3 v3) :
    pannierlaw14_UsageFits.j2 (k + 1) (decide (u0 ≤ l0 ∧ u1 ≤ l1 ∧ u2 ≤ l2 ∧ u3 ≤ l3)) u0 u1 u2 u3 v0 v1 v2 v3 l0 l1 l2 l3 l4 l5 l6 p0 p1 p2 p3 = some true := by
  rw [pannierlaw14_UsageFits.j2]
  simp only [fits_is, Option.bind_some, beq_self_eq_true, if_true]
  have m2 := mx_ge u2 v2
  have m3 := mx_ge u3 v3
  by_cases hp : p0 ≤ l0 ∧ p1 ≤ l1 ∧ p2 ≤ l2 ∧ p3 ≤ l3
  · have hu : u0 ≤ l0 ∧ u1 ≤ l1 ∧ u2 ≤ l2 ∧ u3 ≤ l3 := by omega
    have hv : v0 ≤ l0 ∧ v1 ≤ l1 ∧ v2 ≤ l2 ∧ v3 ≤ l3 := by omega
    simp only [decide_eq_true hp, decide_eq_true hu, decide_eq_true hv, if_true]
  · simp only [decide_eq_false hp, Bool.false_eq_true, if_false]
theorem fits_j1 (k : Nat) (u0 u1 u2 u3 v0 v1 v2 v3 l0 l1 l2 l3 l4 l5 l6 p0 p1 p2 p3 : Int) (h0 : 0 ≤ u0) (h1 : 0 ≤ v0) (h2 : 0 ≤ u1) (h3 : 0 ≤ v1) (e0 : p0 = u0 + v0) (e1 : p1 = u1 + v1) (e2 : p2 = mx u2 v2) (e3 : p3 = mx u3 v3) :
    pannierlaw14_UsageFits.j1 (k + 2) false u0 u1 u2 u3 v0 v1 v2 v3 l0 l1 l2 l3 l4 l5 l6 p0 p1 p2 p3 = some true := by
  have hj := fits_j2 k u0 u1 u2 u3 v0 v1 v2 v3 l0 l1 l2 l3 l4 l5 l6 p0 p1 p2 p3 h0 h1 h2 h3 e0 e1 e2 e3
  rw [pannierlaw14_UsageFits.j1]
  simp only [Bool.false_eq_true, if_false]
  by_cases a0 : u0 ≤ l0
  · by_cases a1 : u1 ≤ l1
    · by_cases a2 : u2 ≤ l2
      · simp only [a0, a1, a2, if_true]
        simpa [a0, a1, a2] using hj
      · simp only [a0, a1, a2, if_true, if_false]
        simpa [a0, a1, a2] using hj
    · simp only [a0, a1, if_true, if_false]
      simpa [a0, a1] using hj
  · simp only [a0, if_false]
    simpa [a0] using hj
theorem fits_j0 (k : Nat) (x : Bool) (u0 u1 u2 u3 v0 v1 v2 v3 l0 l1 l2 l3 l4 l5 l6 : Int) (hx : x = false → 0 ≤ u0 ∧ 0 ≤ v0 ∧ 0 ≤ u1 ∧ 0 ≤ v1 ∧ u0 ≤ 1152921504606846976 ∧ v0 ≤ 1152921504606846976 ∧ u1 ≤ 1099511627776 ∧ v1 ≤ 1099511627776) :
    pannierlaw14_UsageFits.j0 (k + 3) x u0 u1 u2 u3 v0 v1 v2 v3 l0 l1 l2 l3 l4 l5 l6 = some true := by
  rw [pannierlaw14_UsageFits.j0]
  cases x with
  | true => simp
  | false =>
    obtain ⟨h0, h1, h2, h3, h4, h5, h6, h7⟩ := hx rfl
    have q0 : wrap64 (u0 + v0) = u0 + v0 := w64 (by omega) (by omega)
    have q1 : wrap64 (u1 + v1) = u1 + v1 := w64 (by omega) (by omega)
    have hj := fits_j1 k u0 u1 u2 u3 v0 v1 v2 v3 l0 l1 l2 l3 l4 l5 l6 (u0 + v0) (u1 + v1) (mx u2 v2) (mx u3 v3) h0 h1 h2 h3 rfl rfl rfl rfl
    have m2 := mx_ge u2 v2
    have b0 : (mx u3 v3 != mx u3 v3) = false := bne_self_eq_false _
    unfold usage_Usage_Plus.f
    simp only [Option.bind_some, Bool.false_eq_true, if_false, q0, q1, if_true, b0, if_neg (show ¬ (mx u2 v2 < u2) by omega), if_neg (show ¬ (mx u2 v2 < v2) by omega)]
    by_cases e : mx u2 v2 = u2
    · rw [if_pos e]; exact hj
    · rw [if_neg e, if_pos (by omega)]; exact hj
theorem UsageFits : pannierlaw14_UsageFits.Pure := by
  intro u0 u1 u2 u3 v0 v1 v2 v3 l0 l1 l2 l3 l4 l5 l6
  intros
  obtain ⟨q, hq⟩ := measures_ev
  refine ⟨q + 3, ?_⟩
  unfold pannierlaw14_UsageFits.f
  rw [show pannierlaw14_measures.f (q + 3) = some true from hq (q + 3) (by omega)]
  simp only [Option.bind_some, if_true]
  repeat' split
  all_goals refine fits_j0 q _ _ _ _ _ _ _ _ _ _ _ _ _ _ _ _ (fun h => ?_)
  all_goals first | cases h | (rw [decide_eq_false_iff_not] at h; omega)
end Go.Proofs.YtolpamojbiipaaaDoor.Pure
