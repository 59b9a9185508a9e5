/- HeadFulls: a header's whole name is its prefix, a slash and its name, or its name alone. No conditions. -/
import Derived.Test.YtchldbhnohicoaaUReads
import Derived.Test.YtchldbhnohicoaaXA16
namespace Go.Proofs.Ytchldbhnohicoaa.Pure
open Go.RowKit Go.Proofs.Ytchldbhnohicoaa.XA Go.Proofs.YtchldbhnohicoaaW.PrintWords Go.Proofs.YtchldbhnohicoaaW.PrintLast Go.Proofs.YtchldbhnohicoaaW.PrintMore
set_option linter.unusedSimpArgs false
set_option linter.unusedVariables false

theorem HeadFulls : pannierlaw06_HeadFulls.Pure := by
  intro a b ha hb
  refine Ev.rounds (r := true) ?_
  unfold pannierlaw06_HeadFulls.f
  refine ev_bind reads_ev ?_
  simp only [if_true]
  by_cases h : (a.size : Int) > 500
  · simp only [h, if_true]
    refine Ev.step (fun k => by rw [pannierlaw06_HeadFulls.j0]) ?_
    simp only [if_true]
    exact ev_some _
  · simp only [h, if_false]
    refine Ev.step (fun k => by rw [pannierlaw06_HeadFulls.j0]) ?_
    by_cases h2 : (b.size : Int) > 500
    · simp only [h2, decide_true, if_true]
      exact ev_some _
    · simp only [h2, decide_false, Bool.false_eq_true, if_false]
      have s1 : (a ++ (⟨#[47]⟩ : ByteArray)).size = a.size + 1 := by rw [ByteArray.size_append]; rfl
      by_cases he : a.toList = ([] : List UInt8)
      · simp only [if_pos he]
        unfold head_Header_Full.f
        simp only [if_pos he, Option.bind_some]
        exact ev_eq (ev_some _) (beq_self_eq_true _)
      · simp only [if_neg he]
        unfold head_Header_Full.f
        simp only [if_neg he, s1, show a.size + 1 ≤ 9223372036854775807 by omega, show a.size + 1 + b.size ≤ 9223372036854775807 by omega, if_true, Option.bind_some]
        exact ev_eq (ev_some _) (beq_self_eq_true _)
end Go.Proofs.Ytchldbhnohicoaa.Pure
