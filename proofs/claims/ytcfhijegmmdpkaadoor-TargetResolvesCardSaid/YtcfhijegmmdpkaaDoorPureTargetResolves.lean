/- TargetResolves: to what any raw name in any directory points, or why it mayn't, is the document's answer. Conditions: the library's two tables of UTF-8 as its text lays them (the card ties them). -/
import Derived.Test.YtcfhijegmmdpkaaDoorUTarget
import Derived.Test.YtcfhijegmmdpkaaDoorXA14
namespace Go.Proofs.YtcfhijegmmdpkaaDoor.Pure
open Go.RowKit Go.Proofs.YtcfhijegmmdpkaaDoor.XA Go.Proofs.YtcfhijegmmdpkaaDoorW.PrintWords Go.Proofs.YtcfhijegmmdpkaaDoorW.PrintLast Go.Proofs.YtcfhijegmmdpkaaDoorW.PrintMore
set_option linter.unusedSimpArgs false
set_option linter.unusedVariables false

theorem TargetResolves : pannierlaw11_TargetResolves.Pure := by
  intro s tg hs ht
  obtain ⟨l, rfl⟩ : ∃ l, tg = mkS l := ⟨tg.data.toList, (mkS_of tg).symm⟩
  refine Ev.rounds (r := true) ?_
  unfold pannierlaw11_TargetResolves.f
  refine ev_bind points_ev ?_
  simp only [if_true, mk_size]
  refine ev_bind (lclean_ev s) ?_
  have away : ∀ L M : ByteArray, Ev (fun k => pannierlaw11_TargetResolves.j0 k L M true) true := by
    intro L M
    refine Ev.step (fun k => by rw [pannierlaw11_TargetResolves.j0]) ?_
    simp only [if_true]
    exact ev_some _
  by_cases hc : (cleanS s.data.toList).2 = 0 ∧ s.size ≤ 1000
  · have hd := lclean_dir hc
    simp only [hc, and_self, decide_true, if_true]
    generalize (cleanS s.data.toList).1 = d at hd
    have hl := hd.len
    by_cases h1 : (l.length : Int) > 1000
    · simp only [h1, decide_true]
      exact away _ _
    simp only [h1, decide_false]
    refine Ev.step (fun k => by rw [pannierlaw11_TargetResolves.j0]) ?_
    simp only [Bool.false_eq_true, if_false]
    rw [resolve_f hd.good (by omega)]
    simp only [Option.bind_some]
    refine ev_bind (refresolve_ev hd l) ?_
    simp only [if_true, beq_self_eq_true]
    exact ev_some _
  · simp only [hc, decide_false, Bool.false_eq_true, if_false]
    exact away _ _
end Go.Proofs.YtcfhijegmmdpkaaDoor.Pure
