/- TargetBack: a path that is named from a directory is found from there again, whatever both are. Conditions: the library's two tables of UTF-8 as its text lays them (the card ties them). -/
import Derived.Test.YtcfhijegmmdpkaaDoorUBack
import Derived.Test.YtcfhijegmmdpkaaDoorXA16
namespace Go.Proofs.YtcfhijegmmdpkaaDoor.Pure
open Go.RowKit Go.Proofs.YtcfhijegmmdpkaaDoor.XA Go.Proofs.YtcfhijegmmdpkaaDoorW.PrintWords Go.Proofs.YtcfhijegmmdpkaaDoorW.PrintLast Go.Proofs.YtcfhijegmmdpkaaDoorW.PrintMore
set_option linter.unusedSimpArgs false
set_option linter.unusedVariables false

theorem TargetBack : pannierlaw11_TargetBack.Pure := by
  intro s t hs ht
  refine Ev.rounds (r := true) ?_
  unfold pannierlaw11_TargetBack.f
  refine ev_bind points_ev ?_
  simp only [if_true]
  refine ev_bind (lclean_ev s) (ev_bind (lclean_ev t) ?_)
  have away : ∀ L M : ByteArray, Ev (fun k => pannierlaw11_TargetBack.j0 k L M true) true := by
    intro L M
    refine Ev.step (fun k => by rw [pannierlaw11_TargetBack.j0]) ?_
    simp only [if_true]
    exact ev_some _
  by_cases hc : (cleanS s.data.toList).2 = 0 ∧ s.size ≤ 1000
  · by_cases hc2 : (cleanS t.data.toList).2 = 0 ∧ t.size ≤ 1000
    · have hd := lclean_dir hc
      have he := lclean_dir hc2
      simp only [hc, hc2, and_self, decide_true, if_true, Bool.not_true]
      generalize (cleanS s.data.toList).1 = d at hd
      generalize (cleanS t.data.toList).1 = e at he
      have hl := hd.len
      have hl2 := he.len
      refine Ev.step (fun k => by rw [pannierlaw11_TargetBack.j0]) ?_
      simp only [Bool.false_eq_true, if_false]
      refine ev_bind (relative_ev hd.good he.good (by omega) (by omega)) ?_
      rw [resolve_f hd.good (by omega), res_back hd he]
      simp only [Option.bind_some, if_true, mk_toList]
      refine ev_eq (ev_some _) ?_
      exact bne_iff_ne.2 (rel_ne hd he)
    · simp only [hc, hc2, and_self, decide_true, decide_false, if_true, Bool.not_false]
      exact away _ _
  · simp only [hc, decide_false, Bool.false_eq_true, if_false]
    exact away _ _
end Go.Proofs.YtcfhijegmmdpkaaDoor.Pure
