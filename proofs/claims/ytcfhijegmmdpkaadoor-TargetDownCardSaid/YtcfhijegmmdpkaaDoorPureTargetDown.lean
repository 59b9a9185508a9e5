/- TargetDown: a clean path from the root is itself; from a directory it is that path in it. Conditions: the library's two tables of UTF-8 as its text lays them (the card ties them). -/
import Derived.Test.YtcfhijegmmdpkaaDoorUBack
import Derived.Test.YtcfhijegmmdpkaaDoorXA18
namespace Go.Proofs.YtcfhijegmmdpkaaDoor.Pure
open Go.RowKit Go.Proofs.YtcfhijegmmdpkaaDoor.XA Go.Proofs.YtcfhijegmmdpkaaDoorW.PrintWords Go.Proofs.YtcfhijegmmdpkaaDoorW.PrintLast Go.Proofs.YtcfhijegmmdpkaaDoorW.PrintMore
set_option linter.unusedSimpArgs false
set_option linter.unusedVariables false

theorem TargetDown : pannierlaw11_TargetDown.Pure := by
  intro s t hs ht
  refine Ev.rounds (r := true) ?_
  unfold pannierlaw11_TargetDown.f
  refine ev_bind points_ev ?_
  simp only [if_true]
  refine ev_bind (lclean_ev s) (ev_bind (lclean_ev t) ?_)
  have away : ∀ L M : ByteArray, Ev (fun k => pannierlaw11_TargetDown.j0 k L M true) true := by
    intro L M
    refine Ev.step (fun k => by rw [pannierlaw11_TargetDown.j0]) ?_
    simp only [if_true]
    exact ev_some _
  by_cases hc : (cleanS s.data.toList).2 = 0 ∧ s.size ≤ 1000
  · by_cases hc2 : (cleanS t.data.toList).2 = 0 ∧ t.size ≤ 1000
    · have hd := lclean_dir hc
      have he := lclean_dir hc2
      simp only [hc, hc2, and_self, decide_true, if_true]
      generalize (cleanS s.data.toList).1 = d at hd
      generalize (cleanS t.data.toList).1 = e at he
      have hl := hd.len
      have hl2 := he.len
      rw [mk_toList]
      by_cases h0 : e = []
      · subst h0
        rw [show (joinS [] == ([] : List UInt8)) = true from rfl]
        exact away _ _
      · have hne := join_ne he.good h0
        rw [beq_eq_false_iff_ne.2 hne]
        have hsd := join_sound he.good h0 (by omega)
        have hnm := names_join he.good h0
        have r1 : resS [] (joinS e) = (e, 0) := by rw [res_of hsd, hnm, steps_down he.good]; rfl
        have r2 : resS d (joinS e) = (d ++ e, 0) := by rw [res_of hsd, hnm, steps_down he.good]
        refine Ev.step (fun k => by rw [pannierlaw11_TargetDown.j0]) ?_
        simp only [Bool.false_eq_true, if_false]
        rw [show (⟨#[]⟩ : ByteArray) = mkS (joinS []) from rfl, resolve_f (d := []) (by intro p hp; cases hp) (by decide), resolve_f hd.good (by omega), r1, r2]
        simp only [Option.bind_some, mk_toList, mk_size, if_true, mk_lit #[47], mk_append, show (#[47] : Array UInt8).toList = [47] from rfl, List.length_append, List.length_cons, List.length_nil, show (joinS d).length + 1 ≤ 9223372036854775807 by omega, show (joinS d).length + (0 + 1) + (joinS e).length ≤ 9223372036854775807 by omega]
        by_cases d0 : d = []
        · subst d0
          simp only [show joinS [] = [] from rfl, if_true, List.nil_append, beq_self_eq_true]
          exact ev_some _
        · simp only [join_ne hd.good d0, if_false, join_append d0 h0, List.append_assoc, List.singleton_append, beq_self_eq_true]
          exact ev_some _
    · simp only [hc, hc2, and_self, decide_true, decide_false, if_true, Bool.false_eq_true, if_false]
      exact away _ _
  · simp only [hc, decide_false, Bool.false_eq_true, if_false]
    exact away _ _
end Go.Proofs.YtcfhijegmmdpkaaDoor.Pure
