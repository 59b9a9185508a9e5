/- OctalParses: the number of any field of up to 200 bytes, or that it is none, is the document's answer; the statement holds for every field. No conditions. -/
import Derived.Test.YteeofjlohaeinaaURefParse
import Derived.Test.YteeofjlohaeinaaXA6
namespace Go.Proofs.Yteeofjlohaeinaa.Pure
open Go.RowKit Go.Proofs.Yteeofjlohaeinaa.XA Go.Proofs.YteeofjlohaeinaaW.PrintWords Go.Proofs.YteeofjlohaeinaaW.PrintLast Go.Proofs.YteeofjlohaeinaaW.PrintMore

theorem OctalParses : pannierlaw02_OctalParses.Pure := by
  intro l hl hl2 hw
  have hb := bytes_wf hw
  refine Ev.rounds (r := true) ?_
  unfold pannierlaw02_OctalParses.f pannierlaw02_reads.f
  simp only [Option.bind_some, if_true]
  by_cases h : (l.length : Int) > 200
  · simp only [h, if_true]
    exact ev_some _
  · simp only [h, if_false]
    refine ev_bind (parse_ev l hb (by omega)) ?_
    refine ev_bind (refparse_ev (s := strOfNums l) (by rw [strOfNums_size]; omega)) ?_
    rw [bl_strOfNums hb]
    simp only [if_true, beq_self_eq_true]
    exact ev_some _
end Go.Proofs.Yteeofjlohaeinaa.Pure
