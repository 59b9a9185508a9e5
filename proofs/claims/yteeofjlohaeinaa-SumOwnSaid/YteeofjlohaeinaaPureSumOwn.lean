/- SumOwn: a sealed header is another one, and sealed once more it is the same. No conditions. -/
import Derived.Test.YteeofjlohaeinaaUSum
import Derived.Test.YteeofjlohaeinaaXA16
namespace Go.Proofs.Yteeofjlohaeinaa.Pure
open Go.RowKit Go.Proofs.Yteeofjlohaeinaa.XA Go.Proofs.YteeofjlohaeinaaW.PrintWords Go.Proofs.YteeofjlohaeinaaW.PrintLast Go.Proofs.YteeofjlohaeinaaW.PrintMore
set_option linter.unusedSimpArgs false
set_option linter.unusedVariables false

theorem own_l0 {x0 x3 x6 : List Int} (h03 : x3 = x0) (hb6 : Bytes x6) (hb0 : Bytes x0) (h6 : x6.length = 512) (h0 : x0.length = 512) (hr : rightB x6 = true) (ht : total plainOne 0 x6 = total plainOne 0 x0) : ∀ (d i : Nat) (x4 : List Int), x4.length = 512 → i + d = 512 →
    Ev (fun k => pannierlaw05_SumOwn.l0 k x0 x3 x4 0 x6 0 512 (i : Int)) true
  | 0, i, x4, h4, hd => by
    refine Ev.step (fun k => by rw [pannierlaw05_SumOwn.l0]) ?_
    simp only [show ¬ ((i : Int) < 512) by omega, if_false, if_true, h03]
    refine ev_bind (right_ev hb6 (by omega)) ?_
    simp only [hr, if_true, plain_f hb6 (by omega), plain_f hb0 (by omega), Option.bind_some, ht, beq_self_eq_true]
    exact ev_some _
  | d + 1, i, x4, h4, hd => by
    refine Ev.step (fun k => by rw [pannierlaw05_SumOwn.l0]) ?_
    simp only [show ((i : Int) < 512) by omega, show (0 : Int) ≤ (i : Int) by omega, h4, show (i : Int) < ((512 : Nat) : Int) by omega, if_true, Int.toNat_natCast, wnext (i := i) (by omega)]
    exact own_l0 h03 hb6 hb0 h6 h0 hr ht d (i + 1) _ (by rw [List.length_set]; exact h4) (by omega)

theorem SumOwn : pannierlaw05_SumOwn.Pure := by
  intro l hl hl2 hw
  have hb := bytes_wf hw
  refine Ev.rounds (r := true) ?_
  unfold pannierlaw05_SumOwn.f
  refine ev_bind sums_ev ?_
  simp only [if_true]
  by_cases h : l.length = 512
  · have hs := sealed_length h
    have hsb := sealed_bytes hb
    have hsi : ((sealed l).length : Int) = 512 := by omega
    simp only [show ((l.length : Int) = 512) by omega, if_true, Option.bind_some, List.length_nil, show 0 + l.length < 140737488355328 by omega, List.nil_append, seal_f hb h, seal_f hsb hs, hsi]
    exact own_l0 rfl (sealed_bytes hsb) hb (sealed_length hs) h (sealed_right hsb hs) (by rw [sealed_total plainOne hs, sealed_total plainOne h]) 512 0 (sealed l) hs (by omega)
  · simp only [show ¬ ((l.length : Int) = 512) by omega, if_false]
    exact ev_some _
end Go.Proofs.Yteeofjlohaeinaa.Pure
