/- HeadReads: the header of any block, of whichever form, or why it is none, is the document's answer. No conditions. -/
import Derived.Test.YtchldbhnohicoaaURefDecode
import Derived.Test.YtchldbhnohicoaaXA14
namespace Go.Proofs.Ytchldbhnohicoaa.Pure
open Go.RowKit Go.Proofs.Ytchldbhnohicoaa.XA Go.Proofs.YtchldbhnohicoaaW.PrintWords Go.Proofs.YtchldbhnohicoaaW.PrintLast Go.Proofs.YtchldbhnohicoaaW.PrintMore
set_option linter.unusedSimpArgs false
set_option linter.unusedVariables false

theorem reads_l0 {l : List Int} (hb : Bytes l) (hl : l.length ≤ 1000000) (c : Int) (a0 : Int) (a1 a2 a3 a4 a5 : ByteArray) (a6 a7 a8 a9 a10 a11 : Int) :
    ∀ (rest : List Int) (i : Nat) (x : Bool), l.drop i = rest → (x && zeroB rest) = blankB l →
    Ev (fun k => pannierlaw06_HeadReads.l0 k l c c x l (l.length : Int) (i : Int) a0 a1 a2 a3 a4 a5 a6 a7 a8 a9 a10 a11 a0 a6 a1 a2 a3 a4 a5 a7 a8 a9 a10 a11) true
  | [], i, x, h, hx => by
    have := drop_ge h
    refine Ev.step (fun k => by rw [pannierlaw06_HeadReads.l0]) ?_
    simp only [show ¬ ((i : Int) < (l.length : Int)) by omega, if_false, if_true]
    unfold pannierlaw06_plain.f
    simp only [Option.bind_some, beq_self_eq_true, Bool.and_self, if_true]
    refine ev_bind (blank_ev hl) ?_
    refine ev_eq (ev_some _) ?_
    rw [← hx]
    simp [zeroB]
  | y :: ys, i, x, h, hx => by
    have hlt := drop_lt h
    refine Ev.step (fun k => by rw [pannierlaw06_HeadReads.l0]) ?_
    simp only [show (i : Int) < (l.length : Int) by omega, show (0 : Int) ≤ (i : Int) by omega, if_true, rd_drop h, wnext (i := i) (by omega)]
    cases x with
    | true =>
      simp only [if_true]
      refine reads_l0 hb hl c a0 a1 a2 a3 a4 a5 a6 a7 a8 a9 a10 a11 ys (i + 1) _ (drop_next h) ?_
      rw [← hx]
      simp [zeroB]
    | false =>
      simp only [Bool.false_eq_true, if_false]
      refine reads_l0 hb hl c a0 a1 a2 a3 a4 a5 a6 a7 a8 a9 a10 a11 ys (i + 1) _ (drop_next h) ?_
      rw [← hx]
      simp
theorem HeadReads : pannierlaw06_HeadReads.Pure := by
  intro l hl hl2 hw
  have hb := bytes_wf hw
  refine Ev.rounds (r := true) ?_
  unfold pannierlaw06_HeadReads.f
  refine ev_bind reads_ev ?_
  simp only [if_true]
  by_cases h : (l.length : Int) > 2000
  · simp only [h, if_true]
    exact ev_some _
  · simp only [h, if_false]
    refine ev_bind (decode_ev hb (by omega)) ?_
    refine ev_bind (refdecode_ev hb (by omega)) ?_
    have h5 : ((l.length : Int) == 512) = decide (l.length = 512) := by
      by_cases h5 : l.length = 512
      · simp [h5]
      · rw [decide_eq_false h5]
        simp only [beq_eq_false_iff_ne, ne_eq]
        omega
    exact reads_l0 hb (by omega) _ _ _ _ _ _ _ _ _ _ _ _ _ l 0 _ rfl (by rw [h5, blankB, Bool.and_comm])
end Go.Proofs.Ytchldbhnohicoaa.Pure
