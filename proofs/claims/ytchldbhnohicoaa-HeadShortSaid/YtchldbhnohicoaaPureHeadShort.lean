/- HeadShort: blocks of any length other than a header's are no headers, nor are blank ones. No conditions. -/
import Derived.Test.YtchldbhnohicoaaUCodes
import Derived.Test.YtchldbhnohicoaaXA16
namespace Go.Proofs.Ytchldbhnohicoaa.Pure
open Go.RowKit Go.Proofs.Ytchldbhnohicoaa.XA Go.Proofs.YtchldbhnohicoaaW.PrintWords Go.Proofs.YtchldbhnohicoaaW.PrintLast Go.Proofs.YtchldbhnohicoaaW.PrintMore
set_option linter.unusedSimpArgs false
set_option linter.unusedVariables false

theorem HeadShort : pannierlaw06_HeadShort.Pure := by
  intro l hl hl2 hw
  have hb := bytes_wf hw
  refine Ev.rounds (r := true) ?_
  unfold pannierlaw06_HeadShort.f
  refine ev_bind reads_ev ?_
  simp only [if_true]
  by_cases h : (l.length : Int) > 2000
  · simp only [h, if_true]
    exact ev_some _
  · simp only [h, if_false]
    refine ev_bind (decode_ev hb (by omega)) ?_
    rcases dec_code l with ⟨h5, hd⟩ | ⟨h5, hr, hd⟩ | ⟨h5, hr, hd⟩
    · simp only [show ¬ (l.length : Int) = 512 by omega, if_false, hd, dbad, if_true]
      refine ev_bind (blank_ev (l := l) (by omega)) ?_
      refine ev_eq (ev_some _) ?_
      simp [blankB, h5]
    · simp only [show (l.length : Int) = 512 by omega, if_true]
      refine ev_bind (blank_ev (l := l) (by omega)) ?_
      rw [hd]
      by_cases hz : blankB l = true
      · simp only [if_pos hz]
        exact ev_some _
      · simp only [if_neg hz]
        exact ev_some _
    · simp only [show (l.length : Int) = 512 by omega, if_true]
      refine ev_bind (blank_ev (l := l) (by omega)) ?_
      by_cases hz : blankB l = true
      · rw [blank_right hz] at hr
        cases hr
      · simp only [if_neg hz]
        refine ev_eq (ev_some _) ?_
        change (dcode (dec l) != 1) = true
        rcases hd with hd | hd <;> rw [hd] <;> rfl
end Go.Proofs.Ytchldbhnohicoaa.Pure
