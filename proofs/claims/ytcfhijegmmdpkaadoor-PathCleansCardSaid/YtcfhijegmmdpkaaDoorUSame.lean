/- The laws' own 'same': are two lists of texts alike? -/
import Derived.Test.YtcfhijegmmdpkaaDoorUClean
import Derived.Test.YtcfhijegmmdpkaaDoorXA5
namespace Go.Proofs.YtcfhijegmmdpkaaDoor.Pure
open Go.RowKit Go.Proofs.YtcfhijegmmdpkaaDoor.XA Go.Proofs.YtcfhijegmmdpkaaDoorW.PrintWords Go.Proofs.YtcfhijegmmdpkaaDoorW.PrintLast Go.Proofs.YtcfhijegmmdpkaaDoorW.PrintMore
set_option linter.unusedSimpArgs false
set_option linter.unusedVariables false

theorem same_l0 {x y : List (List UInt8)} (hx : x.length ≤ 1000001) (hl : x.length = y.length) : ∀ (xr yr : List (List UInt8)) (i : Nat), x.drop i = xr → y.drop i = yr → x.length = i + xr.length → y.length = i + yr.length →
    Ev (fun k => pannierlaw10_same.l0 k (x.map mkS) (y.map mkS) (x.length : Int) (i : Int)) (decide (xr = yr))
  | [], [], i, h1, h2, l1, l2 => by
    simp only [List.length_nil] at l1
    refine Ev.step (fun k => by rw [pannierlaw10_same.l0]) ?_
    simp only [show ¬ ((i : Int) < (x.length : Int)) by omega, if_false, decide_true]
    exact ev_some _
  | [], q :: t, i, h1, h2, l1, l2 => by
    simp only [List.length_nil, List.length_cons] at l1 l2
    omega
  | p :: r, [], i, h1, h2, l1, l2 => by
    simp only [List.length_nil, List.length_cons] at l1 l2
    omega
  | p :: r, q :: t, i, h1, h2, l1, l2 => by
    simp only [List.length_cons] at l1 l2
    refine Ev.step (fun k => by rw [pannierlaw10_same.l0]) ?_
    simp only [List.length_map, show (i : Int) < (x.length : Int) by omega, show (i : Int) < (y.length : Int) by omega, show (0 : Int) ≤ (i : Int) by omega, if_true, rd_map h1, rd_map h2, mk_toList]
    by_cases h : p = q
    · simp only [if_pos h, wnext (i := i) (by omega)]
      refine ev_eq (same_l0 hx hl r t (i + 1) (drop_next h1) (drop_next h2) (by omega) (by omega)) ?_
      simp [h]
    · simp only [if_neg h]
      refine ev_eq (ev_some _) ?_
      simp [h]
theorem same_ev {x y : List (List UInt8)} (hx : x.length ≤ 1000001) : Ev (fun k => pannierlaw10_same.f k (x.map mkS) (y.map mkS)) (decide (x = y)) := by
  unfold pannierlaw10_same.f
  simp only [List.length_map]
  by_cases h : x.length = y.length
  · simp only [show (x.length : Int) = (y.length : Int) by omega, if_true]
    have := same_l0 hx h x y 0 rfl rfl (by simp) (by simp)
    rw [h] at this
    exact this
  · simp only [show ¬ ((x.length : Int) = (y.length : Int)) by omega, if_false]
    refine ev_eq (ev_some _) ?_
    rw [decide_eq_false fun e => h (by rw [e])]
end Go.Proofs.YtcfhijegmmdpkaaDoor.Pure
