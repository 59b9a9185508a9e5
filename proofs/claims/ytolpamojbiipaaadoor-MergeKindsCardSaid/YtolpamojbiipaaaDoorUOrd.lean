/- What path.Compare answers. -/
import Derived.Test.YtolpamojbiipaaaDoorUClean
import Derived.Test.YtolpamojbiipaaaDoorXA3
namespace Go.Proofs.YtolpamojbiipaaaDoor.Pure
open Go.RowKit Go.Proofs.YtolpamojbiipaaaDoor.XA Go.Proofs.YtolpamojbiipaaaDoorW.PrintWords Go.Proofs.YtolpamojbiipaaaDoorW.PrintLast Go.Proofs.YtolpamojbiipaaaDoorW.PrintMore
set_option linter.unusedSimpArgs false
set_option linter.unusedVariables false

/-- The order of clean paths, part by part. -/
def cmpP : List (List UInt8) → List (List UInt8) → Int
  | [], y => -(y.length : Int)
  | p :: r, [] => ((p :: r).length : Int)
  | p :: r, q :: t => if Lib.compareBytes p q = 0 then cmpP r t else Lib.compareBytes p q
theorem cmpP_nil (x : List (List UInt8)) : cmpP x [] = (x.length : Int) := by cases x <;> simp [cmpP]
theorem compare_l0 {x y : List (List UInt8)} (hx : x.length ≤ 1000001) (hy : y.length ≤ 1000001) : ∀ (xr yr : List (List UInt8)) (i : Nat), x.drop i = xr → y.drop i = yr → x.length = i + xr.length → y.length = i + yr.length →
    Ev (fun k => path_Compare.l0 k (x.map mkS) (y.map mkS) (i : Int)) (cmpP xr yr)
  | [], yr, i, h1, h2, l1, l2 => by
    simp only [List.length_nil] at l1
    refine Ev.step (fun k => by rw [path_Compare.l0]) ?_
    simp only [List.length_map, show ¬ ((i : Int) < (x.length : Int)) by omega, if_false]
    refine Ev.step (fun k => by rw [path_Compare.j1]) ?_
    simp only [Bool.false_eq_true, if_false, List.length_map]
    refine ev_eq (ev_some _) ?_
    rw [w64 (by omega) (by omega), cmpP]
    omega
  | p :: r, [], i, h1, h2, l1, l2 => by
    simp only [List.length_nil, List.length_cons] at l1 l2
    refine Ev.step (fun k => by rw [path_Compare.l0]) ?_
    simp only [List.length_map, show ((i : Int) < (x.length : Int)) by omega, if_true, show ¬ ((i : Int) < (y.length : Int)) by omega, decide_false]
    refine Ev.step (fun k => by rw [path_Compare.j1]) ?_
    simp only [Bool.false_eq_true, if_false, List.length_map]
    refine ev_eq (ev_some _) ?_
    rw [w64 (by omega) (by omega), cmpP, List.length_cons]
    omega
  | p :: r, q :: t, i, h1, h2, l1, l2 => by
    simp only [List.length_cons] at l1 l2
    refine Ev.step (fun k => by rw [path_Compare.l0]) ?_
    simp only [List.length_map, show ((i : Int) < (x.length : Int)) by omega, if_true, show ((i : Int) < (y.length : Int)) by omega, decide_true]
    refine Ev.step (fun k => by rw [path_Compare.j1]) ?_
    simp only [if_true, List.length_map, show (0 : Int) ≤ (i : Int) by omega, show ((i : Int) < (x.length : Int)) by omega, show ((i : Int) < (y.length : Int)) by omega, rd_map h1, rd_map h2, strings_Compare.f, mkS_data, Option.bind_some]
    rw [cmpP]
    by_cases hc : Lib.compareBytes p q = 0
    · simp only [if_pos hc, wnext (i := i) (by omega)]
      exact compare_l0 hx hy r t (i + 1) (drop_next h1) (drop_next h2) (by omega) (by omega)
    · simp only [if_neg hc]
      exact ev_some _
theorem parts_len (l : List UInt8) : (partsS l).length ≤ l.length + 1 := by
  unfold partsS
  split
  · simp
  · exact cut_len l
theorem compare_ev {a b : List UInt8} (ha : a.length ≤ 1000000) (hb : b.length ≤ 1000000) : Ev (fun k => path_Compare.f k (mkS a) (mkS b)) (cmpP (partsS a) (partsS b)) := by
  unfold path_Compare.f
  have h1 := parts_len a
  have h2 := parts_len b
  simp only [parts_f (s := mkS a) (by rw [mk_size]; omega), parts_f (s := mkS b) (by rw [mk_size]; omega), mkS_data, Option.bind_some]
  exact compare_l0 (by omega) (by omega) _ _ 0 rfl rfl (by simp) (by simp)

/-- Does a clean path lie in another one, or is it that? -/
def underS (a b : List UInt8) : Bool := a == [] || (b == a || b.take (a.length + 1) == a ++ [47])
end Go.Proofs.YtolpamojbiipaaaDoor.Pure
