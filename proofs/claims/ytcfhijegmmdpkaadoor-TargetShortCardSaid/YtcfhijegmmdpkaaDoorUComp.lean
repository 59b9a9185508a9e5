/- What path.Compare, Under and the small heads of layer 10's laws answer. -/
import Derived.Test.YtcfhijegmmdpkaaDoorUClean
import Derived.Test.YtcfhijegmmdpkaaDoorXA3
namespace Go.Proofs.YtcfhijegmmdpkaaDoor.Pure
open Go.RowKit Go.Proofs.YtcfhijegmmdpkaaDoor.XA Go.Proofs.YtcfhijegmmdpkaaDoorW.PrintWords Go.Proofs.YtcfhijegmmdpkaaDoorW.PrintLast Go.Proofs.YtcfhijegmmdpkaaDoorW.PrintMore
set_option linter.unusedSimpArgs false
set_option linter.unusedVariables false

/-- The order of clean paths, part by part. -/
def cmpP : List (List UInt8) → List (List UInt8) → Int
  | [], y => -(y.length : Int)
  | p :: r, [] => ((p :: r).length : Int)
  | p :: r, q :: t => if Lib.compareBytes p q = 0 then cmpP r t else Lib.compareBytes p q
theorem cmpP_nil (x : List (List UInt8)) : cmpP x [] = (x.length : Int) := by cases x <;> simp [cmpP]
theorem compare_l0 {x y : List (List UInt8)} (hx : x.length ≤ 1000001) (hy : y.length ≤ 1000001) : ∀ (xr yr : List (List UInt8)) (i : Nat), x.drop i = xr → y.drop i = yr → x.length = i + xr.length → y.length = i + yr.length →
    Ev (fun k => path_Compare.l0 k (x.map mkS) (y.map mkS) (i : Int)) (cmpP xr yr)
  | [], yr, i, h1, h2, l1, l2 => by
    simp only [List.length_nil] at l1
    refine Ev.step (fun k => by rw [path_Compare.l0]) ?_
    simp only [List.length_map, show ¬ ((i : Int) < (x.length : Int)) by omega, if_false]
    refine Ev.step (fun k => by rw [path_Compare.j1]) ?_
    simp only [Bool.false_eq_true, if_false, List.length_map]
    refine ev_eq (ev_some _) ?_
    rw [w64 (by omega) (by omega), cmpP]
    omega
  | p :: r, [], i, h1, h2, l1, l2 => by
    simp only [List.length_nil, List.length_cons] at l1 l2
    refine Ev.step (fun k => by rw [path_Compare.l0]) ?_
    simp only [List.length_map, show ((i : Int) < (x.length : Int)) by omega, if_true, show ¬ ((i : Int) < (y.length : Int)) by omega, decide_false]
    refine Ev.step (fun k => by rw [path_Compare.j1]) ?_
    simp only [Bool.false_eq_true, if_false, List.length_map]
    refine ev_eq (ev_some _) ?_
    rw [w64 (by omega) (by omega), cmpP, List.length_cons]
    omega
  | p :: r, q :: t, i, h1, h2, l1, l2 => by
    simp only [List.length_cons] at l1 l2
    refine Ev.step (fun k => by rw [path_Compare.l0]) ?_
    simp only [List.length_map, show ((i : Int) < (x.length : Int)) by omega, if_true, show ((i : Int) < (y.length : Int)) by omega, decide_true]
    refine Ev.step (fun k => by rw [path_Compare.j1]) ?_
    simp only [if_true, List.length_map, show (0 : Int) ≤ (i : Int) by omega, show ((i : Int) < (x.length : Int)) by omega, show ((i : Int) < (y.length : Int)) by omega, rd_map h1, rd_map h2, strings_Compare.f, mkS_data, Option.bind_some]
    rw [cmpP]
    by_cases hc : Lib.compareBytes p q = 0
    · simp only [if_pos hc, wnext (i := i) (by omega)]
      exact compare_l0 hx hy r t (i + 1) (drop_next h1) (drop_next h2) (by omega) (by omega)
    · simp only [if_neg hc]
      exact ev_some _
theorem parts_len (l : List UInt8) : (partsS l).length ≤ l.length + 1 := by
  unfold partsS
  split
  · simp
  · exact cut_len l
theorem compare_ev {a b : List UInt8} (ha : a.length ≤ 1000000) (hb : b.length ≤ 1000000) : Ev (fun k => path_Compare.f k (mkS a) (mkS b)) (cmpP (partsS a) (partsS b)) := by
  unfold path_Compare.f
  have h1 := parts_len a
  have h2 := parts_len b
  simp only [parts_f (s := mkS a) (by rw [mk_size]; omega), parts_f (s := mkS b) (by rw [mk_size]; omega), mkS_data, Option.bind_some]
  exact compare_l0 (by omega) (by omega) _ _ 0 rfl rfl (by simp) (by simp)

/-- Does a clean path lie in another one, or is it that? -/
def underS (a b : List UInt8) : Bool := a == [] || (b == a || b.take (a.length + 1) == a ++ [47])
theorem mk_append (a b : List UInt8) : mkS a ++ mkS b = mkS (a ++ b) := by
  apply bl_inj
  rw [bl_append]
  simp [bl, mkS_data]
theorem mk_lit (l : Array UInt8) : (⟨l⟩ : ByteArray) = mkS l.toList := by simp [mkS]
theorem under_f {a b : List UInt8} (ha : a.length ≤ 9223372036854775806) : path_Under.f (mkS a) (mkS b) = some (underS a b) := by
  unfold path_Under.f underS
  simp only [mk_toList, mk_size]
  by_cases h1 : a = []
  · simp [h1]
  simp only [if_neg h1, beq_eq_false_iff_ne.2 h1, Bool.false_or]
  by_cases h2 : b = a
  · simp [h2]
  simp only [if_neg h2, beq_eq_false_iff_ne.2 h2, Bool.false_or, show a.length + 1 ≤ 9223372036854775807 by omega, if_true]
  unfold strings_HasPrefix.f stringslite_HasPrefix.f
  rw [mk_lit #[47], mk_append]
  simp only [mk_size, mk_toList, show (#[47] : Array UInt8).toList = [47] from rfl, List.length_append, List.length_cons, List.length_nil]
  by_cases h3 : a.length + 1 ≤ b.length
  · have e : ((mkS b).extract 0 (((a.length + (0 + 1) : Nat) : Int)).toNat).toList = b.take (a.length + 1) := by
      rw [toList_data, Lib.extract_from_zero, mkS_data]
      congr 1
    simp only [show ((b.length : Int) ≥ ((a.length + (0 + 1) : Nat) : Int)) by omega, show (0 : Int) ≤ ((a.length + (0 + 1) : Nat) : Int) by omega, show ((a.length + (0 + 1) : Nat) : Int) ≤ (b.length : Int) by omega, if_true, e, Option.bind_some]
  · have e : (b.take (a.length + 1) == a ++ [47]) = false := by
      refine beq_eq_false_iff_ne.2 fun e => ?_
      have := congrArg List.length e
      simp at this
      omega
    simp only [show ¬ ((b.length : Int) ≥ ((a.length + (0 + 1) : Nat) : Int)) by omega, if_false, e, Option.bind_some]

theorem cleans_ev : Ev (fun k => pannierlaw10_cleans.f k) true := by
  unfold pannierlaw10_cleans.f
  have e1 : cleanS [46, 47, 97, 47, 47, 98, 47] = ([[97], [98]], 0) := by decide +kernel
  have e2 : cleanS [97, 47, 46, 46, 47, 98] = ([], 104) := by decide +kernel
  refine ev_bind (clean_ev _) ?_
  rw [show (⟨#[46, 47, 97, 47, 47, 98, 47]⟩ : ByteArray).data.toList = [46, 47, 97, 47, 47, 98, 47] from rfl, e1]
  refine ev_bind (clean_ev _) ?_
  rw [show (⟨#[97, 47, 46, 46, 47, 98]⟩ : ByteArray).data.toList = [97, 47, 46, 46, 47, 98] from rfl, e2]
  simp only [encP, if_true, List.length_map, show (([[97], [98]] : List (List UInt8)).length : Int) = 2 from rfl]
  rw [join_f (ps := [[97], [98]]) (by decide) (by decide)]
  simp only [Option.bind_some, mk_toList, show joinS [[97], [98]] = [97, 47, 98] from rfl, if_true]
  rw [mk_lit #[97], mk_lit #[97, 47, 98], under_f (by decide)]
  have e3 : underS (#[97] : Array UInt8).toList (#[97, 47, 98] : Array UInt8).toList = true := by decide +kernel
  simp only [e3, Option.bind_some, if_true]
  refine ev_bind (compare_ev (by decide) (by decide)) ?_
  have e4 : decide (cmpP (partsS (#[97] : Array UInt8).toList) (partsS (#[97, 47, 98] : Array UInt8).toList) < 0) = true := by decide +kernel
  rw [e4]
  exact ev_some _
end Go.Proofs.YtcfhijegmmdpkaaDoor.Pure
