/- WholeInside: from a safe path, step by step along any names, one never stands outside; and each place is found again from each other one. Conditions: the library's two tables of UTF-8 as its text lays them (the card ties them). -/
import Derived.Test.YtcfhijegmmdpkaaDoorUBack
import Derived.Test.YtcfhijegmmdpkaaDoorXA21
namespace Go.Proofs.YtcfhijegmmdpkaaDoor.Pure
open Go.RowKit Go.Proofs.YtcfhijegmmdpkaaDoor.XA Go.Proofs.YtcfhijegmmdpkaaDoorW.PrintWords Go.Proofs.YtcfhijegmmdpkaaDoorW.PrintLast Go.Proofs.YtcfhijegmmdpkaaDoorW.PrintMore
set_option linter.unusedSimpArgs false
set_option linter.unusedVariables false

theorem whole_j3 {x y : List (List UInt8)} (hx : Dir x) (hg : ∀ p ∈ y, Good p) {L : List ByteArray} {n i : Int}
    (go : Dir y → Ev (fun k => panniertop_WholeInside.l0 k (mkS (joinS y)) L n (wrap64 (i + 1))) true) :
    Ev (fun k => panniertop_WholeInside.j3 k (mkS (joinS x)) (mkS (joinS y)) L n i) true := by
  refine Ev.step (fun k => by rw [panniertop_WholeInside.j3]) ?_
  simp only [mk_size]
  by_cases h1 : ((joinS y).length : Int) > 1000
  · simp only [h1, if_true]
    exact ev_some _
  · have hy : Dir y := ⟨hg, by omega⟩
    have lx := hx.len
    have ly := hy.len
    simp only [h1, if_false]
    refine ev_bind (relative_ev hy.good hx.good (by omega) (by omega)) ?_
    rw [resolve_f hy.good (by omega), res_back hy hx]
    simp only [Option.bind_some]
    refine ev_bind (relative_ev hx.good hy.good (by omega) (by omega)) ?_
    rw [resolve_f hx.good (by omega), res_back hx hy]
    simp only [Option.bind_some, if_true]
    rw [show (⟨#[]⟩ : ByteArray) = mkS [] from rfl, under_f (by simp)]
    simp only [show underS [] (joinS y) = true from rfl, Option.bind_some, if_true]
    exact go hy
theorem whole_l0 {ns : List (List UInt8)} (hn : ns.length ≤ 20) : ∀ (r : List (List UInt8)) (i : Nat) (x : List (List UInt8)), ns.drop i = r → Dir x →
    Ev (fun k => panniertop_WholeInside.l0 k (mkS (joinS x)) (ns.map mkS) (ns.length : Int) (i : Int)) true
  | [], i, x, h, hx => by
    have := drop_ge h
    refine Ev.step (fun k => by rw [panniertop_WholeInside.l0]) ?_
    simp only [show ¬ ((i : Int) < (ns.length : Int)) by omega, if_false]
    exact ev_some _
  | l :: r, i, x, h, hx => by
    have hlt := drop_lt h
    have lx := hx.len
    have wx := hx.weight
    have go := fun (y : List (List UInt8)) (hy : Dir y) => whole_l0 hn r (i + 1) y (drop_next h) hy
    refine Ev.step (fun k => by rw [panniertop_WholeInside.l0]) ?_
    simp only [List.length_map, show (i : Int) < (ns.length : Int) by omega, if_true, show (0 : Int) ≤ (i : Int) by omega, rd_map h, mk_size]
    by_cases h1 : (l.length : Int) > 100
    · simp only [h1, if_true]
      exact ev_some _
    simp only [h1, if_false]
    rw [resolve_f hx.good (by omega)]
    simp only [Option.bind_some, mk_toList]
    by_cases hr : (resS x l).2 = 0
    · have hg := res_good (l := l) hx.good
      have hw := res_weight (d := x) (l := l)
      simp only [hr, if_true]
      generalize (resS x l).1 = y at hg hw
      have hj := (weight_join y).1
      have hyl := weight_len y
      have next : Ev (fun k => panniertop_WholeInside.j3 k (mkS (joinS x)) (mkS (joinS y)) (ns.map mkS) (ns.length : Int) (i : Int)) true := by
        refine whole_j3 hx hg fun hy => ?_
        rw [wnext (i := i) (by omega)]
        exact go y hy
      by_cases h0 : y = []
      · subst h0
        simp only [show joinS [] = [] from rfl, if_true]
        exact next
      · simp only [join_ne hg h0, if_false]
        refine ev_bind (clean_ev _) ?_
        rw [mkS_data, clean_join hg h0 (by omega)]
        simp only [encP, if_true]
        rw [join_f (ps := y) (by omega) (by omega)]
        simp only [Option.bind_some, mk_toList, if_true]
        exact next
    · simp only [hr, if_false, res_bad hr, show joinS [] = [] from rfl, if_true, wnext (i := i) (by omega)]
      exact go x hx
theorem WholeInside : panniertop_WholeInside.Pure := by
  intro s L hs _ _
  obtain ⟨ns, rfl⟩ : ∃ ns, L = ns.map mkS := ⟨L.map (·.data.toList), by
    rw [List.map_map]
    conv => lhs; rw [← List.map_id L]
    exact List.map_congr_left fun x _ => (mkS_of x).symm⟩
  refine Ev.rounds (r := true) ?_
  unfold panniertop_WholeInside.f
  have e1 : (⟨#[97]⟩ : ByteArray) = mkS (joinS [[97]]) := rfl
  have e2 : (⟨#[46, 46, 47, 98]⟩ : ByteArray) = mkS [46, 46, 47, 98] := rfl
  have r1 : resS [[97]] [46, 46, 47, 98] = ([[98]], 0) := by decide +kernel
  rw [e1, e2, resolve_f (d := [[97]]) (by intro x hx; rw [List.mem_singleton.1 hx]; exact good_a) (by decide), r1]
  simp only [Option.bind_some, mk_toList, show joinS [[98]] = [98] from rfl, if_true, bne_self_eq_false]
  refine Ev.step (fun k => by rw [panniertop_WholeInside.j0]) ?_
  simp only [Bool.false_eq_true, if_false]
  refine ev_bind (clean_ev s) ?_
  have away : ∀ A B : List ByteArray, Ev (fun k => panniertop_WholeInside.j1 k A B true) true := by
    intro A B
    refine Ev.step (fun k => by rw [panniertop_WholeInside.j1]) ?_
    simp only [if_true]
    exact ev_some _
  by_cases hc : (cleanS s.data.toList).2 = 0
  · obtain ⟨e, hg, hl, hl2⟩ := clean_good hc
    have hsz := size_dl s
    have hnl := names_length s.data.toList
    simp only [encP, hc, if_true, e, List.length_map]
    by_cases h1 : (ns.length : Int) > 20
    · simp only [h1, if_true]
      exact away _ _
    simp only [h1, if_false]
    by_cases h2 : (s.size : Int) > 300
    · simp only [h2, decide_true]
      exact away _ _
    simp only [h2, decide_false]
    refine Ev.step (fun k => by rw [panniertop_WholeInside.j1]) ?_
    simp only [Bool.false_eq_true, if_false, List.length_map]
    rw [join_f (ps := names s.data.toList) (by omega) (by omega)]
    simp only [Option.bind_some]
    exact whole_l0 (by omega) ns 0 _ rfl ⟨hg, by omega⟩
  · simp only [encP, hc, if_false]
    exact away _ _
end Go.Proofs.YtcfhijegmmdpkaaDoor.Pure
