/- TargetInside: what a name points to is a safe path, or nothing; as often as it goes up it stays below the root. Conditions: the library's two tables of UTF-8 as its text lays them (the card ties them). -/
import Derived.Test.YtcfhijegmmdpkaaDoorUTarget
import Derived.Test.YtcfhijegmmdpkaaDoorXA15
namespace Go.Proofs.YtcfhijegmmdpkaaDoor.Pure
open Go.RowKit Go.Proofs.YtcfhijegmmdpkaaDoor.XA Go.Proofs.YtcfhijegmmdpkaaDoorW.PrintWords Go.Proofs.YtcfhijegmmdpkaaDoorW.PrintLast Go.Proofs.YtcfhijegmmdpkaaDoorW.PrintMore
set_option linter.unusedSimpArgs false
set_option linter.unusedVariables false

theorem inside_end {x : List (List UInt8)} (hg : ∀ p ∈ x, Good p) (hl : (joinS x).length ≤ 4000) {P : List ByteArray} {n i : Int} (hi : ¬ i < n) :
    Ev (fun k => pannierlaw11_TargetInside.l0 k (mkS (joinS x)) (x.length : Int) P n i) true := by
  refine Ev.step (fun k => by rw [pannierlaw11_TargetInside.l0]) ?_
  simp only [hi, if_false, mk_toList]
  by_cases h0 : x = []
  · subst h0
    simp only [show joinS [] = [] from rfl, if_true, List.length_nil]
    exact ev_some _
  · have h1 := join_ne hg h0
    have hw := (weight_join x).2 h0
    have hwl := weight_len x
    simp only [h1, if_false]
    refine ev_bind (clean_ev _) ?_
    rw [mkS_data, clean_join hg h0 hl]
    simp only [encP, if_true, List.length_map]
    rw [join_f (ps := x) (by omega) (by omega)]
    simp only [Option.bind_some, mk_toList, if_true, beq_self_eq_true]
    exact ev_some _
theorem inside_l0 {ps : List (List UInt8)} (hps : ps.length ≤ 1000001) {R : List (List UInt8)} (hg : ∀ p ∈ R, Good p) (hl : (joinS R).length ≤ 4000) : ∀ (r : List (List UInt8)) (i : Nat) (xs : List (List UInt8)), ps.drop i = r → steps xs r = (R, 0) → xs.length ≤ 1000001 + i →
    Ev (fun k => pannierlaw11_TargetInside.l0 k (mkS (joinS R)) (xs.length : Int) (ps.map mkS) (ps.length : Int) (i : Int)) true
  | [], i, xs, h, hs, hx => by
    have hge := drop_ge h
    rw [steps] at hs
    obtain rfl : xs = R := by injection hs
    exact inside_end hg hl (by omega)
  | p :: r, i, xs, h, hs, hx => by
    have hlt := drop_lt h
    rw [steps] at hs
    refine Ev.step (fun k => by rw [pannierlaw11_TargetInside.l0]) ?_
    simp only [List.length_map, show (i : Int) < (ps.length : Int) by omega, if_true, show (0 : Int) ≤ (i : Int) by omega, rd_map h, mk_toList, wnext (i := i) (by omega)]
    by_cases h1 : p = [46, 46]
    · rw [if_pos h1] at hs
      by_cases h2 : xs = []
      · rw [if_pos h2] at hs
        injection hs with _ hs
        exact absurd hs (by omega)
      · rw [if_neg h2] at hs
        have hp := List.length_pos_iff.2 h2
        simp only [if_pos h1, show wrap64 ((xs.length : Int) - 1) = (xs.dropLast.length : Int) by rw [w64 (by omega) (by omega), List.length_dropLast]; omega, show ¬ ((xs.dropLast.length : Int) < 0) by omega, if_false]
        exact inside_l0 hps hg hl r (i + 1) xs.dropLast (drop_next h) hs (by rw [List.length_dropLast]; omega)
    · rw [if_neg h1] at hs
      by_cases h2 : 255 < p.length
      · rw [if_pos h2] at hs
        injection hs with _ hs
        exact absurd hs (by omega)
      · rw [if_neg h2] at hs
        simp only [if_neg h1, show wrap64 ((xs.length : Int) + 1) = ((xs ++ [p]).length : Int) by rw [w64 (by omega) (by omega)]; simp, show ¬ (((xs ++ [p]).length : Int) < 0) by omega, if_false]
        exact inside_l0 hps hg hl r (i + 1) (xs ++ [p]) (drop_next h) hs (by simp; omega)
theorem TargetInside : pannierlaw11_TargetInside.Pure := by
  intro s tg hs ht
  obtain ⟨l, rfl⟩ : ∃ l, tg = mkS l := ⟨tg.data.toList, (mkS_of tg).symm⟩
  refine Ev.rounds (r := true) ?_
  unfold pannierlaw11_TargetInside.f
  refine ev_bind points_ev ?_
  simp only [if_true, mk_size]
  refine ev_bind (lclean_ev s) ?_
  have away : ∀ L M : ByteArray, Ev (fun k => pannierlaw11_TargetInside.j0 k L M true) true := by
    intro L M
    refine Ev.step (fun k => by rw [pannierlaw11_TargetInside.j0]) ?_
    simp only [if_true]
    exact ev_some _
  by_cases hc : (cleanS s.data.toList).2 = 0 ∧ s.size ≤ 1000
  · have hd := lclean_dir hc
    simp only [hc, and_self, decide_true, if_true]
    generalize (cleanS s.data.toList).1 = d at hd
    have hl := hd.len
    have hw := hd.weight
    have hdl := weight_len d
    by_cases h1 : (l.length : Int) > 1000
    · simp only [h1, decide_true]
      exact away _ _
    simp only [h1, decide_false]
    refine Ev.step (fun k => by rw [pannierlaw11_TargetInside.j0]) ?_
    simp only [Bool.false_eq_true, if_false]
    rw [resolve_f hd.good (by omega)]
    simp only [Option.bind_some]
    by_cases hr : (resS d l).2 = 0
    · obtain ⟨hsd, he⟩ := res_ok hr
      have hrw := res_weight (d := d) (l := l)
      have hrj := (weight_join (resS d l).1).1
      have hrg := res_good (l := l) hd.good
      have hn := names_length l
      simp only [hr, if_true]
      rw [parts_f (s := mkS (joinS d)) (by rw [mk_size]; omega), mkS_data, parts_join hd.good]
      simp only [Option.bind_some, List.length_map]
      refine ev_bind (refsplit_ev (l := l) (by omega)) ?_
      rw [List.length_map]
      refine inside_l0 (by omega) hrg (by omega) (names l) 0 d rfl ?_ (by omega)
      rw [← he]
      exact Prod.ext rfl hr
    · simp only [hr, if_false, res_bad hr, mk_toList, show joinS [] = [] from rfl, beq_self_eq_true]
      exact ev_some _
  · simp only [hc, decide_false, Bool.false_eq_true, if_false]
    exact away _ _
end Go.Proofs.YtcfhijegmmdpkaaDoor.Pure
