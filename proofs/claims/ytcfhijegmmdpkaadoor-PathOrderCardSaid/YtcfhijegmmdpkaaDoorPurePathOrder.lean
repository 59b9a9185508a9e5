/- PathOrder: the order of clean paths is the document's, and one; what lies in a directory stands behind it, ahead of all that doesn't. Conditions: the library's two tables of UTF-8 as its text lays them (the card ties them). -/
import Derived.Test.YtcfhijegmmdpkaaDoorURefSplit
import Derived.Test.YtcfhijegmmdpkaaDoorXA10
namespace Go.Proofs.YtcfhijegmmdpkaaDoor.Pure
open Go.RowKit Go.Proofs.YtcfhijegmmdpkaaDoor.XA Go.Proofs.YtcfhijegmmdpkaaDoorW.PrintWords Go.Proofs.YtcfhijegmmdpkaaDoorW.PrintLast Go.Proofs.YtcfhijegmmdpkaaDoorW.PrintMore
set_option linter.unusedSimpArgs false
set_option linter.unusedVariables false

theorem names_any2 {n : List (List UInt8)} (h : ∀ p ∈ n, Good p) : names (joinS n) = n := by
  by_cases e : n = []
  · subst e; decide
  · exact names_join h e
theorem order_end {x y z : List (List UInt8)} (hx : ∀ p ∈ x, Good p) (hy : ∀ p ∈ y, Good p) (hz : ∀ p ∈ z, Good p) (lx : (joinS x).length ≤ 4000) (ly : (joinS y).length ≤ 4000) (lz : (joinS z).length ≤ 4000) (a b c : ByteArray) :
    Ev (fun k => pannierlaw10_PathOrder.l0 k [a, b, c] 3 3 (mkS (joinS x)) (mkS (joinS y)) (mkS (joinS z))) true := by
  refine Ev.step (fun k => by rw [pannierlaw10_PathOrder.l0]) ?_
  simp only [Int.lt_irrefl, if_false]
  refine ev_bind (compare_ev (a := joinS x) (b := joinS y) (by omega) (by omega)) ?_
  refine ev_bind (compare_ev (a := joinS y) (b := joinS z) (by omega) (by omega)) ?_
  refine ev_bind (compare_ev (a := joinS x) (b := joinS z) (by omega) (by omega)) ?_
  refine ev_bind (less_ev (a := joinS x) (b := joinS y) (by omega) (by omega)) ?_
  rw [names_any2 hx, names_any2 hy, parts_join hx, parts_join hy, parts_join hz]
  simp only [bne_self_eq_false, Bool.false_eq_true, if_false, mk_toList]
  have e1 : ((cmpP x y == 0) != (joinS x == joinS y)) = false := by
    have : (cmpP x y == 0) = (joinS x == joinS y) := by
      rw [Bool.eq_iff_iff, beq_iff_eq, beq_iff_eq, cmp_zero]
      exact ⟨fun e => by rw [e], fun e => join_inj hx hy e⟩
    rw [this, bne_self_eq_false]
  simp only [e1, Bool.false_eq_true, if_false]
  refine ev_bind (compare_ev (a := joinS y) (b := joinS x) (by omega) (by omega)) ?_
  rw [parts_join hx, parts_join hy]
  have e2 : ((decide (cmpP y x < 0)) != (decide (cmpP x y > 0))) = false := by
    have hn := cmp_neg x y
    have : decide (cmpP y x < 0) = decide (cmpP x y > 0) := decide_eq_decide.2 (by omega)
    rw [this, bne_self_eq_false]
  simp only [e2, Bool.false_eq_true, if_false]
  have tail : Ev (fun k => pannierlaw10_PathOrder.j1 k (cmpP x y) (cmpP y z) false (mkS (joinS x)) (mkS (joinS y)) (mkS (joinS z))) true := by
    refine Ev.step (fun k => by rw [pannierlaw10_PathOrder.j1]) ?_
    simp only [Bool.false_eq_true, if_false]
    rw [under_f (a := joinS x) (b := joinS z) (by omega), under_f (a := joinS x) (b := joinS y) (by omega)]
    simp only [Option.bind_some]
    by_cases hu : underS (joinS x) (joinS z) = true
    · simp only [hu, if_true]
      by_cases h1 : cmpP x y < 0
      · simp only [h1, if_true]
        by_cases h2 : cmpP y z < 0
        · simp only [h2, if_true]
          refine ev_eq (ev_some _) ?_
          obtain ⟨t, rfl⟩ := (under_iff hx hz).1 hu
          exact (under_iff hx hy).2 (cmp_between (r := t) (by omega) (by omega))
        · simp only [h2, if_false]
          exact ev_some _
      · simp only [h1, if_false]
        exact ev_some _
    · simp only [hu, Bool.false_eq_true, if_false]
      exact ev_some _
  by_cases h1 : cmpP x y ≤ 0
  · simp only [h1, if_true]
    by_cases h2 : cmpP y z ≤ 0
    · simp only [h2, if_true]
      have := cmp_le_trans h1 h2
      rw [decide_eq_false (show ¬ (cmpP x z > 0) by omega)]
      exact tail
    · simp only [h2, if_false]
      exact tail
  · simp only [h1, if_false]
    exact tail
/-- One round: the text at a place, cleaned and joined. -/
theorem order_round {a b c s X Y Z : ByteArray} {i : Nat} (hi : i < 3) (hr : rdOf ByteArray.empty [a, b, c] (i : Int) = s)
    (go : ∀ n, (∀ p ∈ n, Good p) → (joinS n).length ≤ 4000 → Ev (fun k => if (i : Int) = 0 then pannierlaw10_PathOrder.l0 k [a, b, c] 3 (wrap64 ((i : Int) + 1)) (mkS (joinS n)) Y Z else if (i : Int) = 1 then pannierlaw10_PathOrder.l0 k [a, b, c] 3 (wrap64 ((i : Int) + 1)) X (mkS (joinS n)) Z else if (i : Int) = 2 then pannierlaw10_PathOrder.l0 k [a, b, c] 3 (wrap64 ((i : Int) + 1)) X Y (mkS (joinS n)) else none) true) :
    Ev (fun k => pannierlaw10_PathOrder.l0 k [a, b, c] 3 (i : Int) X Y Z) true := by
  refine Ev.step (fun k => by rw [pannierlaw10_PathOrder.l0]) ?_
  have hl : (([a, b, c] : List ByteArray).length : Int) = 3 := rfl
  simp only [hl, show (i : Int) < 3 by omega, if_true, show (0 : Int) ≤ (i : Int) by omega, hr]
  refine ev_bind (clean_ev s) ?_
  by_cases hc : (cleanS s.data.toList).2 = 0
  · obtain ⟨e, hg, hl, hl2⟩ := clean_good hc
    simp only [encP, hc, if_true, e]
    by_cases h1 : (s.size : Int) > 1000
    · simp only [h1, if_true]
      exact ev_some _
    simp only [h1, if_false]
    have hn := names_length s.data.toList
    rw [join_f (ps := names s.data.toList) (by omega) (by omega)]
    simp only [Option.bind_some]
    exact go _ hg (by omega)
  · simp only [encP, hc, if_false]
    exact ev_some _
theorem PathOrder : pannierlaw10_PathOrder.Pure := by
  intro a b c _ _ _
  refine Ev.rounds (r := true) ?_
  unfold pannierlaw10_PathOrder.f
  refine ev_bind cleans_ev ?_
  simp only [if_true, Option.bind_some]
  refine order_round (i := 0) (by omega) rfl fun x hx lx => ?_
  simp only [show (((0 : Nat) : Int)) = 0 from rfl, if_true, show wrap64 ((0 : Int) + 1) = ((1 : Nat) : Int) by rw [w64 (by omega) (by omega)]; rfl]
  refine order_round (i := 1) (by omega) rfl fun y hy ly => ?_
  simp only [show ¬ (((1 : Nat) : Int) = 0) by omega, show (((1 : Nat) : Int)) = 1 from rfl, if_true, if_false, show ¬ ((1 : Int) = 0) by omega, show wrap64 ((1 : Int) + 1) = ((2 : Nat) : Int) by rw [w64 (by omega) (by omega)]; rfl]
  refine order_round (i := 2) (by omega) rfl fun z hz lz => ?_
  simp only [show (((2 : Nat) : Int)) = 2 from rfl, if_true, if_false, show ¬ ((2 : Int) = 0) by omega, show ¬ ((2 : Int) = 1) by omega, show wrap64 ((2 : Int) + 1) = 3 by rw [w64 (by omega) (by omega)]; rfl]
  exact order_end hx hy hz lx ly lz a b c
end Go.Proofs.YtcfhijegmmdpkaaDoor.Pure
