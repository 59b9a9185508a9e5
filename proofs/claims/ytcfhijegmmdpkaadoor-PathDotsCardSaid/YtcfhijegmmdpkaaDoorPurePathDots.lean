/- PathDots: two dots as a part are never taken, wherever they stand; as a part of a part they are. Conditions: the library's two tables of UTF-8 as its text lays them (the card ties them). -/
import Derived.Test.YtcfhijegmmdpkaaDoorUComp
import Derived.Test.YtcfhijegmmdpkaaDoorXA12
namespace Go.Proofs.YtcfhijegmmdpkaaDoor.Pure
open Go.RowKit Go.Proofs.YtcfhijegmmdpkaaDoor.XA Go.Proofs.YtcfhijegmmdpkaaDoorW.PrintWords Go.Proofs.YtcfhijegmmdpkaaDoorW.PrintLast Go.Proofs.YtcfhijegmmdpkaaDoorW.PrintMore
set_option linter.unusedSimpArgs false
set_option linter.unusedVariables false

theorem names_slash (a b : List UInt8) : names (a ++ 47 :: b) = names a ++ names b := by
  unfold names
  rw [cutS_append, List.filter_append]
theorem names_any {n : List (List UInt8)} (h : ∀ p ∈ n, Good p) : names (joinS n) = n := by
  by_cases e : n = []
  · subst e; decide
  · exact names_join h e
theorem join_nul {n : List (List UInt8)} (h : ∀ p ∈ n, Good p) : (0 : UInt8) ∉ joinS n := fun hz => by
  rcases mem_joinS hz with h0 | ⟨p, hp, hz⟩
  · cases h0
  · exact (h p hp).nul hz
theorem join_valid {n : List (List UInt8)} (h : ∀ p ∈ n, Good p) : Lib.validD (joinS n) = true := valid_join n fun p hp => (h p hp).valid
theorem bad_append : ∀ {n m : List (List UInt8)}, (∀ p ∈ n, Good p) → bad (n ++ m) = bad m
  | [], _, _ => rfl
  | p :: r, m, h => by
    have hp := h p (List.mem_cons_self ..)
    rw [List.cons_append, bad, if_neg hp.dots, if_neg (by have := hp.len; omega)]
    exact bad_append fun q hq => h q (List.mem_cons_of_mem _ hq)
theorem clean_of {l : List UInt8} {n : List (List UInt8)} (hs : sound l = 0) (hn : names l = n) : cleanS l = if bad n = 0 then (n, 0) else ([], bad n) := by
  unfold cleanS
  rw [if_pos hs, hn]
theorem PathDots : pannierlaw10_PathDots.Pure := by
  intro s more hs hm
  refine Ev.rounds (r := true) ?_
  unfold pannierlaw10_PathDots.f
  refine ev_bind cleans_ev ?_
  simp only [if_true]
  refine ev_bind (clean_ev s) ?_
  have away : ∀ L : List ByteArray, Ev (fun k => pannierlaw10_PathDots.j0 k L true) true := by
    intro L
    refine Ev.step (fun k => by rw [pannierlaw10_PathDots.j0]) ?_
    simp only [if_true]
    exact ev_some _
  by_cases hc : (cleanS s.data.toList).2 = 0
  · obtain ⟨e, hg, hl, hl2⟩ := clean_good hc
    have hsz := size_dl s
    simp only [encP, hc, if_true, e]
    by_cases h1 : (s.size : Int) > 1000
    · simp only [h1, if_true]
      exact away _
    simp only [h1, if_false]
    by_cases h2 : (more.size : Int) > 100
    · simp only [h2, decide_true]
      exact away _
    simp only [h2, decide_false]
    generalize names s.data.toList = n at hg hl
    have hnl : n.length ≤ (joinS n).length + 1 := by
      by_cases e0 : n = []
      · subst e0; simp
      · have h3 := cut_len (joinS n)
        rwa [cutS_join e0 fun p hp => (hg p hp).slash] at h3
    refine Ev.step (fun k => by rw [pannierlaw10_PathDots.j0]) ?_
    simp only [Bool.false_eq_true, if_false]
    rw [join_f (ps := n) (by omega) (by omega)]
    have n0 := join_nul hg
    have nv := join_valid hg
    have nn := names_any hg
    have hlen : (joinS n).length ≤ 1000 := by omega
    generalize hj : joinS n = j at n0 nv nn hlen
    simp only [Option.bind_some, mk_size, mk_lit #[46, 46, 47], mk_lit #[46, 47], mk_lit #[47, 46, 46], mk_lit #[120, 46, 46, 121, 47], mk_append, show 3 + j.length ≤ 9223372036854775807 by omega, show 2 + j.length ≤ 9223372036854775807 by omega, show 5 + j.length ≤ 9223372036854775807 by omega, if_true]
    have c1 : cleanS ((#[46, 46, 47] : Array UInt8).toList ++ j) = ([], 104) := by
      rw [show (#[46, 46, 47] : Array UInt8).toList ++ j = [46, 46] ++ 47 :: j from rfl, clean_of (n := [46, 46] :: n) (sound_mk (by simp) (by simp; omega) (by simp; exact n0) (by rw [valid_slash, nv]; decide +kernel) (by simp)) (by rw [names_slash, nn]; rfl)]
      rfl
    have c2 : cleanS (((#[46, 47] : Array UInt8).toList ++ j) ++ (#[47, 46, 46] : Array UInt8).toList) = ([], 104) := by
      rw [show ((#[46, 47] : Array UInt8).toList ++ j) ++ (#[47, 46, 46] : Array UInt8).toList = [46] ++ 47 :: (j ++ 47 :: [46, 46]) by simp, clean_of (n := n ++ [[46, 46]]) (sound_mk (by simp) (by simp; omega) (by simp; exact n0) (by rw [valid_slash, valid_slash, nv]; decide +kernel) (by simp)) (by rw [names_slash, names_slash, nn]; rfl), bad_append hg]
      rfl
    have c3 : cleanS ((#[120, 46, 46, 121, 47] : Array UInt8).toList ++ j) = ([120, 46, 46, 121] :: n, 0) := by
      rw [show (#[120, 46, 46, 121, 47] : Array UInt8).toList ++ j = [120, 46, 46, 121] ++ 47 :: j from rfl, clean_of (n := [120, 46, 46, 121] :: n) (sound_mk (by simp) (by simp; omega) (by simp; exact n0) (by rw [valid_slash, nv]; decide +kernel) (by simp)) (by rw [names_slash, nn]; rfl)]
      have : bad ([120, 46, 46, 121] :: n) = 0 := by
        rw [bad, if_neg (by decide), if_neg (by decide)]
        exact bad_good hg
      rw [if_pos this]
    refine ev_bind (clean_ev _) ?_
    simp only [mkS_data, c1, show ((#[46, 47] : Array UInt8).toList ++ j).length + 3 ≤ 9223372036854775807 by simp; omega, if_true]
    refine ev_bind (clean_ev _) ?_
    simp only [mkS_data, c2]
    refine ev_bind (clean_ev _) ?_
    simp only [mkS_data, c3, encP, if_true]
    exact ev_some _
  · simp only [encP, hc, if_false]
    exact away _
end Go.Proofs.YtcfhijegmmdpkaaDoor.Pure
