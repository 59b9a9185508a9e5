/- PathCleans: the parts of any raw text, or why it is no safe path, are the document's; cleaned they are the same once more. Conditions: the library's two tables of UTF-8 as its text lays them (the card ties them). -/
import Derived.Test.YtcfhijegmmdpkaaDoorURefSplit
import Derived.Test.YtcfhijegmmdpkaaDoorURefSound
import Derived.Test.YtcfhijegmmdpkaaDoorUSame
import Derived.Test.YtcfhijegmmdpkaaDoorXA5
import Derived.Test.YtcfhijegmmdpkaaDoorXA9
namespace Go.Proofs.YtcfhijegmmdpkaaDoor.Pure
open Go.RowKit Go.Proofs.YtcfhijegmmdpkaaDoor.XA Go.Proofs.YtcfhijegmmdpkaaDoorW.PrintWords Go.Proofs.YtcfhijegmmdpkaaDoorW.PrintLast Go.Proofs.YtcfhijegmmdpkaaDoorW.PrintMore
set_option linter.unusedSimpArgs false
set_option linter.unusedVariables false

theorem refclean_l0 {x : List (List UInt8)} (hx : x.length ≤ 1000001) : ∀ (r : List (List UInt8)) (i : Nat), x.drop i = r →
    Ev (fun k => pannierref10_Clean.l0 k (x.map mkS) (i : Int)) (encP (if bad r = 0 then (x, 0) else ([], bad r)))
  | [], i, h => by
    have := drop_ge h
    refine Ev.step (fun k => by rw [pannierref10_Clean.l0]) ?_
    simp only [List.length_map, show ¬ ((i : Int) < (x.length : Int)) by omega, if_false]
    exact ev_some _
  | p :: r, i, h => by
    have hlt := drop_lt h
    refine Ev.step (fun k => by rw [pannierref10_Clean.l0]) ?_
    simp only [List.length_map, show (i : Int) < (x.length : Int) by omega, if_true, show (0 : Int) ≤ (i : Int) by omega, rd_map h, mk_toList, mk_size, wnext (i := i) (by omega)]
    by_cases h1 : p = [46, 46]
    · simp only [if_pos h1]
      have : bad (p :: r) = 104 := by rw [bad, if_pos h1]
      rw [this]
      exact ev_some _
    simp only [if_neg h1]
    by_cases h2 : 255 < p.length
    · simp only [show (p.length : Int) > 255 by omega, if_true]
      have : bad (p :: r) = 2 := by rw [bad, if_neg h1, if_pos h2]
      rw [this]
      exact ev_some _
    simp only [show ¬ ((p.length : Int) > 255) by omega, if_false]
    have : bad (p :: r) = bad r := by rw [bad, if_neg h1, if_neg h2]
    rw [this]
    exact refclean_l0 hx r (i + 1) (drop_next h)
theorem refclean_ev (l : List UInt8) : Ev (fun k => pannierref10_Clean.f k (mkS l)) (encP (cleanS l)) := by
  unfold pannierref10_Clean.f cleanS
  refine ev_bind (refsound_ev l) ?_
  by_cases h : sound l = 0
  · have hl := (sound_le h).2.1
    have hn := names_length l
    simp only [h, if_true]
    refine ev_bind (refsplit_ev (l := l) (by omega)) ?_
    exact refclean_l0 (by omega) (names l) 0 rfl
  · simp only [h, if_false]
    exact ev_some _
theorem clean_len (l : List UInt8) : (cleanS l).1.length ≤ 4001 := by
  by_cases h : (cleanS l).2 = 0
  · obtain ⟨e, _, _, hl⟩ := clean_good h
    rw [e]
    have := names_length l
    omega
  · rw [clean_bad h]; simp
theorem PathCleans : pannierlaw10_PathCleans.Pure := by
  intro s hs
  obtain ⟨l, rfl⟩ : ∃ l, s = mkS l := ⟨s.data.toList, (mkS_of s).symm⟩
  refine Ev.rounds (r := true) ?_
  unfold pannierlaw10_PathCleans.f
  refine ev_bind cleans_ev ?_
  simp only [if_true, mk_size]
  by_cases h5 : (l.length : Int) > 5000
  · simp only [h5, if_true]
    exact ev_some _
  simp only [h5, if_false]
  have hcl := clean_len l
  refine ev_bind (clean_ev _) ?_
  rw [mkS_data]
  refine ev_bind (refclean_ev l) ?_
  simp only [if_true]
  refine ev_bind (same_ev (x := (cleanS l).1) (y := (cleanS l).1) (by omega)) ?_
  simp only [decide_true, if_true, path_Sound.f, mkS_data, Option.bind_some]
  refine ev_bind (refsound_ev l) ?_
  simp only [bne_self_eq_false]
  refine Ev.step (fun k => by rw [pannierlaw10_PathCleans.j0]) ?_
  simp only [Bool.false_eq_true, if_false]
  have away : ∀ L M : List ByteArray, Ev (fun k => pannierlaw10_PathCleans.j1 k L M true) true := by
    intro L M
    refine Ev.step (fun k => by rw [pannierlaw10_PathCleans.j1]) ?_
    simp only [if_true]
    exact ev_some _
  by_cases hc : (cleanS l).2 = 0
  · obtain ⟨e, hg, hl, hl2⟩ := clean_good hc
    simp only [encP, hc, if_true, e, List.length_map]
    rw [e] at hcl
    generalize names l = n at hg hl hcl
    by_cases h0 : n = []
    · subst h0
      exact away _ _
    · have hlen : (((n.length : Int)) == 0) = false := by
        have := List.length_pos_iff.2 h0
        exact beq_eq_false_iff_ne.2 (by omega)
      rw [hlen]
      refine Ev.step (fun k => by rw [pannierlaw10_PathCleans.j1]) ?_
      simp only [Bool.false_eq_true, if_false]
      rw [join_f (ps := n) (by omega) (by omega)]
      simp only [Option.bind_some]
      refine ev_bind (clean_ev _) ?_
      rw [mkS_data, clean_join hg h0 (by omega)]
      simp only [encP, if_true]
      refine ev_bind (same_ev (x := n) (y := n) (by omega)) ?_
      simp only [decide_true, if_true]
      refine ev_bind (refjoin_ev (x := n) (by omega) (by omega)) ?_
      simp only [if_true]
      rw [parts_f (s := mkS (joinS n)) (by rw [mk_size]; omega), mkS_data, parts_join hg]
      simp only [Option.bind_some]
      refine ev_bind (same_ev (x := n) (y := n) (by omega)) ?_
      simp only [decide_true]
      exact ev_some _
  · simp only [encP, hc, if_false]
    exact away _ _
end Go.Proofs.YtcfhijegmmdpkaaDoor.Pure
