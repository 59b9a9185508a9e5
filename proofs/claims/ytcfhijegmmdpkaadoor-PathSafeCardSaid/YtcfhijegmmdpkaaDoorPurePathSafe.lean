/- PathSafe: no part of a clean path is empty, or dots, or has a slash or a byte nought. Conditions: the library's two tables of UTF-8 as its text lays them (the card ties them). -/
import Derived.Test.YtcfhijegmmdpkaaDoorUComp
import Derived.Test.YtcfhijegmmdpkaaDoorUBytes
import Derived.Test.YtcfhijegmmdpkaaDoorXA11
namespace Go.Proofs.YtcfhijegmmdpkaaDoor.Pure
open Go.RowKit Go.Proofs.YtcfhijegmmdpkaaDoor.XA Go.Proofs.YtcfhijegmmdpkaaDoorW.PrintWords Go.Proofs.YtcfhijegmmdpkaaDoorW.PrintLast Go.Proofs.YtcfhijegmmdpkaaDoorW.PrintMore
set_option linter.unusedSimpArgs false
set_option linter.unusedVariables false

theorem safe_l1 {p : List UInt8} {P : List ByteArray} {n i : Int} (hp : Good p) (hn : Ev (fun k => pannierlaw10_PathSafe.l0 k P n (wrap64 (i + 1))) true) : ∀ (r : List UInt8) (j : Nat), p.drop j = r →
    Ev (fun k => pannierlaw10_PathSafe.l1 k (mkS p) P n i (p.length : Int) (j : Int)) true
  | [], j, h => by
    have := drop_ge h
    refine Ev.step (fun k => by rw [pannierlaw10_PathSafe.l1]) ?_
    simp only [show ¬ ((j : Int) < (p.length : Int)) by omega, if_false]
    exact hn
  | c :: r, j, h => by
    have hlt := drop_lt h
    have hpl := hp.len
    have hm : c ∈ p := List.mem_of_mem_drop (by rw [h]; exact List.mem_cons_self ..)
    refine Ev.step (fun k => by rw [pannierlaw10_PathSafe.l1]) ?_
    simp only [mk_size, show (j : Int) < (p.length : Int) by omega, show (0 : Int) ≤ (j : Int) by omega, if_true, bt_mk h, is47, is0, show ¬ c = 47 from fun e => hp.slash (e ▸ hm), show ¬ c = 0 from fun e => hp.nul (e ▸ hm), if_false, wnext (i := j) (by omega)]
    exact safe_l1 hp hn r (j + 1) (drop_next h)
theorem safe_l0 {ps : List (List UInt8)} (hps : ps.length ≤ 1000001) (hg : ∀ p ∈ ps, Good p) : ∀ (r : List (List UInt8)) (i : Nat), ps.drop i = r →
    Ev (fun k => pannierlaw10_PathSafe.l0 k (ps.map mkS) (ps.length : Int) (i : Int)) true
  | [], i, h => by
    have := drop_ge h
    refine Ev.step (fun k => by rw [pannierlaw10_PathSafe.l0]) ?_
    simp only [show ¬ ((i : Int) < (ps.length : Int)) by omega, if_false]
    exact ev_some _
  | p :: r, i, h => by
    have hlt := drop_lt h
    have hp := hg p (List.mem_of_mem_drop (by rw [h]; exact List.mem_cons_self ..))
    have hpl := hp.len
    refine Ev.step (fun k => by rw [pannierlaw10_PathSafe.l0]) ?_
    simp only [List.length_map, show (i : Int) < (ps.length : Int) by omega, show (0 : Int) ≤ (i : Int) by omega, if_true, rd_map h, mk_toList, mk_size, if_neg hp.ne, if_neg hp.dot, if_neg hp.dots, show ¬ ((p.length : Int) > 255) by omega, decide_false]
    refine Ev.step (fun k => by rw [pannierlaw10_PathSafe.j1]) ?_
    simp only [Bool.false_eq_true, if_false, mk_size]
    refine safe_l1 hp ?_ p 0 rfl
    rw [wnext (i := i) (by omega)]
    exact safe_l0 hps hg r (i + 1) (drop_next h)
theorem names_len (l : List UInt8) : (names l).length ≤ l.length + 1 := Nat.le_trans (List.length_filter_le _ _) (cut_len l)
theorem PathSafe : pannierlaw10_PathSafe.Pure := by
  intro s hs
  refine Ev.rounds (r := true) ?_
  unfold pannierlaw10_PathSafe.f
  refine ev_bind cleans_ev ?_
  simp only [if_true]
  by_cases h5 : (s.size : Int) > 5000
  · simp only [h5, if_true]
    exact ev_some _
  simp only [h5, if_false]
  refine ev_bind (clean_ev s) ?_
  by_cases hc : (cleanS s.data.toList).2 = 0
  · obtain ⟨e, hg, hl, hl2⟩ := clean_good hc
    simp only [encP, hc, if_true, e, List.length_map]
    have hn := names_len s.data.toList
    exact safe_l0 (by omega) hg _ 0 rfl
  · simp only [encP, hc, if_false, clean_bad hc]
    exact ev_some _
end Go.Proofs.YtcfhijegmmdpkaaDoor.Pure
