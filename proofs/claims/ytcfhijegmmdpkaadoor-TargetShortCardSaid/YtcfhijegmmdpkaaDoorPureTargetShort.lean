/- TargetShort: how a path is named from a directory goes up no more than need be: none of its first steps down is one that it went up. Conditions: the library's two tables of UTF-8 as its text lays them (the card ties them). -/
import Derived.Test.YtcfhijegmmdpkaaDoorUBack
import Derived.Test.YtcfhijegmmdpkaaDoorXA19
namespace Go.Proofs.YtcfhijegmmdpkaaDoor.Pure
open Go.RowKit Go.Proofs.YtcfhijegmmdpkaaDoor.XA Go.Proofs.YtcfhijegmmdpkaaDoorW.PrintWords Go.Proofs.YtcfhijegmmdpkaaDoorW.PrintLast Go.Proofs.YtcfhijegmmdpkaaDoorW.PrintMore
set_option linter.unusedSimpArgs false
set_option linter.unusedVariables false

theorem short_down {x y P : List (List UInt8)} (hP : P.length ≤ 1000001) {k u : Nat} (hk : k ≤ x.length) (hk2 : k ≤ y.length) (hx : x.length ≤ 1000001) (hy : y.length ≤ 1000001) (hu : u = x.length - k) : ∀ (r : List (List UInt8)) (i dn : Nat), P.drop i = r → (∀ p ∈ r, Good p) → dn + r.length = y.length - k → dn ≤ i →
    Ev (fun q => pannierlaw11_TargetShort.l1 q (x.map mkS) (y.map mkS) (k : Int) (u : Int) (dn : Int) (P.map mkS) (P.length : Int) (i : Int)) true
  | [], i, dn, h, hg, hd, hi => by
    have := drop_ge h
    simp only [List.length_nil] at hd
    refine Ev.step (fun q => by rw [pannierlaw11_TargetShort.l1]) ?_
    simp only [show ¬ ((i : Int) < (P.length : Int)) by omega, if_false, List.length_map, show wrap64 ((x.length : Int) - (k : Int)) = ((x.length - k : Nat) : Int) by rw [w64 (by omega) (by omega)]; omega, show wrap64 ((y.length : Int) - (k : Int)) = ((y.length - k : Nat) : Int) by rw [w64 (by omega) (by omega)]; omega, hu, if_true]
    refine ev_eq (ev_some _) ?_
    rw [beq_iff_eq]
    omega
  | p :: r, i, dn, h, hg, hd, hi => by
    have hlt := drop_lt h
    have hp := hg p (List.mem_cons_self ..)
    simp only [List.length_cons] at hd
    refine Ev.step (fun q => by rw [pannierlaw11_TargetShort.l1]) ?_
    simp only [show ((i : Int) < (P.length : Int)) by omega, if_true, show (0 : Int) ≤ (i : Int) by omega, List.length_map, rd_map h, mk_toList, if_neg hp.dots, wnext (i := i) (by omega), wnext (i := dn) (by omega)]
    exact short_down hP hk hk2 hx hy hu r (i + 1) (dn + 1) (drop_next h) (fun q hq => hg q (List.mem_cons_of_mem _ hq)) (by omega) (by omega)
theorem short_up {x y P b : List (List UInt8)} (hP : P.length ≤ 1000001) {k : Nat} (hk : k ≤ x.length) (hk2 : k ≤ y.length) (hx : x.length ≤ 1000001) (hy : y.length ≤ 1000001) (hb : ∀ p ∈ b, Good p) (hbl : b.length = y.length - k) : ∀ (m i : Nat), P.drop i = List.replicate m [46, 46] ++ b → i + m = x.length - k →
    Ev (fun q => pannierlaw11_TargetShort.l1 q (x.map mkS) (y.map mkS) (k : Int) (i : Int) 0 (P.map mkS) (P.length : Int) (i : Int)) true
  | 0, i, h, hm => by
    exact short_down hP hk hk2 hx hy (by omega) b i 0 (by simpa using h) hb (by omega) (Nat.zero_le _)
  | m + 1, i, h, hm => by
    rw [List.replicate_succ, List.cons_append] at h
    have hlt := drop_lt h
    refine Ev.step (fun q => by rw [pannierlaw11_TargetShort.l1]) ?_
    simp only [show ((i : Int) < (P.length : Int)) by omega, if_true, show (0 : Int) ≤ (i : Int) by omega, List.length_map, rd_map h, mk_toList, wnext (i := i) (by omega)]
    exact short_up hP hk hk2 hx hy hb hbl m (i + 1) (drop_next h) (by omega)
theorem short_j2 {x y c a b : List (List UInt8)} (hx : Dir x) (hy : Dir y) (e1 : x = c ++ a) (e2 : y = c ++ b) (hs : strip x y = (a, b)) :
    Ev (fun q => pannierlaw11_TargetShort.j2 q (mkS (joinS x)) (mkS (joinS y)) (x.map mkS) (y.map mkS) (c.length : Int)) true := by
  have hl := hx.len
  have hl2 := hy.len
  have hw := hx.weight
  have hw2 := hy.weight
  have hxl := weight_len x
  have hyl := weight_len y
  obtain ⟨r1, r2⟩ := rel_sound hx hy
  have hww := ways_weight x y
  have hwl := weight_len (ways x y)
  have hnl := (sound_le r1).2.1
  refine Ev.step (fun q => by rw [pannierlaw11_TargetShort.j2]) ?_
  refine ev_bind (relative_ev hx.good hy.good (by omega) (by omega)) (ev_bind (refsplit_ev (l := relS x y) (by omega)) ?_)
  rw [r2, List.length_map]
  have xl : x.length = c.length + a.length := by rw [e1, List.length_append]
  have yl : y.length = c.length + b.length := by rw [e2, List.length_append]
  exact short_up (P := ways x y) (b := b) (by omega) (by omega) (by omega) (by omega) (by omega) (fun p hp => hy.good p (by rw [e2]; exact List.mem_append_right _ hp)) (by omega) a.length 0 (by rw [List.drop_zero]; unfold ways; rw [hs]) (by omega)
theorem strip_same (c : List (List UInt8)) (a b : List (List UInt8)) : strip (c ++ a) (c ++ b) = strip a b := by
  induction c with
  | nil => rfl
  | cons p r ih => rw [List.cons_append, List.cons_append, strip, if_pos rfl, ih]
theorem short_l0 {x y : List (List UInt8)} (hx : Dir x) (hy : Dir y) : ∀ (a b c : List (List UInt8)), x = c ++ a → y = c ++ b →
    Ev (fun q => pannierlaw11_TargetShort.l0 q (mkS (joinS x)) (mkS (joinS y)) (x.map mkS) (y.map mkS) (c.length : Int)) true
  | [], b, c, e1, e2 => by
    have xl : x.length = c.length := by rw [e1, List.append_nil]
    refine Ev.step (fun q => by rw [pannierlaw11_TargetShort.l0]) ?_
    simp only [List.length_map, xl, Int.lt_irrefl, if_false]
    exact short_j2 hx hy e1 e2 (by rw [e1, e2, strip_same]; rfl)
  | p :: r, [], c, e1, e2 => by
    have xl : x.length = c.length + (r.length + 1) := by rw [e1, List.length_append, List.length_cons]
    have yl : y.length = c.length := by rw [e2, List.append_nil]
    refine Ev.step (fun q => by rw [pannierlaw11_TargetShort.l0]) ?_
    simp only [List.length_map, show (c.length : Int) < (x.length : Int) by omega, if_true, yl, Int.lt_irrefl, if_false]
    exact short_j2 hx hy e1 e2 (by rw [e1, e2, strip_same]; rfl)
  | p :: r, q :: t, c, e1, e2 => by
    have xl : x.length = c.length + (r.length + 1) := by rw [e1, List.length_append, List.length_cons]
    have yl : y.length = c.length + (t.length + 1) := by rw [e2, List.length_append, List.length_cons]
    have d1 : x.drop c.length = p :: r := by rw [e1]; simp
    have d2 : y.drop c.length = q :: t := by rw [e2]; simp
    have hw := hx.weight
    have hxl := weight_len x
    refine Ev.step (fun q => by rw [pannierlaw11_TargetShort.l0]) ?_
    simp only [List.length_map, show (c.length : Int) < (x.length : Int) by omega, show (c.length : Int) < (y.length : Int) by omega, if_true, show (0 : Int) ≤ (c.length : Int) by omega, rd_map d1, rd_map d2, mk_toList]
    by_cases h : p = q
    · simp only [if_pos h, wnext (i := c.length) (by omega)]
      subst h
      have := short_l0 hx hy r t (c ++ [p]) (by rw [e1]; simp) (by rw [e2]; simp)
      rwa [List.length_append] at this
    · simp only [if_neg h]
      exact short_j2 hx hy e1 e2 (by rw [e1, e2, strip_same, strip, if_neg h])
theorem TargetShort : pannierlaw11_TargetShort.Pure := by
  intro s t hs ht
  refine Ev.rounds (r := true) ?_
  unfold pannierlaw11_TargetShort.f
  refine ev_bind points_ev ?_
  simp only [if_true]
  refine ev_bind (lclean_ev s) (ev_bind (lclean_ev t) ?_)
  have away : ∀ L M : ByteArray, Ev (fun k => pannierlaw11_TargetShort.j0 k L M true) true := by
    intro L M
    refine Ev.step (fun k => by rw [pannierlaw11_TargetShort.j0]) ?_
    simp only [if_true]
    exact ev_some _
  by_cases hc : (cleanS s.data.toList).2 = 0 ∧ s.size ≤ 1000
  · by_cases hc2 : (cleanS t.data.toList).2 = 0 ∧ t.size ≤ 1000
    · have hd := lclean_dir hc
      have he := lclean_dir hc2
      simp only [hc, hc2, and_self, decide_true, if_true, Bool.not_true]
      generalize (cleanS s.data.toList).1 = d at hd
      generalize (cleanS t.data.toList).1 = e at he
      have hl := hd.len
      have hl2 := he.len
      refine Ev.step (fun k => by rw [pannierlaw11_TargetShort.j0]) ?_
      simp only [Bool.false_eq_true, if_false]
      rw [parts_f (s := mkS (joinS d)) (by rw [mk_size]; omega), parts_f (s := mkS (joinS e)) (by rw [mk_size]; omega), mkS_data, mkS_data, parts_join hd.good, parts_join he.good]
      simp only [Option.bind_some]
      exact short_l0 hd he d e [] rfl rfl
    · simp only [hc, hc2, and_self, decide_true, decide_false, if_true, Bool.not_false]
      exact away _ _
  · simp only [hc, decide_false, Bool.false_eq_true, if_false]
    exact away _ _
end Go.Proofs.YtcfhijegmmdpkaaDoor.Pure
