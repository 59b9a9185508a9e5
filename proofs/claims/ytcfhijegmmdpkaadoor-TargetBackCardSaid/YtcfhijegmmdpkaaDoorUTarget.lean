/- The small heads of layer 11's laws; the document's answer for layer 11. -/
import Derived.Test.YtcfhijegmmdpkaaDoorUResolve
import Derived.Test.YtcfhijegmmdpkaaDoorURefSplit
import Derived.Test.YtcfhijegmmdpkaaDoorURefSound
import Derived.Test.YtcfhijegmmdpkaaDoorXA7
import Derived.Test.YtcfhijegmmdpkaaDoorXA8
namespace Go.Proofs.YtcfhijegmmdpkaaDoor.Pure
open Go.RowKit Go.Proofs.YtcfhijegmmdpkaaDoor.XA Go.Proofs.YtcfhijegmmdpkaaDoorW.PrintWords Go.Proofs.YtcfhijegmmdpkaaDoorW.PrintLast Go.Proofs.YtcfhijegmmdpkaaDoorW.PrintMore
set_option linter.unusedSimpArgs false
set_option linter.unusedVariables false

theorem good_a : Good [97] := ⟨by decide, by decide, by decide, by decide, by decide, by decide, by decide +kernel⟩
theorem good_b : Good [98] := ⟨by decide, by decide, by decide, by decide, by decide, by decide, by decide +kernel⟩
theorem good_c : Good [99] := ⟨by decide, by decide, by decide, by decide, by decide, by decide, by decide +kernel⟩
theorem good_two {p q : List UInt8} (hp : Good p) (hq : Good q) : ∀ x ∈ [p, q], Good x := by
  intro x hx
  rcases List.mem_cons.1 hx with rfl | hx
  · exact hp
  · rw [List.mem_singleton.1 hx]; exact hq
theorem points_ev : Ev (fun k => pannierlaw11_points.f k) true := by
  unfold pannierlaw11_points.f
  have e1 : (⟨#[97, 47, 98]⟩ : ByteArray) = mkS (joinS [[97], [98]]) := rfl
  have e2 : (⟨#[97]⟩ : ByteArray) = mkS (joinS [[97]]) := rfl
  have e3 : (⟨#[97, 47, 99]⟩ : ByteArray) = mkS (joinS [[97], [99]]) := rfl
  have e4 : (⟨#[46, 46, 47, 99]⟩ : ByteArray) = mkS [46, 46, 47, 99] := rfl
  have e5 : (⟨#[46, 46, 47, 46, 46, 47, 99]⟩ : ByteArray) = mkS [46, 46, 47, 46, 46, 47, 99] := rfl
  rw [e1, e2, e3, e4, e5, resolve_f (good_two good_a good_b) (by decide), resolve_f (d := [[97]]) (by intro x hx; rw [List.mem_singleton.1 hx]; exact good_a) (by decide)]
  have r1 : resS [[97], [98]] [46, 46, 47, 99] = ([[97], [99]], 0) := by decide +kernel
  have r2 : resS [[97]] [46, 46, 47, 46, 46, 47, 99] = ([], 110) := by decide +kernel
  have r3 : relS [[97], [98]] [[97], [99]] = [46, 46, 47, 99] := by decide +kernel
  rw [r1, r2]
  simp only [Option.bind_some, if_true, mk_toList, show joinS [[97], [99]] = [97, 47, 99] from rfl]
  refine ev_bind (relative_ev (good_two good_a good_b) (good_two good_a good_c) (by decide) (by decide)) ?_
  rw [r3, mk_toList]
  exact ev_some _
theorem lclean_ev (s : ByteArray) : Ev (fun k => pannierlaw11_clean.f k s) (mkS (joinS (cleanS s.data.toList).1), decide ((cleanS s.data.toList).2 = 0 ∧ s.size ≤ 1000)) := by
  unfold pannierlaw11_clean.f
  refine ev_bind (clean_ev s) ?_
  by_cases hc : (cleanS s.data.toList).2 = 0
  · obtain ⟨e, hg, hl, hl2⟩ := clean_good hc
    have hn := names_length s.data.toList
    simp only [encP, hc, e]
    rw [join_f (ps := names s.data.toList) (by omega) (by omega)]
    simp only [Option.bind_some, if_true, true_and]
    refine ev_eq (ev_some _) ?_
    congr 1
    exact decide_eq_decide.2 (by omega)
  · simp only [encP, hc, clean_bad hc]
    rw [join_f (ps := []) (by decide) (by decide)]
    simp only [Option.bind_some, if_false, false_and, decide_false]
    exact ev_some _
/-- What a clean raw text's parts are worth. -/
structure Dir (d : List (List UInt8)) : Prop where
  good : ∀ p ∈ d, Good p
  len : (joinS d).length ≤ 1000
theorem lclean_dir {s : ByteArray} (h : (cleanS s.data.toList).2 = 0 ∧ s.size ≤ 1000) : Dir (cleanS s.data.toList).1 := by
  obtain ⟨e, hg, hl, hl2⟩ := clean_good h.1
  have := size_dl s
  rw [e]
  exact ⟨hg, by omega⟩
theorem Dir.weight {d : List (List UInt8)} (h : Dir d) : weight d ≤ 1001 := by
  have := weight_join d
  have hl := h.len
  by_cases h0 : d = []
  · subst h0; simp [Pure.weight]
  · have := this.2 h0; omega

theorem refres_l0 {ps : List (List UInt8)} (hps : ps.length ≤ 1000001) : ∀ (r : List (List UInt8)) (i : Nat) (xs : List (List UInt8)), ps.drop i = r → weight xs + weight r ≤ 900000 →
    Ev (fun k => pannierref11_Resolve.l0 k (xs.map mkS) (ps.map mkS) (i : Int)) (mkS (joinS (steps xs r).1), (steps xs r).2)
  | [], i, xs, h, hw => by
    have hge := drop_ge h
    have h1 := weight_len xs
    have h2 := (weight_join xs).1
    refine Ev.step (fun k => by rw [pannierref11_Resolve.l0]) ?_
    simp only [List.length_map, show ¬ ((i : Int) < (ps.length : Int)) by omega, if_false]
    refine ev_bind (refjoin_ev (x := xs) (by omega) (by omega)) ?_
    exact ev_some _
  | p :: r, i, xs, h, hw => by
    have hlt := drop_lt h
    have h1 := weight_len xs
    rw [weight_cons] at hw
    refine Ev.step (fun k => by rw [pannierref11_Resolve.l0]) ?_
    simp only [List.length_map, show (i : Int) < (ps.length : Int) by omega, if_true, show (0 : Int) ≤ (i : Int) by omega, rd_map h, mk_toList, mk_size, wnext (i := i) (by omega)]
    rw [steps]
    by_cases c1 : p = [46, 46]
    · simp only [if_pos c1]
      by_cases c2 : xs = []
      · subst c2
        simp only [List.length_nil, show (((0 : Nat) : Int) = 0) from rfl, if_true]
        exact ev_some _
      · have hp := List.length_pos_iff.2 c2
        have hd := weight_drop xs
        simp only [show ¬ ((xs.length : Int) = 0) by omega, if_false, if_neg c2, show wrap64 ((xs.length : Int) - 1) = ((xs.length - 1 : Nat) : Int) by rw [w64 (by omega) (by omega)]; omega, show (0 : Int) ≤ ((xs.length - 1 : Nat) : Int) by omega, show ((xs.length - 1 : Nat) : Int) ≤ (xs.length : Int) by omega, if_true, Int.toNat_natCast, ← List.map_take, ← List.dropLast_eq_take]
        exact refres_l0 hps r (i + 1) xs.dropLast (drop_next h) (by omega)
    · simp only [if_neg c1]
      by_cases c2 : 255 < p.length
      · simp only [show (p.length : Int) > 255 by omega, if_true, if_pos c2]
        exact ev_some _
      · simp only [show ¬ ((p.length : Int) > 255) by omega, if_false, if_neg c2, Option.bind_some, List.length_nil, List.length_map, show 0 + xs.length < 8796093022208 by omega, if_true, List.nil_append, show xs.length < 8796093022208 by omega]
        have := refres_l0 hps r (i + 1) (xs ++ [p]) (drop_next h) (by rw [weight_append, weight_cons]; have : weight [] = 0 := rfl; omega)
        rwa [List.map_append] at this
theorem refresolve_ev {d : List (List UInt8)} (hd : Dir d) (l : List UInt8) : Ev (fun k => pannierref11_Resolve.f k (mkS (joinS d)) (mkS l)) (mkS (joinS (resS d l).1), (resS d l).2) := by
  unfold pannierref11_Resolve.f resS
  refine ev_bind (refsound_ev l) ?_
  by_cases h1 : sound l = 103
  · simp only [h1, if_true]
    exact ev_some _
  simp only [h1, if_false]
  by_cases h2 : sound l = 0
  · have hl := (sound_le h2).2.1
    have hn := weight_names l
    have hw := hd.weight
    have hlen := hd.len
    have hnl := weight_len (names l)
    simp only [h2, if_true]
    refine ev_bind (refsplit_ev (l := joinS d) (by omega)) (ev_bind (refsplit_ev (l := l) (by omega)) ?_)
    have e : names (joinS d) = d := by
      by_cases h0 : d = []
      · subst h0; decide
      · exact names_join hd.good h0
    rw [e]
    exact refres_l0 (by omega) (names l) 0 d rfl (by omega)
  · simp only [h2, if_false]
    exact ev_some _
end Go.Proofs.YtcfhijegmmdpkaaDoor.Pure
