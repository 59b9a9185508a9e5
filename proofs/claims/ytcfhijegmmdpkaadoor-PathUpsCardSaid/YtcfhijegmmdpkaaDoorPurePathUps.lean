/- PathUps: the directory in which a path lies is all of its parts but the last; it lies in that, in all above it, and in none else. Conditions: the library's two tables of UTF-8 as its text lays them (the card ties them). -/
import Derived.Test.YtcfhijegmmdpkaaDoorUUnder
import Derived.Test.YtcfhijegmmdpkaaDoorUBytes
import Derived.Test.YtcfhijegmmdpkaaDoorUSame
import Derived.Test.YtcfhijegmmdpkaaDoorXA8
import Derived.Test.YtcfhijegmmdpkaaDoorXA20
namespace Go.Proofs.YtcfhijegmmdpkaaDoor.Pure
open Go.RowKit Go.Proofs.YtcfhijegmmdpkaaDoor.XA Go.Proofs.YtcfhijegmmdpkaaDoorW.PrintWords Go.Proofs.YtcfhijegmmdpkaaDoorW.PrintLast Go.Proofs.YtcfhijegmmdpkaaDoorW.PrintMore
set_option linter.unusedSimpArgs false
set_option linter.unusedVariables false

theorem last_down {l : List UInt8} (hl : l.length ≤ 1000000) {r : Int} (m : Nat) : ∀ (d i : Nat), i = m + d → i ≤ l.length → (∀ j, m ≤ j → j < i → l[j]? ≠ some 47) →
    Ev (fun k => bytealg_LastIndexByteString.l0 k (mkS l) 47 ((m : Int) - 1)) r → Ev (fun k => bytealg_LastIndexByteString.l0 k (mkS l) 47 ((i : Int) - 1)) r
  | 0, i, e, _, _, h => by rw [e]; exact h
  | d + 1, i, e, hi, hn, h => by
    obtain ⟨i, rfl⟩ : ∃ q, i = q + 1 := ⟨i - 1, by omega⟩
    have ih := last_down hl m d i (by omega) (by omega) (fun j h1 h2 => hn j h1 (by omega)) h
    have hlt : i < l.length := by omega
    have hd := List.drop_eq_getElem_cons hlt
    have hne : ¬ l[i] = 47 := fun e => hn i (by omega) (by omega) (by rw [List.getElem?_eq_getElem hlt, e])
    refine Ev.step (fun k => by rw [bytealg_LastIndexByteString.l0]) ?_
    rw [show (((i + 1 : Nat) : Int) - 1) = (i : Int) by omega]
    simp only [ge_iff_le, show (0 : Int) ≤ (i : Int) by omega, if_true, mk_size, show (i : Int) < (l.length : Int) by omega, bt_mk hd, is47, hne, if_false]
    rw [w64 (by omega) (by omega)]
    exact ih
theorem last_none {l : List UInt8} (hl : l.length ≤ 1000000) (h : (47 : UInt8) ∉ l) : Ev (fun k => strings_LastIndexByte.f k (mkS l) 47) (-1) := by
  unfold strings_LastIndexByte.f bytealg_LastIndexByteString.f
  refine ev_bind (a := -1) ?_ (ev_some _)
  rw [mk_size, w64 (by omega) (by omega)]
  refine last_down hl 0 l.length l.length (by omega) (Nat.le_refl _) (fun j _ _ e => h (List.mem_of_getElem? e)) ?_
  refine Ev.step (fun k => by rw [bytealg_LastIndexByteString.l0]) ?_
  simp only [show ¬ (((0 : Nat) : Int) - 1 ≥ 0) by omega, if_false]
  exact ev_some _
theorem last_some {a b : List UInt8} (hl : (a ++ 47 :: b).length ≤ 1000000) (h : (47 : UInt8) ∉ b) : Ev (fun k => strings_LastIndexByte.f k (mkS (a ++ 47 :: b)) 47) (a.length : Int) := by
  have hll : (a ++ 47 :: b).length = a.length + 1 + b.length := by simp; omega
  unfold strings_LastIndexByte.f bytealg_LastIndexByteString.f
  refine ev_bind (a := (a.length : Int)) ?_ (ev_some _)
  rw [mk_size, w64 (by omega) (by omega)]
  refine last_down hl (a.length + 1) b.length _ (by omega) (Nat.le_refl _) (fun j h1 h2 e => ?_) ?_
  · rw [List.getElem?_append_right (by omega), show j - a.length = (j - a.length - 1) + 1 by omega, List.getElem?_cons_succ] at e
    exact h (List.mem_of_getElem? e)
  · have hd : (a ++ 47 :: b).drop a.length = 47 :: b := by simp
    refine Ev.step (fun k => by rw [bytealg_LastIndexByteString.l0]) ?_
    rw [show (((a.length + 1 : Nat) : Int) - 1) = (a.length : Int) by omega]
    simp only [ge_iff_le, show (0 : Int) ≤ (a.length : Int) by omega, if_true, mk_size, show (a.length : Int) < ((a ++ 47 :: b).length : Int) by omega, bt_mk hd, is47]
    exact ev_some _
theorem mk_nil : (⟨#[]⟩ : ByteArray) = mkS [] := rfl
theorem up_ev {n : List (List UInt8)} (hg : ∀ p ∈ n, Good p) (hl : (joinS n).length ≤ 1000000) : Ev (fun k => path_Up.f k (mkS (joinS n))) (mkS (joinS n.dropLast), decide (0 < n.length)) := by
  unfold path_Up.f
  simp only [mk_toList]
  by_cases h0 : n = []
  · subst h0
    simp only [show joinS [] = [] from rfl, if_true]
    exact ev_some _
  simp only [if_neg (join_ne hg h0)]
  obtain ⟨d, p, rfl⟩ : ∃ d p, n = d ++ [p] := ⟨n.dropLast, n.getLast h0, (List.dropLast_concat_getLast h0).symm⟩
  have hp := hg p (by simp)
  rw [List.dropLast_concat]
  have hpos : decide (0 < (d ++ [p]).length) = true := by simp
  rw [hpos]
  by_cases d0 : d = []
  · subst d0
    simp only [List.nil_append, show joinS [p] = p from rfl] at hl ⊢
    refine ev_bind (last_none hl hp.slash) ?_
    simp only [show (-1 : Int) < 0 by omega, if_true]
    exact ev_some _
  · rw [join_append d0 (by simp), show joinS [p] = p from rfl] at hl ⊢
    refine ev_bind (last_some hl hp.slash) ?_
    simp only [show ¬ (((joinS d).length : Int) < 0) by omega, if_false, show (0 : Int) ≤ ((joinS d).length : Int) by omega, if_true, mk_size, show ((joinS d).length : Int) ≤ ((joinS d ++ 47 :: p).length : Int) by simp; omega]
    refine ev_eq (ev_some _) ?_
    congr 1
    apply bl_inj
    simp [bl, Lib.extract_from_zero, mkS_data]
theorem len_join {n : List (List UInt8)} (hg : ∀ p ∈ n, Good p) : n.length ≤ (joinS n).length + 1 := by
  by_cases e0 : n = []
  · subst e0; simp
  · have h3 := cut_len (joinS n)
    rwa [cutS_join e0 fun p hp => (hg p hp).slash] at h3
theorem join_drop {n : List (List UInt8)} : (joinS n.dropLast).length ≤ (joinS n).length := by
  by_cases h0 : n = []
  · subst h0; simp
  obtain ⟨d, p, rfl⟩ : ∃ d p, n = d ++ [p] := ⟨n.dropLast, n.getLast h0, (List.dropLast_concat_getLast h0).symm⟩
  rw [List.dropLast_concat]
  by_cases d0 : d = []
  · subst d0; simp [joinS]
  · rw [join_append d0 (by simp)]; simp
theorem PathUps : pannierlaw10_PathUps.Pure := by
  intro s other hs ho
  refine Ev.rounds (r := true) ?_
  unfold pannierlaw10_PathUps.f
  refine ev_bind cleans_ev ?_
  simp only [if_true]
  refine ev_bind (clean_ev s) (ev_bind (clean_ev other) ?_)
  have away : ∀ L M : List ByteArray, Ev (fun k => pannierlaw10_PathUps.j0 k L M true) true := by
    intro L M
    refine Ev.step (fun k => by rw [pannierlaw10_PathUps.j0]) ?_
    simp only [if_true]
    exact ev_some _
  by_cases hc : (cleanS s.data.toList).2 = 0
  · by_cases hd : (cleanS other.data.toList).2 = 0
    · obtain ⟨e, hg, hl, hl2⟩ := clean_good hc
      obtain ⟨e', hg', hl', hl2'⟩ := clean_good hd
      simp only [encP, hc, hd, if_true, e, e']
      generalize names s.data.toList = n at hg hl
      generalize names other.data.toList = m at hg' hl'
      have hn := len_join hg
      have hm := len_join hg'
      have hdr := join_drop (n := n)
      have hgd : ∀ p ∈ n.dropLast, Good p := fun p hp => hg p ((List.dropLast_sublist n).subset hp)
      have main : Ev (fun k => pannierlaw10_PathUps.j0 k (n.map mkS) (m.map mkS) false) true := by
        refine Ev.step (fun k => by rw [pannierlaw10_PathUps.j0]) ?_
        simp only [Bool.false_eq_true, if_false, List.length_map]
        rw [join_f (ps := n) (by omega) (by omega), join_f (ps := m) (by omega) (by omega)]
        simp only [Option.bind_some]
        refine ev_bind (up_ev hg (by omega)) ?_
        have tail : Ev (fun k => pannierlaw10_PathUps.j1 k (n.map mkS) (m.map mkS) (mkS (joinS n)) (mkS (joinS m)) false) true := by
          refine Ev.step (fun k => by rw [pannierlaw10_PathUps.j1]) ?_
          simp only [Bool.false_eq_true, if_false, List.length_map]
          have hu := under_f (a := joinS m) (b := joinS n) (by omega)
          by_cases hle : m.length ≤ n.length
          · simp only [show (m.length : Int) ≤ (n.length : Int) by omega, show (0 : Int) ≤ (m.length : Int) by omega, if_true, Int.toNat_natCast, ← List.map_take]
            refine ev_bind (same_ev (x := n.take m.length) (y := m) (by rw [List.length_take]; omega)) ?_
            rw [hu]
            simp only [Option.bind_some]
            refine ev_eq (ev_some _) ?_
            rw [beq_iff_eq]
            by_cases hx : n.take m.length = m
            · rw [decide_eq_true hx, (under_iff hg' hg)]
              exact ⟨n.drop m.length, by conv => lhs; rw [← List.take_append_drop m.length n, hx]⟩
            · rw [decide_eq_false hx, ← Bool.not_eq_true, under_iff hg' hg]
              rintro ⟨t, rfl⟩
              exact hx (by simp)
          · simp only [show ¬ ((m.length : Int) ≤ (n.length : Int)) by omega, if_false, hu, Option.bind_some]
            refine ev_eq (ev_some _) ?_
            rw [beq_iff_eq, ← Bool.not_eq_true, under_iff hg' hg]
            rintro ⟨t, rfl⟩
            simp at hle
        by_cases h0 : 0 < n.length
        · have hi : wrap64 ((n.length : Int) - 1) = ((n.length - 1 : Nat) : Int) := by rw [w64 (by omega) (by omega)]; omega
          simp only [show (n.length : Int) > 0 by omega, h0, decide_true, bne_self_eq_false, Bool.false_eq_true, if_false, if_true, hi, show (0 : Int) ≤ ((n.length - 1 : Nat) : Int) by omega, show ((n.length - 1 : Nat) : Int) ≤ (n.length : Int) by omega, Int.toNat_natCast, ← List.map_take, ← List.dropLast_eq_take]
          rw [join_f (ps := n.dropLast) (by rw [List.length_dropLast]; omega) (by omega)]
          simp only [Option.bind_some, if_true]
          have hu : underS (joinS n.dropLast) (joinS n) = true := by
            rw [under_iff hgd hg]
            have hne : n ≠ [] := by intro e; rw [e] at h0; simp at h0
            exact ⟨[n.getLast hne], (List.dropLast_concat_getLast hne).symm⟩
          rw [under_f (by omega), hu]
          simp only [Option.bind_some, Bool.not_true]
          exact tail
        · simp only [show ¬ ((n.length : Int) > 0) by omega, h0, decide_false, bne_self_eq_false, Bool.false_eq_true, if_false]
          exact tail
      by_cases h1 : (s.size : Int) > 1000
      · simp only [h1, if_true]
        exact away _ _
      simp only [h1, if_false]
      by_cases h2 : (other.size : Int) > 1000
      · simp only [h2, decide_true]
        exact away _ _
      simp only [h2, decide_false]
      exact main
    · simp only [encP, hc, hd, if_true, if_false]
      exact away _ _
  · simp only [encP, hc, if_false]
    exact away _ _
end Go.Proofs.YtcfhijegmmdpkaaDoor.Pure
