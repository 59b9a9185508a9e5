/- The document's answer for layer 10: its parts, its joining, its order. -/
import Derived.Test.YtcfhijegmmdpkaaDoorUUnder
import Derived.Test.YtcfhijegmmdpkaaDoorUBytes
import Derived.Test.YtcfhijegmmdpkaaDoorXA5
import Derived.Test.YtcfhijegmmdpkaaDoorXA6
import Derived.Test.YtcfhijegmmdpkaaDoorXA6
namespace Go.Proofs.YtcfhijegmmdpkaaDoor.Pure
open Go.RowKit Go.Proofs.YtcfhijegmmdpkaaDoor.XA Go.Proofs.YtcfhijegmmdpkaaDoorW.PrintWords Go.Proofs.YtcfhijegmmdpkaaDoorW.PrintLast Go.Proofs.YtcfhijegmmdpkaaDoorW.PrintMore
set_option linter.unusedSimpArgs false
set_option linter.unusedVariables false

theorem mk_extract {l r : List UInt8} {c : UInt8} {i : Nat} (h : l.drop i = c :: r) : (mkS l).extract i (i + 1) = mkS [c] := by
  apply bl_inj
  rw [bl_mk]
  simp only [bl, Lib.extract_data, mkS_data]
  congr 1
  have hlt := drop_lt h
  rw [h, show i + 1 - i = 1 by omega]
  rfl
theorem names_cons {cur : List UInt8} (h : (47 : UInt8) ∉ cur) (r : List UInt8) : names (cur ++ 47 :: r) = (if cur = [] then [] else if cur = [46] then [] else [cur]) ++ names r := by
  unfold names
  rw [cutS_append, List.filter_append, cutS_plain h, keep_cons]
  rfl
theorem names_plain {cur : List UInt8} (h : (47 : UInt8) ∉ cur) : names cur = if cur = [] then [] else if cur = [46] then [] else [cur] := by
  unfold names
  rw [cutS_plain h, keep_cons]
  rfl
theorem refsplit_end {l : List UInt8} {out : List (List UInt8)} {x : ByteArray} {i : Nat} (h : l.length < i) : Ev (fun k => pannierref10_Split.l0 k (mkS l) (out.map mkS) x (i : Int)) (out.map mkS) := by
  refine Ev.step (fun k => by rw [pannierref10_Split.l0]) ?_
  simp only [mk_size, show ¬ ((i : Int) ≤ (l.length : Int)) by omega, if_false]
  exact ev_some _
theorem refsplit_part {l : List UInt8} (hl : l.length ≤ 1000000) {out : List (List UInt8)} {cur : List UInt8} {i : Nat} (hi : i ≤ l.length) (ho : out.length ≤ i) {R : List (List UInt8)}
    (h : Ev (fun k => pannierref10_Split.l0 k (mkS l) ((out ++ if cur = [] then [] else if cur = [46] then [] else [cur]).map mkS) (mkS []) ((i + 1 : Nat) : Int)) (R.map mkS)) :
    Ev (fun k => pannierref10_Split.j1 k (mkS l) (out.map mkS) (mkS cur) (i : Int) false) (R.map mkS) := by
  refine Ev.step (fun k => by rw [pannierref10_Split.j1]) ?_
  simp only [Bool.false_eq_true, if_false, mk_toList, wnext (i := i) (by omega), List.length_map, show out.length < 8796093022208 by omega, if_true]
  by_cases h1 : cur = []
  · simp only [if_pos h1, List.append_nil] at h ⊢
    exact h
  simp only [if_neg h1] at h ⊢
  by_cases h2 : cur = [46]
  · simp only [if_pos h2, List.append_nil] at h ⊢
    exact h
  simp only [if_neg h2, List.map_append] at h ⊢
  exact h
theorem refsplit_l0 {l : List UInt8} (hl : l.length ≤ 1000000) : ∀ (r : List UInt8) (i : Nat) (out : List (List UInt8)) (cur : List UInt8), l.drop i = r → i ≤ l.length → out.length ≤ i → cur.length ≤ i → (47 : UInt8) ∉ cur →
    Ev (fun k => pannierref10_Split.l0 k (mkS l) (out.map mkS) (mkS cur) (i : Int)) ((out ++ names (cur ++ r)).map mkS)
  | [], i, out, cur, h, hi, ho, hcu, hc => by
    have hge := drop_ge h
    refine Ev.step (fun k => by rw [pannierref10_Split.l0]) ?_
    simp only [mk_size, show (i : Int) ≤ (l.length : Int) by omega, if_true, show ¬ ((i : Int) < (l.length : Int)) by omega, if_false]
    refine refsplit_part hl hi ho ?_
    rw [List.append_nil, names_plain hc]
    exact refsplit_end (by omega)
  | c :: r, i, out, cur, h, hi, ho, hcu, hc => by
    have hlt := drop_lt h
    refine Ev.step (fun k => by rw [pannierref10_Split.l0]) ?_
    simp only [mk_size, show (i : Int) ≤ (l.length : Int) by omega, if_true, show (i : Int) < (l.length : Int) by omega, show (0 : Int) ≤ (i : Int) by omega, bt_mk h]
    by_cases h47 : c = 47
    · subst h47
      rw [show ((((47 : UInt8).toNat : Int)) != 47) = false from rfl]
      refine refsplit_part hl hi ho ?_
      rw [names_cons hc, ← List.append_assoc]
      refine refsplit_l0 hl r (i + 1) _ [] (drop_next h) (by omega) ?_ (by simp) (by simp)
      split
      · simp; omega
      · split <;> simp <;> omega
    · rw [show ((c.toNat : Int) != 47) = true from bne_iff_ne.2 (fun e => h47 (is47.1 e))]
      refine Ev.step (fun k => by rw [pannierref10_Split.j1]) ?_
      simp only [if_true, wnext (i := i) (by omega), show (0 : Int) ≤ (i : Int) by omega, show (i : Int) ≤ ((i + 1 : Nat) : Int) by omega, mk_size, show ((i + 1 : Nat) : Int) ≤ (l.length : Int) by omega, Int.toNat_natCast, mk_extract h, mk_append, List.length_cons, List.length_nil, show cur.length + (0 + 1) ≤ 9223372036854775807 by omega]
      have := refsplit_l0 hl r (i + 1) out (cur ++ [c]) (drop_next h) (by omega) (by omega) (by simp; omega) (by simp only [List.mem_append, List.mem_singleton, not_or]; exact ⟨hc, fun e => h47 e.symm⟩)
      rwa [List.append_assoc, List.singleton_append] at this
theorem refsplit_ev {l : List UInt8} (hl : l.length ≤ 1000000) : Ev (fun k => pannierref10_Split.f k (mkS l)) ((names l).map mkS) := by
  unfold pannierref10_Split.f
  exact refsplit_l0 hl l 0 [] [] rfl (Nat.zero_le _) (Nat.le_refl _) (Nat.le_refl _) (by simp)

/-! ### joined -/
theorem refjoin_l0 {x : List (List UInt8)} (hx : x.length ≤ 1000001) (hj : (joinS x).length ≤ 1000000000) : ∀ (r : List (List UInt8)) (i : Nat) (d : List (List UInt8)), x = d ++ r → d.length = i →
    Ev (fun k => pannierref10_Join.l0 k (x.map mkS) (mkS (joinS d)) (i : Int)) (mkS (joinS x))
  | [], i, d, h, hi => by
    rw [List.append_nil] at h
    subst h
    refine Ev.step (fun k => by rw [pannierref10_Join.l0]) ?_
    simp only [List.length_map, hi, Int.lt_irrefl, if_false]
    exact ev_some _
  | p :: r, i, d, h, hi => by
    have hd : x.drop i = p :: r := by rw [h, ← hi]; simp
    have hlt := drop_lt hd
    have hlen : (joinS (d ++ [p])).length ≤ (joinS x).length := by
      by_cases r0 : r = []
      · subst r0; rw [h]; exact Nat.le_refl _
      · rw [h, show d ++ p :: r = (d ++ [p]) ++ r by simp, join_append (by simp) r0]
        simp
    have ih := refjoin_l0 hx hj r (i + 1) (d ++ [p]) (by rw [h]; simp) (by simp [hi])
    refine Ev.step (fun k => by rw [pannierref10_Join.l0]) ?_
    simp only [List.length_map, show (i : Int) < (x.length : Int) by omega, if_true, show (0 : Int) ≤ (i : Int) by omega, rd_map hd, mk_lit #[47], mk_append, mk_size, wnext (i := i) (by omega)]
    by_cases h0 : i = 0
    · obtain rfl : d = [] := List.eq_nil_of_length_eq_zero (by omega)
      have hp : p.length ≤ (joinS x).length := hlen
      simp only [show ¬ ((i : Int) > 0) by omega, if_false, show joinS [] = [] from rfl, List.nil_append, List.length_nil, show 0 + p.length ≤ 9223372036854775807 by omega, if_true]
      exact ih
    · have d0 : d ≠ [] := fun e => h0 (by rw [← hi, e]; rfl)
      rw [join_append d0 (by simp)] at hlen ih
      simp only [show joinS [p] = p from rfl, List.length_append, List.length_cons] at hlen ih
      simp only [show (i : Int) > 0 by omega, if_true, show (joinS d).length + 1 ≤ 9223372036854775807 by omega, show (#[47] : Array UInt8).toList = [47] from rfl, List.length_append, List.length_cons, List.length_nil, show (joinS d).length + (0 + 1) + p.length ≤ 9223372036854775807 by omega, List.append_assoc, List.singleton_append]
      exact ih
theorem refjoin_ev {x : List (List UInt8)} (hx : x.length ≤ 1000001) (hj : (joinS x).length ≤ 1000000000) : Ev (fun k => pannierref10_Join.f k (x.map mkS)) (mkS (joinS x)) := by
  unfold pannierref10_Join.f
  exact refjoin_l0 hx hj x 0 [] rfl rfl

/-! ### the order -/
theorem less_bytes : ∀ (a b : List UInt8), Op.bytesLess a b = decide (Lib.compareBytes a b < 0)
  | [], [] => rfl
  | _ :: _, [] => by simp [Op.bytesLess, Lib.compareBytes]
  | [], _ :: _ => by simp [Op.bytesLess, Lib.compareBytes]
  | a :: x, b :: y => by
    rw [Op.bytesLess, cb_cons, less_bytes x y]
    by_cases h1 : a < b
    · simp [h1]
    by_cases h2 : b < a
    · have : a ≠ b := fun e => by subst e; exact UInt8.lt_irrefl _ h2
      simp [h1, h2, this]
    · have : a = b := UInt8.le_antisymm (UInt8.not_lt.1 h2) (UInt8.not_lt.1 h1)
      subst this
      simp [h1]
theorem less_l0 {x y : List (List UInt8)} (hx : x.length ≤ 1000001) (hy : y.length ≤ 1000001) : ∀ (xr yr : List (List UInt8)) (i : Nat), x.drop i = xr → y.drop i = yr → x.length = i + xr.length → y.length = i + yr.length →
    Ev (fun k => pannierref10_Less.l0 k (x.map mkS) (y.map mkS) (i : Int)) (decide (cmpP xr yr < 0))
  | [], yr, i, h1, h2, l1, l2 => by
    simp only [List.length_nil] at l1
    refine Ev.step (fun k => by rw [pannierref10_Less.l0]) ?_
    simp only [List.length_map, show ¬ ((i : Int) < (x.length : Int)) by omega, if_false]
    refine Ev.step (fun k => by rw [pannierref10_Less.j1]) ?_
    simp only [Bool.false_eq_true, if_false, List.length_map]
    refine ev_eq (ev_some _) (decide_eq_decide.2 ?_)
    rw [cmpP]
    omega
  | p :: r, [], i, h1, h2, l1, l2 => by
    simp only [List.length_nil, List.length_cons] at l1 l2
    refine Ev.step (fun k => by rw [pannierref10_Less.l0]) ?_
    simp only [List.length_map, show ((i : Int) < (x.length : Int)) by omega, if_true, show ¬ ((i : Int) < (y.length : Int)) by omega, decide_false]
    refine Ev.step (fun k => by rw [pannierref10_Less.j1]) ?_
    simp only [Bool.false_eq_true, if_false, List.length_map]
    refine ev_eq (ev_some _) (decide_eq_decide.2 ?_)
    rw [cmpP, List.length_cons]
    omega
  | p :: r, q :: t, i, h1, h2, l1, l2 => by
    simp only [List.length_cons] at l1 l2
    refine Ev.step (fun k => by rw [pannierref10_Less.l0]) ?_
    simp only [List.length_map, show ((i : Int) < (x.length : Int)) by omega, if_true, show ((i : Int) < (y.length : Int)) by omega, decide_true]
    refine Ev.step (fun k => by rw [pannierref10_Less.j1]) ?_
    simp only [if_true, List.length_map, show (0 : Int) ≤ (i : Int) by omega, show ((i : Int) < (x.length : Int)) by omega, show ((i : Int) < (y.length : Int)) by omega, rd_map h1, rd_map h2, mk_toList]
    rw [cmpP]
    by_cases hc : p = q
    · simp only [if_pos hc, if_pos (cb_zero.2 hc), wnext (i := i) (by omega)]
      exact less_l0 hx hy r t (i + 1) (drop_next h1) (drop_next h2) (by omega) (by omega)
    · simp only [if_neg hc, if_neg (fun e => hc (cb_zero.1 e)), less_bytes]
      exact ev_some _
theorem names_length (l : List UInt8) : (names l).length ≤ l.length + 1 := Nat.le_trans (List.length_filter_le _ _) (cut_len l)
theorem less_ev {a b : List UInt8} (ha : a.length ≤ 1000000) (hb : b.length ≤ 1000000) : Ev (fun k => pannierref10_Less.f k (mkS a) (mkS b)) (decide (cmpP (names a) (names b) < 0)) := by
  unfold pannierref10_Less.f
  have h1 := names_length a
  have h2 := names_length b
  refine ev_bind (refsplit_ev ha) (ev_bind (refsplit_ev hb) ?_)
  exact less_l0 (by omega) (by omega) _ _ 0 rfl rfl (by simp) (by simp)
end Go.Proofs.YtcfhijegmmdpkaaDoor.Pure
