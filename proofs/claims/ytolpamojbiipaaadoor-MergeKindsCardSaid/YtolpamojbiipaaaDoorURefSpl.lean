/- The document's answer for layer 10: its parts, its joining, its order. -/
import Derived.Test.YtolpamojbiipaaaDoorUUnder
import Derived.Test.YtolpamojbiipaaaDoorUBytes
import Derived.Test.YtolpamojbiipaaaDoorXA10
namespace Go.Proofs.YtolpamojbiipaaaDoor.Pure
open Go.RowKit Go.Proofs.YtolpamojbiipaaaDoor.XA Go.Proofs.YtolpamojbiipaaaDoorW.PrintWords Go.Proofs.YtolpamojbiipaaaDoorW.PrintLast Go.Proofs.YtolpamojbiipaaaDoorW.PrintMore
set_option linter.unusedSimpArgs false
set_option linter.unusedVariables false

theorem mk_extract {l r : List UInt8} {c : UInt8} {i : Nat} (h : l.drop i = c :: r) : (mkS l).extract i (i + 1) = mkS [c] := by
  apply bl_inj
  rw [bl_mk]
  simp only [bl, Lib.extract_data, mkS_data]
  congr 1
  have hlt := drop_lt h
  rw [h, show i + 1 - i = 1 by omega]
  rfl
theorem names_cons {cur : List UInt8} (h : (47 : UInt8) ∉ cur) (r : List UInt8) : names (cur ++ 47 :: r) = (if cur = [] then [] else if cur = [46] then [] else [cur]) ++ names r := by
  unfold names
  rw [cutS_append, List.filter_append, cutS_plain h, keep_cons]
  rfl
theorem names_plain {cur : List UInt8} (h : (47 : UInt8) ∉ cur) : names cur = if cur = [] then [] else if cur = [46] then [] else [cur] := by
  unfold names
  rw [cutS_plain h, keep_cons]
  rfl
theorem refsplit_end {l : List UInt8} {out : List (List UInt8)} {x : ByteArray} {i : Nat} (h : l.length < i) : Ev (fun k => pannierref10_Split.l0 k (mkS l) (out.map mkS) x (i : Int)) (out.map mkS) := by
  refine Ev.step (fun k => by rw [pannierref10_Split.l0]) ?_
  simp only [mk_size, show ¬ ((i : Int) ≤ (l.length : Int)) by omega, if_false]
  exact ev_some _
theorem refsplit_part {l : List UInt8} (hl : l.length ≤ 1000000) {out : List (List UInt8)} {cur : List UInt8} {i : Nat} (hi : i ≤ l.length) (ho : out.length ≤ i) {R : List (List UInt8)}
    (h : Ev (fun k => pannierref10_Split.l0 k (mkS l) ((out ++ if cur = [] then [] else if cur = [46] then [] else [cur]).map mkS) (mkS []) ((i + 1 : Nat) : Int)) (R.map mkS)) :
    Ev (fun k => pannierref10_Split.j1 k (mkS l) (out.map mkS) (mkS cur) (i : Int) false) (R.map mkS) := by
  refine Ev.step (fun k => by rw [pannierref10_Split.j1]) ?_
  simp only [Bool.false_eq_true, if_false, mk_toList, wnext (i := i) (by omega), List.length_map, show out.length < 8796093022208 by omega, if_true]
  by_cases h1 : cur = []
  · simp only [if_pos h1, List.append_nil] at h ⊢
    exact h
  simp only [if_neg h1] at h ⊢
  by_cases h2 : cur = [46]
  · simp only [if_pos h2, List.append_nil] at h ⊢
    exact h
  simp only [if_neg h2, List.map_append] at h ⊢
  exact h
theorem refsplit_l0 {l : List UInt8} (hl : l.length ≤ 1000000) : ∀ (r : List UInt8) (i : Nat) (out : List (List UInt8)) (cur : List UInt8), l.drop i = r → i ≤ l.length → out.length ≤ i → cur.length ≤ i → (47 : UInt8) ∉ cur →
    Ev (fun k => pannierref10_Split.l0 k (mkS l) (out.map mkS) (mkS cur) (i : Int)) ((out ++ names (cur ++ r)).map mkS)
  | [], i, out, cur, h, hi, ho, hcu, hc => by
    have hge := drop_ge h
    refine Ev.step (fun k => by rw [pannierref10_Split.l0]) ?_
    simp only [mk_size, show (i : Int) ≤ (l.length : Int) by omega, if_true, show ¬ ((i : Int) < (l.length : Int)) by omega, if_false]
    refine refsplit_part hl hi ho ?_
    rw [List.append_nil, names_plain hc]
    exact refsplit_end (by omega)
  | c :: r, i, out, cur, h, hi, ho, hcu, hc => by
    have hlt := drop_lt h
    refine Ev.step (fun k => by rw [pannierref10_Split.l0]) ?_
    simp only [mk_size, show (i : Int) ≤ (l.length : Int) by omega, if_true, show (i : Int) < (l.length : Int) by omega, show (0 : Int) ≤ (i : Int) by omega, bt_mk h]
    by_cases h47 : c = 47
    · subst h47
      rw [show ((((47 : UInt8).toNat : Int)) != 47) = false from rfl]
      refine refsplit_part hl hi ho ?_
      rw [names_cons hc, ← List.append_assoc]
      refine refsplit_l0 hl r (i + 1) _ [] (drop_next h) (by omega) ?_ (by simp) (by simp)
      split
      · simp; omega
      · split <;> simp <;> omega
    · rw [show ((c.toNat : Int) != 47) = true from bne_iff_ne.2 (fun e => h47 (is47.1 e))]
      refine Ev.step (fun k => by rw [pannierref10_Split.j1]) ?_
      simp only [if_true, wnext (i := i) (by omega), show (0 : Int) ≤ (i : Int) by omega, show (i : Int) ≤ ((i + 1 : Nat) : Int) by omega, mk_size, show ((i + 1 : Nat) : Int) ≤ (l.length : Int) by omega, Int.toNat_natCast, mk_extract h, mk_append, List.length_cons, List.length_nil, show cur.length + (0 + 1) ≤ 9223372036854775807 by omega]
      have := refsplit_l0 hl r (i + 1) out (cur ++ [c]) (drop_next h) (by omega) (by omega) (by simp; omega) (by simp only [List.mem_append, List.mem_singleton, not_or]; exact ⟨hc, fun e => h47 e.symm⟩)
      rwa [List.append_assoc, List.singleton_append] at this
theorem refsplit_ev {l : List UInt8} (hl : l.length ≤ 1000000) : Ev (fun k => pannierref10_Split.f k (mkS l)) ((names l).map mkS) := by
  unfold pannierref10_Split.f
  exact refsplit_l0 hl l 0 [] [] rfl (Nat.zero_le _) (Nat.le_refl _) (Nat.le_refl _) (by simp)

/-! ### joined -/
end Go.Proofs.YtolpamojbiipaaaDoor.Pure
