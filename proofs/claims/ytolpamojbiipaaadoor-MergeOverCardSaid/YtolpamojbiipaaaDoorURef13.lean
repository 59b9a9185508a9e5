/- The document's answer for layer 13 (tree), as plain lists of things. -/
import Derived.Test.YtolpamojbiipaaaDoorUAdd
import Derived.Test.YtolpamojbiipaaaDoorURefSpl
import Derived.Test.YtolpamojbiipaaaDoorXA14
namespace Go.Proofs.YtolpamojbiipaaaDoor.Pure
open Go.RowKit Go.Proofs.YtolpamojbiipaaaDoor.XA Go.Proofs.YtolpamojbiipaaaDoorW.PrintWords Go.Proofs.YtolpamojbiipaaaDoorW.PrintLast Go.Proofs.YtolpamojbiipaaaDoorW.PrintMore
set_option linter.unusedSimpArgs false
set_option linter.unusedVariables false

theorem refjoin_l0 {x : List (List UInt8)} (hx : x.length ≤ 1000001) (hj : (joinS x).length ≤ 1000000000) : ∀ (r : List (List UInt8)) (i : Nat) (d : List (List UInt8)), x = d ++ r → d.length = i →
    Ev (fun k => pannierref10_Join.l0 k (x.map mkS) (mkS (joinS d)) (i : Int)) (mkS (joinS x))
  | [], i, d, h, hi => by
    rw [List.append_nil] at h
    subst h
    refine Ev.step (fun k => by rw [pannierref10_Join.l0]) ?_
    simp only [List.length_map, hi, Int.lt_irrefl, if_false]
    exact ev_some _
  | p :: r, i, d, h, hi => by
    have hd : x.drop i = p :: r := by rw [h, ← hi]; simp
    have hlt := drop_lt hd
    have hlen : (joinS (d ++ [p])).length ≤ (joinS x).length := by
      by_cases r0 : r = []
      · subst r0; rw [h]; exact Nat.le_refl _
      · rw [h, show d ++ p :: r = (d ++ [p]) ++ r by simp, join_append (by simp) r0]
        simp
    have ih := refjoin_l0 hx hj r (i + 1) (d ++ [p]) (by rw [h]; simp) (by simp [hi])
    refine Ev.step (fun k => by rw [pannierref10_Join.l0]) ?_
    simp only [List.length_map, show (i : Int) < (x.length : Int) by omega, if_true, show (0 : Int) ≤ (i : Int) by omega, rd_map hd, mk_lit #[47], mk_append, mk_size, wnext (i := i) (by omega)]
    by_cases h0 : i = 0
    · obtain rfl : d = [] := List.eq_nil_of_length_eq_zero (by omega)
      have hp : p.length ≤ (joinS x).length := hlen
      simp only [show ¬ ((i : Int) > 0) by omega, if_false, show joinS [] = [] from rfl, List.nil_append, List.length_nil, show 0 + p.length ≤ 9223372036854775807 by omega, if_true]
      exact ih
    · have d0 : d ≠ [] := fun e => h0 (by rw [← hi, e]; rfl)
      rw [join_append d0 (by simp)] at hlen ih
      simp only [show joinS [p] = p from rfl, List.length_append, List.length_cons] at hlen ih
      simp only [show (i : Int) > 0 by omega, if_true, show (joinS d).length + 1 ≤ 9223372036854775807 by omega, show (#[47] : Array UInt8).toList = [47] from rfl, List.length_append, List.length_cons, List.length_nil, show (joinS d).length + (0 + 1) + p.length ≤ 9223372036854775807 by omega, List.append_assoc, List.singleton_append]
      exact ih
theorem refjoin_ev {x : List (List UInt8)} (hx : x.length ≤ 1000001) (hj : (joinS x).length ≤ 1000000000) : Ev (fun k => pannierref10_Join.f k (x.map mkS)) (mkS (joinS x)) := by
  unfold pannierref10_Join.f
  exact refjoin_l0 hx hj x 0 [] rfl rfl


/-- The place of a path's thing. -/
def ixW : List S73 → ByteArray → Option Nat
  | [], _ => none
  | x :: t, s => if x.f0.toList = s.toList then some 0 else (ixW t s).map (· + 1)
def fnd (ws : List S73) (s : ByteArray) : Int := match ixW ws s with | some i => (i : Int) | none => -1
/-- With a thing. -/
def wR (ws : List S73) (x : S73) : List S73 := match ixW ws x.f0 with | some i => ws.set i x | none => ws ++ [x]
theorem ix_lt : ∀ {ws : List S73} {s : ByteArray} {i : Nat}, ixW ws s = some i → i < ws.length
  | x :: t, s, i, h => by
    rw [ixW] at h
    by_cases e : x.f0.toList = s.toList
    · rw [if_pos e] at h; cases h; simp
    · rw [if_neg e] at h
      cases h2 : ixW t s with
      | none => rw [h2] at h; cases h
      | some j =>
        rw [h2] at h
        have := ix_lt h2
        simp only [Option.map_some, Option.some.injEq] at h
        simp only [List.length_cons]; omega
theorem rd_W {ws r : List S73} {x : S73} {i : Nat} (h : ws.drop i = x :: r) : rd_T73 ws (i : Int) = x := by
  have : ws[i]? = some x := by
    have h2 : (ws.drop i)[0]? = some x := by rw [h]; rfl
    simpa [List.getElem?_drop] using h2
  unfold rd_T73
  rw [List.getD_eq_getElem?_getD, Int.toNat_natCast, this]
  rfl
theorem find_l0 {s : ByteArray} {ws : List S73} {n : Int} (hl : ws.length ≤ 1000000) : ∀ (r : List S73) (i : Nat), ws.drop i = r → Ev (fun k => pannierref13_Find.l0 k s (i : Int) ws n) (match ixW r s with | some j => ((i + j : Nat) : Int) | none => -1)
  | [], i, h => by
    have hge := drop_ge h
    refine Ev.step (fun k => by rw [pannierref13_Find.l0]) ?_
    simp only [show ¬ ((i : Int) < (ws.length : Int)) by omega, if_false, ixW]
    exact ev_some _
  | x :: r, i, h => by
    have hlt := drop_lt h
    refine Ev.step (fun k => by rw [pannierref13_Find.l0]) ?_
    simp only [show (i : Int) < (ws.length : Int) by omega, if_true, show (0 : Int) ≤ (i : Int) by omega, rd_W h, ixW]
    by_cases e : x.f0.toList = s.toList
    · simp only [if_pos e]
      exact ev_some _
    · simp only [if_neg e, wnext (i := i) (by omega)]
      refine ev_eq (find_l0 hl r (i + 1) (drop_next h)) ?_
      cases ixW r s with
      | none => rfl
      | some j => simp only [Option.map_some]; omega
theorem find_ev {s : ByteArray} {ws : List S73} {n : Int} (hl : ws.length ≤ 1000000) : Ev (fun k => pannierref13_Find.f k ws n s) (fnd ws s) := by
  unfold pannierref13_Find.f
  refine ev_eq (find_l0 hl ws 0 rfl) ?_
  unfold fnd
  cases ixW ws s with
  | none => rfl
  | some j => simp
theorem with_ev {s : ByteArray} {a b d : Int} {c : Bool} {ws : List S73} {n : Int} (hl : ws.length ≤ 1000000) : Ev (fun k => pannierref13_with.f k ws n s a b c d) (wR ws ⟨s, a, b, c, d⟩, n) := by
  unfold pannierref13_with.f
  refine ev_now ?_
  simp only [List.length_nil, show 0 + ws.length < 2932031007402 by omega, if_true, List.nil_append]
  refine ev_now ?_
  refine ev_bind (find_ev hl) ?_
  unfold fnd wR
  simp only
  cases h : ixW ws s with
  | none =>
    simp only [show (-1 : Int) < 0 by omega, if_true, show ws.length < 2932031007402 by omega]
    exact ev_some _
  | some i =>
    have := ix_lt h
    simp only [show ¬ ((i : Int) < 0) by omega, if_false, show (0 : Int) ≤ (i : Int) by omega, if_true, show (i : Int) < (ws.length : Int) by omega, Int.toNat_natCast]
    exact ev_some _
theorem wR_len (ws : List S73) (x : S73) : ws.length ≤ (wR ws x).length ∧ (wR ws x).length ≤ ws.length + 1 := by
  unfold wR
  split <;> simp
/-- The directories of a path, from the root. -/
def ups (ps : Pth) : List Pth := (List.range' 1 (ps.length - 1)).map ps.take
def parW : List Pth → List S73 → Int → List S73 × Int × Int
  | [], ws, n => (ws, n, 0)
  | q :: r, ws, n => match ixW ws (mkS (joinS q)) with
    | some i => if (ws.getD i z73).f1 = 4 then parW r ws n else (ws, n, 130)
    | none => parW r (wR ws ⟨mkS (joinS q), 4, 0, true, n⟩) (n + 1)
theorem parW_len : ∀ (us : List Pth) (ws : List S73) (n : Int), (parW us ws n).1.length ≤ ws.length + us.length ∧ n ≤ (parW us ws n).2.1 ∧ (parW us ws n).2.1 ≤ n + us.length
  | [], ws, n => by simp [parW]
  | q :: r, ws, n => by
    rw [parW]
    cases ixW ws (mkS (joinS q)) with
    | none =>
      have h := parW_len r (wR ws ⟨mkS (joinS q), 4, 0, true, n⟩) (n + 1)
      have h2 := wR_len ws ⟨mkS (joinS q), 4, 0, true, n⟩
      simp only [List.length_cons]
      omega
    | some i =>
      simp only
      split
      · have h := parW_len r ws n
        simp only [List.length_cons]; omega
      · simp only [List.length_cons]; omega
theorem rd_nat73 (ws : List S73) (i : Nat) : rd_T73 ws (i : Int) = ws.getD i z73 := by unfold rd_T73; rw [Int.toNat_natCast]
theorem join_take {ps : Pth} (i : Nat) : (joinS (ps.take i)).length ≤ (joinS ps).length := by
  have := join_take_le (ps.take i) (ps.drop i)
  rwa [List.take_append_drop] at this
theorem parents_l0 {ps : Pth} (hp : ps.length ≤ 5000) (hj : (joinS ps).length ≤ 1000000) : ∀ (m i : Nat) (ws : List S73) (n : Int), i + m = ps.length → 1 ≤ i → ws.length + m ≤ 1000000 → 0 ≤ n → n + m ≤ 1000000 →
    Ev (fun k => pannierref13_parents.l0 k (ps.map mkS) (i : Int) ws n) (parW ((List.range' i m).map ps.take) ws n)
  | 0, i, ws, n, h, h1, hw, hn, hn2 => by
    refine Ev.step (fun k => by rw [pannierref13_parents.l0]) ?_
    simp only [List.length_map, show ¬ ((i : Int) < (ps.length : Int)) by omega, if_false]
    exact ev_some _
  | m + 1, i, ws, n, h, h1, hw, hn, hn2 => by
    refine Ev.step (fun k => by rw [pannierref13_parents.l0]) ?_
    simp only [List.length_map, show (i : Int) < (ps.length : Int) by omega, if_true, show (0 : Int) ≤ (i : Int) by omega, show (i : Int) ≤ (ps.length : Int) by omega, Int.toNat_natCast]
    rw [← List.map_take]
    have hlt := join_take (ps := ps) i
    refine ev_bind (refjoin_ev (x := ps.take i) (by rw [List.length_take]; omega) (by omega)) ?_
    refine ev_bind (find_ev (by omega)) ?_
    rw [show List.range' i (m + 1) = i :: List.range' (i + 1) m from rfl, List.map_cons, parW]
    unfold fnd
    cases hx : ixW ws (mkS (joinS (ps.take i))) with
    | none =>
      simp only [show ¬ ((-1 : Int) ≥ 0) by omega, if_false]
      refine Ev.step (fun k => by rw [pannierref13_parents.j1]) ?_
      simp only [Bool.false_eq_true, if_false, show (-1 : Int) < 0 by omega, if_true]
      refine ev_bind (with_ev (by omega)) ?_
      have hw2 := wR_len ws ⟨mkS (joinS (ps.take i)), 4, 0, true, n⟩
      simp only [wnext (i := i) (by omega), w64 (x := n + 1) (by omega) (by omega)]
      exact parents_l0 hp hj m (i + 1) _ _ (by omega) (by omega) (by omega) (by omega) (by omega)
    | some j =>
      have hlt := ix_lt hx
      simp only [show ((j : Int) ≥ 0) by omega, if_true, show (0 : Int) ≤ (j : Int) by omega, show (j : Int) < (ws.length : Int) by omega, rd_nat73]
      refine Ev.step (fun k => by rw [pannierref13_parents.j1]) ?_
      by_cases h4 : (ws.getD j z73).f1 = 4
      · simp only [show ((ws.getD j z73).f1 != 4) = false from bne_eq_false_iff_eq.2 h4, Bool.false_eq_true, if_false, show ¬ ((j : Int) < 0) by omega, wnext (i := i) (by omega), if_pos h4]
        exact parents_l0 hp hj m (i + 1) _ _ (by omega) (by omega) (by omega) (by omega) (by omega)
      · simp only [show ((ws.getD j z73).f1 != 4) = true from bne_iff_ne.2 h4, if_true, if_neg h4]
        exact ev_some _
theorem names_of {ps : Pth} (h : ∀ p ∈ ps, Good p) (hne : ps ≠ []) : names (joinS ps) = ps := names_join h hne
theorem parents_ev {ps : Pth} (hc : Cl ps) {ws : List S73} {n : Int} (hw : ws.length ≤ 900000) (hn : 0 ≤ n) (hn2 : n ≤ 900000) :
    Ev (fun k => pannierref13_parents.f k ws n (mkS (joinS ps))) (parW (ups ps) ws n) := by
  unfold pannierref13_parents.f
  have hs := refsplit_ev (l := joinS ps) (by have := hc.len; omega)
  rw [names_join hc.good hc.ne] at hs
  refine ev_bind hs ?_
  have hl := hc.length
  have h0 : 0 < ps.length := List.length_pos_iff.2 hc.ne
  exact parents_l0 (by omega) (by have := hc.len; omega) (ps.length - 1) 1 ws n (by omega) (by omega) (by omega) (by omega) (by omega)
theorem ups_len (ps : Pth) : (ups ps).length = ps.length - 1 := by simp [ups]
def addW (ws : List S73) (n : Int) (ps : Pth) (kind mark : Int) : List S73 × Int × Int :=
  if ps = [] then (ws, n, 100) else
  match ixW ws (mkS (joinS ps)) with
  | some i => if (((ws.getD i z73).f1 == 4) != (kind == 4)) = true then (ws, n, 130) else
      if (parW (ups ps) ws n).2.2 = 0 then (if kind = 4 then (wR (parW (ups ps) ws n).1 ⟨mkS (joinS ps), kind, mark, false, (ws.getD i z73).f4⟩, (parW (ups ps) ws n).2.1, 0)
        else (wR (parW (ups ps) ws n).1 ⟨mkS (joinS ps), kind, mark, false, (parW (ups ps) ws n).2.1⟩, (parW (ups ps) ws n).2.1 + 1, 0)) else (ws, n, (parW (ups ps) ws n).2.2)
  | none => if (parW (ups ps) ws n).2.2 = 0 then (wR (parW (ups ps) ws n).1 ⟨mkS (joinS ps), kind, mark, false, (parW (ups ps) ws n).2.1⟩, (parW (ups ps) ws n).2.1 + 1, 0) else (ws, n, (parW (ups ps) ws n).2.2)
def dirW (ws : List S73) (s : ByteArray) : Bool := match ixW ws s with | some j => (ws.getD j z73).f1 == 4 | none => false
def linkW (ws : List S73) (n : Int) (ps qs : Pth) : List S73 × Int × Int :=
  if ps = [] then (ws, n, 100) else
  match ixW ws (mkS (joinS qs)) with
  | none => (ws, n, 4)
  | some i => if (ws.getD i z73).f1 = 1 then
      (if dirW ws (mkS (joinS ps)) = true then (ws, n, 130) else
        if (parW (ups ps) ws n).2.2 = 0 then (wR (parW (ups ps) ws n).1 ⟨mkS (joinS ps), (ws.getD i z73).f1, (ws.getD i z73).f2, (ws.getD i z73).f3, (ws.getD i z73).f4⟩, (parW (ups ps) ws n).2.1, 0) else (ws, n, (parW (ups ps) ws n).2.2))
      else (ws, n, 130)
theorem lit_ne {ps : Pth} (hc : Cl ps) : ¬ ((mkS (joinS ps)).toList = ([] : List UInt8)) := by
  rw [mk_toList]; exact join_ne hc.good hc.ne
theorem linkW_ev {ps qs : Pth} (hc : ps = [] ∨ Cl ps) {ws : List S73} {n : Int} (hw : ws.length ≤ 800000) (hn : 0 ≤ n) (hn2 : n ≤ 800000) :
    Ev (fun k => pannierref13_Link.f k ws n (mkS (joinS ps)) (mkS (joinS qs))) (linkW ws n ps qs) := by
  unfold pannierref13_Link.f linkW
  rcases hc with rfl | hc
  · simp only [show (mkS (joinS [])).toList = ([] : List UInt8) from mk_toList _, if_true]
    exact ev_some _
  simp only [if_neg (lit_ne hc), if_neg hc.ne]
  refine ev_bind (find_ev (by omega)) ?_
  have hpe := parents_ev hc (ws := ws) (n := n) (by omega) hn (by omega)
  have hpl := parW_len (ups ps) ws n
  have hul := ups_len ps
  have hl := hc.length
  have hfe := fun a : ByteArray => find_ev (s := a) (ws := ws) (n := n) (by omega)
  unfold fnd at hfe ⊢
  generalize parW (ups ps) ws n = q at hpe hpl ⊢
  cases hx : ixW ws (mkS (joinS qs)) with
  | none =>
    simp only [show ((-1 : Int) < 0) by omega, if_true]
    exact ev_some _
  | some i =>
    have hlt := ix_lt hx
    simp only [show ¬ ((i : Int) < 0) by omega, if_false]
    refine ev_bind (hfe _) ?_
    simp only [show (0 : Int) ≤ (i : Int) by omega, if_true, show (i : Int) < (ws.length : Int) by omega, rd_nat73]
    have fin : ∀ b : Bool, Ev (fun k => pannierref13_Link.j0 k (mkS (joinS ps)) (i : Int) b ws n) (if b = true then (ws, n, 130) else
        if q.2.2 = 0 then (wR q.1 ⟨mkS (joinS ps), (ws.getD i z73).f1, (ws.getD i z73).f2, (ws.getD i z73).f3, (ws.getD i z73).f4⟩, q.2.1, 0) else (ws, n, q.2.2)) := by
      intro b
      refine Ev.step (fun k => by rw [pannierref13_Link.j0]) ?_
      cases b with
      | true => simp only [if_true]; exact ev_some _
      | false =>
        simp only [Bool.false_eq_true, if_false, show (0 : Int) ≤ (i : Int) by omega, if_true, show (i : Int) < (ws.length : Int) by omega, rd_nat73]
        refine ev_bind hpe ?_
        by_cases e : q.2.2 = 0
        · simp only [if_pos e]
          refine ev_bind (with_ev (by omega)) ?_
          exact ev_some _
        · simp only [if_neg e]
          exact ev_some _
    by_cases k1 : (ws.getD i z73).f1 = 1
    · simp only [if_pos k1]
      cases hy : ixW ws (mkS (joinS ps)) with
      | none =>
        simp only [show ¬ ((-1 : Int) ≥ 0) by omega, if_false]
        rw [show dirW ws (mkS (joinS ps)) = false by unfold dirW; rw [hy]]
        exact fin false
      | some j =>
        have hlj := ix_lt hy
        simp only [show ((j : Int) ≥ 0) by omega, if_true, show (0 : Int) ≤ (j : Int) by omega, show (j : Int) < (ws.length : Int) by omega, rd_nat73]
        rw [show dirW ws (mkS (joinS ps)) = ((ws.getD j z73).f1 == 4) by unfold dirW; rw [hy]]
        exact fin _
    · simp only [if_neg k1]
      have := fin true
      simpa using this
theorem addW_len (ws : List S73) (n : Int) {ps : Pth} (hc : ps = [] ∨ Cl ps) (kind mark : Int) : (addW ws n ps kind mark).1.length ≤ ws.length + 151 ∧ n ≤ (addW ws n ps kind mark).2.1 ∧ (addW ws n ps kind mark).2.1 ≤ n + 151 := by
  unfold addW
  rcases hc with rfl | hc
  · simp; omega
  have hpl := parW_len (ups ps) ws n
  have hul := ups_len ps
  have hl := hc.length
  have hw := fun x => wR_len (parW (ups ps) ws n).1 x
  rw [if_neg hc.ne]
  split
  · split
    · simp; omega
    split
    · split
      · refine ⟨Nat.le_trans (hw _).2 (by omega), ?_, ?_⟩ <;> simp only <;> omega
      · refine ⟨Nat.le_trans (hw _).2 (by omega), ?_, ?_⟩ <;> simp only <;> omega
    · simp; omega
  · split
    · refine ⟨Nat.le_trans (hw _).2 (by omega), ?_, ?_⟩ <;> simp only <;> omega
    · simp; omega
theorem linkW_len (ws : List S73) (n : Int) {ps : Pth} (hc : ps = [] ∨ Cl ps) (qs : Pth) : (linkW ws n ps qs).1.length ≤ ws.length + 151 ∧ n ≤ (linkW ws n ps qs).2.1 ∧ (linkW ws n ps qs).2.1 ≤ n + 151 := by
  unfold linkW
  rcases hc with rfl | hc
  · simp; omega
  have hpl := parW_len (ups ps) ws n
  have hul := ups_len ps
  have hl := hc.length
  have hw := fun x => wR_len (parW (ups ps) ws n).1 x
  rw [if_neg hc.ne]
  cases ixW ws (mkS (joinS qs)) with
  | none => simp; omega
  | some i =>
  simp only
  by_cases h1 : (ws.getD i z73).f1 = 1
  · rw [if_pos h1]
    by_cases h2 : dirW ws (mkS (joinS ps)) = true
    · rw [if_pos h2]; simp; omega
    rw [if_neg h2]
    split
    · refine ⟨Nat.le_trans (hw _).2 (by omega), ?_, ?_⟩ <;> simp only <;> omega
    · simp; omega
  · rw [if_neg h1]; simp; omega
end Go.Proofs.YtolpamojbiipaaaDoor.Pure
