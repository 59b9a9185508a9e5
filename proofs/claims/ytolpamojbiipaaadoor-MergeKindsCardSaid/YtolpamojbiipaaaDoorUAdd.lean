/- Add, in plain words: what the tree has behind it. -/
import Derived.Test.YtolpamojbiipaaaDoorUPlant
namespace Go.Proofs.YtolpamojbiipaaaDoor.Pure
open Go.RowKit Go.Proofs.YtolpamojbiipaaaDoor.XA Go.Proofs.YtolpamojbiipaaaDoorW.PrintWords Go.Proofs.YtolpamojbiipaaaDoorW.PrintLast Go.Proofs.YtolpamojbiipaaaDoorW.PrintMore
set_option linter.unusedSimpArgs false
set_option linter.unusedVariables false

def rowOf (ps : Pth) (i : Int) (nd : S42) : S44 := ⟨mkS (joinS ps), i, nd⟩
/-- The number that a thing gets. -/
def idP (l : List S44) (nd : S42) (ps : Pth) (n : Int) : Int := if nd.f0 = 4 then (match lookR l ps with | some o => o.f1 | none => n) else n
def upP (l : List S44) (nd : S42) (ps : Pth) (n : Int) : Int := if nd.f0 = 4 then (match lookR l ps with | some _ => n | none => n + 1) else n + 1
/-- Does something of another sort stand there? -/
def clashP (l : List S44) (nd : S42) (ps : Pth) : Bool := match lookR l ps with | some o => (o.f2.f0 == 4) != (nd.f0 == 4) | none => false
def addP (l : List S44) (n : Int) (ps : Pth) (nd : S42) : List S44 × Int × Int :=
  if ps = [] then (l, n, 100) else if clashP l nd ps = true then (l, n, 130) else
    if (parP l n ps.length ps).2.2 = 0 then (insR (parP l n ps.length ps).1 (rowOf ps (idP l nd ps (parP l n ps.length ps).2.1) nd), upP l nd ps (parP l n ps.length ps).2.1, 0)
    else (l, n, (parP l n ps.length ps).2.2)
theorem pref_cl {ps : Pth} (h : Cl ps) : ∀ q, Pref q ps → Cl q := by
  rintro q ⟨hq, t, _, e⟩
  rw [e] at h
  exact h.pre hq
theorem add_is {l : List S44} {n : Int} (h : Inv l n) (hl : l.length ≤ 800000) (hn : n ≤ 800000) {ps : Pth} (hc : ps = [] ∨ Cl ps) (nd : S42) :
    tree_Tree_Add.f l n (mkS (joinS ps)) nd.f0 nd.f1 nd.f2 nd.f3 nd.f4 nd.f5 nd.f6 nd.f7 nd.f8.f0 nd.f8.f1 nd.f9 = some (addP l n ps nd) := by
  unfold tree_Tree_Add.f addP
  rw [mk_toList]
  rcases hc with rfl | hc
  · rw [if_pos (show joinS [] = [] from rfl), if_pos rfl]
  have hj : joinS ps ≠ [] := join_ne hc.good hc.ne
  have hlen := hc.len
  rw [if_neg hj, if_neg hc.ne, if_pos (h.fit (by omega) (by rw [mk_size]; omega))]
  have sp := at_spec h.sorted (mkS (joinS ps))
  rw [mkS_data, parts_join hc.good] at sp
  have hpar : tree_Tree_parents.f l n (mkS (joinS ps)) = some (parP l n ps.length ps) := by
    unfold tree_Tree_parents.f
    rw [mk_size, if_pos (by omega), mkS_data]
    exact par_is h (by omega) (by omega) ps.length ps (Nat.le_refl _) hc _ (by omega)
  have ok := parP_ok h ps.length ps (Nat.le_refl _) (pref_cl hc)
  have h1 := ok.next
  have h2 := ok.len
  have h3 := h.next
  have h4 := hc.length
  rw [hpar]
  generalize parP l n ps.length ps = r at ok h1 h2 ⊢
  have hput : ∀ (m i : Int), tree_Tree_Put.f r.1 m (mkS (joinS ps)) i nd.f0 nd.f1 nd.f2 nd.f3 nd.f4 nd.f5 nd.f6 nd.f7 nd.f8.f0 nd.f8.f1 nd.f9 = some (insR r.1 (rowOf ps i nd), m) := fun m i => by
    unfold tree_Tree_Put.f
    rw [if_pos ⟨ok.inv.fit (by omega) (by rw [mk_size]; omega), by omega⟩]
    rw [put_ins ok.inv.sorted]
    rfl
  have hw : wrap64 (r.2.1 + 1) = r.2.1 + 1 := w64 (by omega) (by omega)
  simp only [Option.bind_some, hput, hw]
  unfold clashP idP upP
  cases hd : lookR l ps with
  | none =>
    rw [hd] at sp
    rw [if_neg (by rw [sp.1]; simp)]
    simp only [Bool.false_eq_true, if_false]
    by_cases e0 : r.2.2 = 0
    · rw [if_pos e0, if_pos e0]
      by_cases e4 : nd.f0 = 4 <;> simp [e4]
    · rw [if_neg e0, if_neg e0]
  | some o =>
    rw [hd] at sp
    have s1 : isAt l (mkS (joinS ps)) = true := sp.1
    rw [if_pos s1, ← Option.some.inj (sp.2 s1)]
    simp only
    by_cases ek : (o.f2.f0 == 4) = (nd.f0 == 4)
    · rw [if_pos ek, if_neg (show ¬ ((o.f2.f0 == 4) != (nd.f0 == 4)) = true by rw [ek]; simp)]
      by_cases e0 : r.2.2 = 0
      · rw [if_pos e0, if_pos e0]
        by_cases e4 : nd.f0 = 4 <;> simp [e4]
      · rw [if_neg e0, if_neg e0]
    · rw [if_neg ek, if_pos (show ((o.f2.f0 == 4) != (nd.f0 == 4)) = true from bne_iff_ne.2 ek)]

/-- What the laws put: a file of so many bytes, a name, a directory. -/
structure Nd (nd : S42) : Prop where
  kind : nd.f0 = 1 ∨ nd.f0 = 3 ∨ nd.f0 = 4
  made : nd.f9 = false
  size : 0 ≤ nd.f8.f1 ∧ nd.f8.f1 ≤ 1048576
structure AddOk (l : List S44) (n : Int) (ps : Pth) (nd : S42) (r : List S44 × Int × Int) : Prop where
  inv : Inv r.1 r.2.1
  err : r.2.2 = 0 ∨ r.1 = l ∧ r.2.1 = n
  next : n ≤ r.2.1 ∧ r.2.1 ≤ n + 151
  len : l.length ≤ r.1.length ∧ r.1.length ≤ l.length + 151
  cl : r.2.2 = 0 → Cl ps
  pre : r.2.2 = 0 → ∀ q, Pref q ps → ∃ d, lookR r.1 q = some d ∧ d.f2.f0 = 4
  look_ : r.2.2 = 0 → ∃ i, lookR r.1 ps = some (rowOf ps i nd) ∧ (n ≤ i ∧ i < r.2.1 ∨ nd.f0 = 4 ∧ ∃ o, lookR l ps = some o ∧ o.f1 = i) ∧
    ∀ p d, p ≠ ps → (lookR r.1 p = some d ↔ lookR l p = some d ∨ (lookR l p = none ∧ lookR r.1 p = some d ∧ Pref p ps ∧ ∃ j, d = dirOf p j ∧ n ≤ j ∧ j < i ∧ j < r.2.1))
theorem pp_row {ps : Pth} (h : Cl ps) (i : Int) (nd : S42) : pp (rowOf ps i nd) = ps := pp_mk h.good i nd
theorem addP_err {l : List S44} {n : Int} (h : Inv l n) {ps : Pth} (hc : ps = [] ∨ Cl ps) (nd : S42) : (addP l n ps nd).2.2 = 0 ↔ ps ≠ [] ∧ clashP l nd ps = false ∧ ∀ q d, Pref q ps → lookR l q = some d → d.f2.f0 = 4 := by
  unfold addP
  rcases hc with rfl | hc
  · simp
  rw [if_neg hc.ne]
  have ok := parP_ok h ps.length ps (Nat.le_refl _) (pref_cl hc)
  by_cases e1 : clashP l nd ps = true
  · rw [if_pos e1]; simp [e1]
  rw [if_neg e1]
  by_cases e0 : (parP l n ps.length ps).2.2 = 0
  · rw [if_pos e0]
    refine ⟨fun _ => ⟨hc.ne, by simpa using e1, fun q d hq hd => ?_⟩, fun _ => rfl⟩
    by_cases h4 : d.f2.f0 = 4
    · exact h4
    · have := ok.bad.2 ⟨q, d, hq, hd, h4⟩
      rw [e0] at this; cases this
  · rw [if_neg e0]
    refine ⟨fun h => absurd h e0, fun ⟨_, _, hh⟩ => ?_⟩
    have e3 : (parP l n ps.length ps).2.2 = 130 := by rcases ok.err with h | h; exact absurd h e0; exact h.1
    obtain ⟨q, d, hq, hd, h4⟩ := ok.bad.1 e3
    exact absurd (hh q d hq hd) h4
theorem addP_ok {l : List S44} {n : Int} (h : Inv l n) {ps : Pth} (hc : ps = [] ∨ Cl ps) {nd : S42} (hnd : Nd nd) : AddOk l n ps nd (addP l n ps nd) := by
  unfold addP
  have same : ∀ e : Int, e ≠ 0 → AddOk l n ps nd (l, n, e) := fun e he => ⟨h, .inr ⟨rfl, rfl⟩, ⟨Int.le_refl _, by simp; omega⟩, ⟨Nat.le_refl _, by simp⟩, fun h => absurd h he, fun h => absurd h he, fun h => absurd h he⟩
  rcases hc with rfl | hc
  · rw [if_pos rfl]; exact same 100 (by omega)
  rw [if_neg hc.ne]
  by_cases e1 : clashP l nd ps = true
  · rw [if_pos e1]; exact same 130 (by omega)
  rw [if_neg e1]
  have ok := parP_ok h ps.length ps (Nat.le_refl _) (pref_cl hc)
  have hlen := hc.length
  generalize parP l n ps.length ps = r at ok
  by_cases e0 : r.2.2 = 0
  · rw [if_pos e0]
    have h1 := ok.next
    have h2 := ok.len
    have h3 := h.next
    -- a thing's own row
    have hnot : ∀ d, lookR r.1 ps = some d → lookR l ps = some d := fun d hd => by
      rcases ok.new _ d hd with h | ⟨_, h, _⟩
      · exact h
      · exact absurd rfl (pref_ne h)
    have hid : (n ≤ idP l nd ps r.2.1 ∧ idP l nd ps r.2.1 < upP l nd ps r.2.1 ∧ (∀ s ∈ r.1, s.f1 ≠ idP l nd ps r.2.1) ∧ idP l nd ps r.2.1 = r.2.1) ∨ (nd.f0 = 4 ∧ ∃ o, lookR l ps = some o ∧ o.f1 = idP l nd ps r.2.1 ∧ upP l nd ps r.2.1 = r.2.1) := by
      unfold idP upP
      by_cases e4 : nd.f0 = 4
      · rw [if_pos e4, if_pos e4]
        cases hd : lookR l ps with
        | none => exact .inl ⟨h1.1, by simp; omega, fun s hs e => by have := (ok.inv.ids s hs).2; simp at e; omega, rfl⟩
        | some o => exact .inr ⟨e4, o, rfl, rfl, rfl⟩
      · rw [if_neg e4, if_neg e4]
        exact .inl ⟨h1.1, by omega, fun s hs e => by have := (ok.inv.ids s hs).2; omega, rfl⟩
    have hup : r.2.1 ≤ upP l nd ps r.2.1 ∧ upP l nd ps r.2.1 ≤ r.2.1 + 1 := by
      unfold upP
      split
      · split <;> omega
      · omega
    have epp := pp_row hc (idP l nd ps r.2.1) nd
    have hll := len_ins ok.inv.sorted (r := rowOf ps (idP l nd ps r.2.1) nd)
    have hinv : Inv (insR r.1 (rowOf ps (idP l nd ps r.2.1) nd)) (upP l nd ps r.2.1) := by
      refine (ok.inv.up hup.1).ins _ (by rw [epp]; exact hc) (by rw [epp]; rfl) (by rw [epp]; exact ok.all e0) ?_ ?_ ?_ hnd.kind (fun e => by have e' : nd.f9 = true := e; rw [hnd.made] at e'; cases e') hnd.size
      · rw [epp]
        intro o ho
        have := hnot o ho
        unfold clashP at e1
        rw [this] at e1
        show o.f2.f0 = 4 ↔ nd.f0 = 4
        have e2 : (o.f2.f0 == 4) = (nd.f0 == 4) := by simpa using e1
        by_cases a : o.f2.f0 = 4 <;> by_cases b : nd.f0 = 4 <;> simp [a, b] at e2 ⊢
      · show 0 ≤ idP l nd ps r.2.1 ∧ idP l nd ps r.2.1 < upP l nd ps r.2.1
        rcases hid with ⟨a, b, _, _⟩ | ⟨_, o, ho, e, e2⟩
        · omega
        · have := h.ids o (look_mem ho).1
          omega
      · rw [epp]
        intro s hs hne e
        have e' : s.f1 = idP l nd ps r.2.1 := e
        rcases hid with ⟨_, _, hf, _⟩ | ⟨h4, o, ho, eo, _⟩
        · exact absurd e' (hf s hs)
        · have ho1 := ok.old _ _ ho
          have := ok.inv.same s hs o (look_mem ho1).1 (by omega)
          have hk : o.f2.f0 = 4 := by
            unfold clashP at e1
            rw [ho] at e1
            simp [h4] at e1
            exact e1
          have := this.2 (by rw [this.1, hk]; omega)
          rw [this, (look_mem ho1).2] at hne
          exact absurd rfl hne
    refine ⟨hinv, .inl rfl, ⟨by simp; omega, by simp; omega⟩, ?_, fun _ => hc, fun _ q hq => ?_, fun _ => ⟨idP l nd ps r.2.1, ?_, ?_, fun p d hp => ?_⟩⟩
    · rw [hll]
      split
      · exact ⟨by omega, by omega⟩
      · exact ⟨by omega, by omega⟩
    · rw [look_ins, epp, if_neg (pref_ne hq)]
      exact ok.all e0 q hq
    · rw [look_ins, epp, if_pos rfl]
    · rcases hid with ⟨a, b, _, _⟩ | ⟨h4, o, ho, eo, _⟩
      · exact .inl ⟨a, b⟩
      · exact .inr ⟨h4, o, ho, eo⟩
    · simp only
      rw [look_ins, epp, if_neg hp]
      refine ⟨fun hd => ?_, fun hd => ?_⟩
      · rcases ok.new p d hd with h | ⟨h5, h6, j, h7, h8, h9⟩
        · exact .inl h
        · refine .inr ⟨h5, hd, h6, j, h7, h8, ?_, by omega⟩
          rcases hid with ⟨_, _, _, e⟩ | ⟨_, o, ho, _⟩
          · omega
          · obtain ⟨d', hd', _⟩ := h.pre ho h6
            rw [hd'] at h5; cases h5
      · rcases hd with hd | hd
        · exact ok.old p d hd
        · exact hd.2.1
  · rw [if_neg e0]
    exact same _ e0
end Go.Proofs.YtolpamojbiipaaaDoor.Pure
