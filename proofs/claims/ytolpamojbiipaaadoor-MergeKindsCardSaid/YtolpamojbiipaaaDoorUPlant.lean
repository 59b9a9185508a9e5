/- Trees of clean paths: directories made, things put, names linked, in plain words. -/
import Derived.Test.YtolpamojbiipaaaDoorUTree
namespace Go.Proofs.YtolpamojbiipaaaDoor.Pure
open Go.RowKit Go.Proofs.YtolpamojbiipaaaDoor.XA Go.Proofs.YtolpamojbiipaaaDoorW.PrintWords Go.Proofs.YtolpamojbiipaaaDoorW.PrintLast Go.Proofs.YtolpamojbiipaaaDoorW.PrintMore
set_option linter.unusedSimpArgs false
set_option linter.unusedVariables false

abbrev Pth := List (List UInt8)
/-- A clean path that isn't the root. -/
structure Cl (ps : Pth) : Prop where
  ne : ps ≠ []
  good : ∀ p ∈ ps, Good p
  len : (joinS ps).length ≤ 300
theorem pp_mk {ps : Pth} (h : ∀ p ∈ ps, Good p) (i : Int) (nd : S42) : pp ⟨mkS (joinS ps), i, nd⟩ = ps := by
  show partsS (mkS (joinS ps)).data.toList = ps
  rw [mkS_data, parts_join h]
theorem join_take_le : ∀ (ps : Pth) (t : Pth), (joinS ps).length ≤ (joinS (ps ++ t)).length
  | [], t => by simp [joinS]
  | ps@(_ :: _), [] => by simp
  | p :: ps, q :: t => by rw [join_append (by simp) (by simp)]; simp
theorem Cl.pre {q t : Pth} (h : Cl (q ++ t)) (hq : q ≠ []) : Cl q :=
  ⟨hq, fun p hp => h.good p (List.mem_append_left _ hp), Nat.le_trans (join_take_le q t) h.len⟩
theorem Cl.dl {ps : Pth} (h : Cl ps) (h1 : ps.dropLast ≠ []) : Cl ps.dropLast := by
  have e := List.dropLast_concat_getLast h.ne
  rw [← e] at h
  exact h.pre h1
theorem Cl.length {ps : Pth} (h : Cl ps) : ps.length ≤ 150 := by
  have : ∀ (xs : Pth), (∀ p ∈ xs, Good p) → xs.length * 2 ≤ (xs.map (fun p => p.length + 1)).sum := by
    intro xs
    induction xs with
    | nil => intro _; simp
    | cons p r ih =>
      intro hg
      have h1 : p ≠ [] := (hg p List.mem_cons_self).ne
      have h2 : 0 < p.length := List.length_pos_iff.2 h1
      have := ih (fun x hx => hg x (List.mem_cons_of_mem _ hx))
      rw [List.map_cons, List.sum_cons, List.length_cons]; omega
  have h1 := this ps h.good
  have h2 := joinS_length ps h.ne
  have h3 := h.len
  omega
/-- Directories ahead of a path: proper, not the root. -/
def Pref (q ps : Pth) : Prop := q ≠ [] ∧ ∃ t, t ≠ [] ∧ ps = q ++ t
theorem pref_dl {ps : Pth} (h1 : ps.dropLast ≠ []) : Pref ps.dropLast ps :=
  have hne : ps ≠ [] := fun e => h1 (by rw [e]; rfl)
  ⟨h1, [ps.getLast hne], by simp, (List.dropLast_concat_getLast hne).symm⟩
theorem pref_iff {q ps : Pth} : Pref q ps ↔ ps.dropLast ≠ [] ∧ (q = ps.dropLast ∨ Pref q ps.dropLast) := by
  constructor
  · rintro ⟨hq, t, ht, rfl⟩
    have e : (q ++ t).dropLast = q ++ t.dropLast := by rw [List.dropLast_append_of_ne_nil ht]
    rw [e]
    refine ⟨by simp [hq], ?_⟩
    by_cases h : t.dropLast = []
    · left; simp [h]
    · right; exact ⟨hq, _, h, rfl⟩
  · rintro ⟨h1, rfl | ⟨hq, t, ht, e⟩⟩
    · exact pref_dl h1
    · have hne : ps ≠ [] := fun e => h1 (by rw [e]; rfl)
      refine ⟨hq, t ++ [ps.getLast hne], by simp, ?_⟩
      rw [← List.append_assoc, ← e, List.dropLast_concat_getLast]
theorem pref_ne {q ps : Pth} (h : Pref q ps) : q ≠ ps := by
  obtain ⟨_, t, ht, e⟩ := h
  intro e2
  have := congrArg List.length e
  rw [e2, List.length_append] at this
  exact ht (List.eq_nil_of_length_eq_zero (by omega))
theorem pref_trans {a b c : Pth} (h : Pref a b) (k : Pref b c) : Pref a c := by
  obtain ⟨ha, t, ht, rfl⟩ := h
  obtain ⟨hb, u, hu, rfl⟩ := k
  exact ⟨ha, t ++ u, by simp [ht], by simp⟩

/-- What is true of all trees that the laws build. -/
structure Inv (l : List S44) (n : Int) : Prop where
  sorted : Sorted l
  clean : ∀ r ∈ l, Cl (pp r) ∧ r.f0 = mkS (joinS (pp r))
  closed : ∀ r ∈ l, ∀ q, Pref q (pp r) → ∃ d, lookR l q = some d ∧ d.f2.f0 = 4
  ids : ∀ r ∈ l, 0 ≤ r.f1 ∧ r.f1 < n
  same : ∀ r ∈ l, ∀ s ∈ l, r.f1 = s.f1 → r.f2 = s.f2 ∧ (r.f2.f0 ≠ 1 → r = s)
  kind : ∀ r ∈ l, r.f2.f0 = 1 ∨ r.f2.f0 = 3 ∨ r.f2.f0 = 4
  made : ∀ r ∈ l, r.f2.f9 = true → r.f2.f0 = 4
  size : ∀ r ∈ l, 0 ≤ r.f2.f8.f1 ∧ r.f2.f8.f1 ≤ 1048576
  next : 0 ≤ n
theorem inv_nil : Inv [] 0 := ⟨List.Pairwise.nil, by simp, by simp, by simp, by simp, by simp, by simp, by simp, Int.le_refl 0⟩
theorem Inv.at {l : List S44} {n : Int} (h : Inv l n) {p : Pth} {r : S44} (hr : lookR l p = some r) : r ∈ l ∧ pp r = p := look_mem hr
theorem Inv.pre {l : List S44} {n : Int} (h : Inv l n) {p q : Pth} {r : S44} (hr : lookR l p = some r) (hq : Pref q p) : ∃ d, lookR l q = some d ∧ d.f2.f0 = 4 :=
  h.closed r (look_mem hr).1 q (by rw [(look_mem hr).2]; exact hq)
theorem Inv.up {l : List S44} {n : Int} (h : Inv l n) {m : Int} (hm : n ≤ m) : Inv l m :=
  ⟨h.sorted, h.clean, h.closed, fun r hr => ⟨(h.ids r hr).1, Int.lt_of_lt_of_le (h.ids r hr).2 hm⟩, h.same, h.kind, h.made, h.size, Int.le_trans h.next hm⟩
/-- A row put that isn't another's file: of a number that no other row has, or of a file of that number. -/
theorem Inv.ins {l : List S44} {n : Int} (h : Inv l n) (r : S44) (hc : Cl (pp r)) (hf : r.f0 = mkS (joinS (pp r)))
    (hup : ∀ q, Pref q (pp r) → ∃ d, lookR l q = some d ∧ d.f2.f0 = 4)
    (hdn : ∀ o, lookR l (pp r) = some o → (o.f2.f0 = 4 ↔ r.f2.f0 = 4))
    (hid : 0 ≤ r.f1 ∧ r.f1 < n)
    (hsame : ∀ s ∈ l, pp s ≠ pp r → s.f1 = r.f1 → s.f2 = r.f2 ∧ r.f2.f0 = 1)
    (hk : r.f2.f0 = 1 ∨ r.f2.f0 = 3 ∨ r.f2.f0 = 4) (hm : r.f2.f9 = true → r.f2.f0 = 4) (hz : 0 ≤ r.f2.f8.f1 ∧ r.f2.f8.f1 ≤ 1048576) : Inv (insR l r) n := by
  have mem := fun x => mem_ins_iff (x := x) (r := r) h.sorted
  have all : ∀ (P : S44 → Prop), P r → (∀ x ∈ l, P x) → ∀ x ∈ insR l r, P x := fun P h1 h2 x hx => by
    rcases mem_ins hx with rfl | hx
    · exact h1
    · exact h2 x hx
  refine ⟨sorted_ins r h.sorted, all _ ⟨hc, hf⟩ h.clean, ?_, all _ hid h.ids, ?_, all _ hk h.kind, all _ hm h.made, all _ hz h.size, h.next⟩
  · intro x hx q hq
    have hd : ∃ d, lookR l q = some d ∧ d.f2.f0 = 4 := by
      rcases mem_ins hx with rfl | hx
      · exact hup q hq
      · exact h.closed x hx q hq
    rw [look_ins]
    by_cases e : q = pp r
    · subst e
      obtain ⟨d, hd1, hd2⟩ := hd
      exact ⟨r, by rw [if_pos rfl], (hdn d hd1).1 hd2⟩
    · rw [if_neg e]; exact hd
  · intro x hx y hy e
    rcases (mem x).1 hx with rfl | ⟨hx2, nx⟩
    · rcases (mem y).1 hy with rfl | ⟨hy, ny⟩
      · exact ⟨rfl, fun _ => rfl⟩
      · have := hsame y hy ny e.symm
        exact ⟨this.1.symm, fun hne => absurd this.2 hne⟩
    · rcases (mem y).1 hy with rfl | ⟨hy, ny⟩
      · have := hsame x hx2 nx e
        exact ⟨this.1, fun hne => absurd (this.1 ▸ this.2) hne⟩
      · exact h.same x hx2 y hy e

/-! Directories ahead of a path. -/
def dirOf (q : Pth) (i : Int) : S44 := dirRow (mkS (joinS q)) i
theorem pp_dir {q : Pth} (h : ∀ p ∈ q, Good p) (i : Int) : pp (dirOf q i) = q := pp_mk h i _
def parP (l : List S44) (n : Int) : Nat → Pth → List S44 × Int × Int
  | 0, _ => (l, n, 0)
  | k + 1, ps => if ps.dropLast = [] then (l, n, 0) else match lookR l ps.dropLast with
    | some d => (l, n, if d.f2.f0 = 4 then 0 else 130)
    | none => if (parP l n k ps.dropLast).2.2 = 0 then (insR (parP l n k ps.dropLast).1 (dirOf ps.dropLast (parP l n k ps.dropLast).2.1), (parP l n k ps.dropLast).2.1 + 1, 0) else (l, n, (parP l n k ps.dropLast).2.2)
/-- What the directories ahead of a path come to. -/
structure ParOk (l : List S44) (n : Int) (ps : Pth) (r : List S44 × Int × Int) : Prop where
  inv : Inv r.1 r.2.1
  err : r.2.2 = 0 ∨ r.2.2 = 130 ∧ r.1 = l ∧ r.2.1 = n
  bad : r.2.2 = 130 ↔ ∃ q d, Pref q ps ∧ lookR l q = some d ∧ d.f2.f0 ≠ 4
  next : n ≤ r.2.1 ∧ r.2.1 ≤ n + ps.length
  len : (r.1.length : Int) - l.length = r.2.1 - n
  old : ∀ p d, lookR l p = some d → lookR r.1 p = some d
  all : r.2.2 = 0 → ∀ q, Pref q ps → ∃ d, lookR r.1 q = some d ∧ d.f2.f0 = 4
  new : ∀ p d, lookR r.1 p = some d → lookR l p = some d ∨ (lookR l p = none ∧ Pref p ps ∧ ∃ i, d = dirOf p i ∧ n ≤ i ∧ i < r.2.1)
theorem parP_ok {l : List S44} {n : Int} (h : Inv l n) : ∀ (k : Nat) (ps : Pth), ps.length ≤ k → (∀ q, Pref q ps → Cl q) → ParOk l n ps (parP l n k ps)
  | 0, ps, hk, _ => by
    have : ps = [] := List.eq_nil_of_length_eq_zero (by omega)
    subst this
    have np : ∀ q, ¬ Pref q [] := fun q hq => (pref_iff.1 hq).1 rfl
    exact ⟨h, .inl rfl, ⟨fun e => by simp [parP] at e, fun ⟨q, d, hq, _⟩ => absurd hq (np q)⟩, ⟨Int.le_refl _, by simp [parP]⟩, by simp [parP], fun _ _ h => h, fun _ q hq => absurd hq (np q), fun _ _ h => .inl h⟩
  | k + 1, ps, hk, hcl => by
    rw [parP]
    by_cases h0 : ps.dropLast = []
    · rw [if_pos h0]
      have np : ∀ q, ¬ Pref q ps := fun q hq => (pref_iff.1 hq).1 h0
      exact ⟨h, .inl rfl, ⟨fun e => by simp at e, fun ⟨q, d, hq, _⟩ => absurd hq (np q)⟩, ⟨Int.le_refl _, by simp; omega⟩, by simp, fun _ _ h => h, fun _ q hq => absurd hq (np q), fun _ _ h => .inl h⟩
    · rw [if_neg h0]
      have hdl := pref_dl h0
      cases hd : lookR l ps.dropLast with
      | some d =>
        simp only
        have hpre : ∀ q, Pref q ps → q = ps.dropLast ∨ ∃ d, lookR l q = some d ∧ d.f2.f0 = 4 := fun q hq => by
          rcases (pref_iff.1 hq).2 with e | hq
          · exact .inl e
          · exact .inr (h.pre hd hq)
        by_cases h4 : d.f2.f0 = 4
        · rw [if_pos h4]
          refine ⟨h, .inl rfl, ⟨fun e => by simp at e, fun ⟨q, x, hq, hx, hn⟩ => ?_⟩, ⟨Int.le_refl _, by simp; omega⟩, by simp, fun _ _ h => h, fun _ q hq => ?_, fun _ _ h => .inl h⟩
          · rcases hpre q hq with rfl | ⟨d', e1, e2⟩
            · rw [hd] at hx; cases hx; exact absurd h4 hn
            · rw [e1] at hx; cases hx; exact absurd e2 hn
          · rcases hpre q hq with rfl | hh
            · exact ⟨d, hd, h4⟩
            · exact hh
        · rw [if_neg h4]
          exact ⟨h, .inr ⟨rfl, rfl, rfl⟩, ⟨fun _ => ⟨_, d, hdl, hd, h4⟩, fun _ => rfl⟩, ⟨Int.le_refl _, by simp; omega⟩, by simp, fun _ _ h => h, fun e => by simp at e, fun _ _ h => .inl h⟩
      | none =>
        simp only
        have hl : ps.dropLast.length + 1 = ps.length := by rw [List.length_dropLast]; have : ps ≠ [] := fun e => h0 (by rw [e]; rfl); have : 0 < ps.length := List.length_pos_iff.2 this; omega
        have ih := parP_ok h k ps.dropLast (by omega) (fun q hq => hcl q (pref_iff.2 ⟨h0, .inr hq⟩))
        have hcd : Cl ps.dropLast := hcl _ hdl
        generalize parP l n k ps.dropLast = r at ih
        by_cases e0 : r.2.2 = 0
        · rw [if_pos e0]
          have epp := pp_dir hcd.good r.2.1
          have hn1 := ih.next.1
          have hr0 : 0 ≤ n := h.next
          have hno : lookR r.1 ps.dropLast = none := by
            cases hh : lookR r.1 ps.dropLast with
            | none => rfl
            | some d =>
              rcases ih.new _ d hh with h1 | ⟨_, h2, _⟩
              · rw [hd] at h1; cases h1
              · exact absurd rfl (pref_ne h2)
          refine ⟨?_, .inl rfl, ⟨fun e => by simp at e, fun ⟨q, x, hq, hx, hn⟩ => ?_⟩, ⟨by have := ih.next; simp; omega, by have := ih.next; simp; omega⟩, ?_, fun p d hp => ?_, fun _ q hq => ?_, fun p d hp => ?_⟩
          · refine (ih.inv.up (m := r.2.1 + 1) (by omega)).ins _ (by rw [epp]; exact hcd) (by rw [epp]; rfl) (by rw [epp]; exact ih.all e0) (by rw [epp]; intro o ho; rw [hno] at ho; cases ho) ⟨by show 0 ≤ r.2.1; omega, by show r.2.1 < r.2.1 + 1; omega⟩ ?_ (.inr (.inr rfl)) (fun _ => rfl) ⟨by show (0 : Int) ≤ 0; omega, by show (0 : Int) ≤ 1048576; omega⟩
            intro s hs _ e
            have := (ih.inv.ids s hs).2
            have e' : s.f1 = r.2.1 := e
            omega
          · rcases (pref_iff.1 hq).2 with rfl | hq
            · rw [hd] at hx; cases hx
            · have := ih.bad.2 ⟨q, x, hq, hx, hn⟩
              rw [e0] at this; cases this
          · have := len_ins ih.inv.sorted (r := dirOf ps.dropLast r.2.1)
            rw [epp, hno] at this
            simp at this
            have := ih.len
            simp only; omega
          · rw [look_ins, epp]
            by_cases e : p = ps.dropLast
            · subst e; rw [hd] at hp; cases hp
            · rw [if_neg e]; exact ih.old p d hp
          · rw [look_ins, epp]
            rcases (pref_iff.1 hq).2 with rfl | hq
            · exact ⟨_, by rw [if_pos rfl], rfl⟩
            · rw [if_neg (pref_ne hq)]; exact ih.all e0 q hq
          · rw [look_ins, epp] at hp
            by_cases e : p = ps.dropLast
            · rw [if_pos e] at hp
              cases hp
              subst e
              exact .inr ⟨hd, hdl, r.2.1, rfl, hn1, by simp; omega⟩
            · rw [if_neg e] at hp
              rcases ih.new p d hp with h1 | ⟨h1, h2, i, h3, h4, h5⟩
              · exact .inl h1
              · exact .inr ⟨h1, pref_iff.2 ⟨h0, .inr h2⟩, i, h3, h4, by simp; omega⟩
        · rw [if_neg e0]
          have e1 : r.2.2 = 130 := by rcases ih.err with h | h; exact absurd h e0; exact h.1
          refine ⟨h, .inr ⟨e1, rfl, rfl⟩, ⟨fun _ => ?_, fun _ => e1⟩, ⟨Int.le_refl _, by simp; omega⟩, by simp, fun _ _ h => h, fun e => absurd e e0, fun _ _ h => .inl h⟩
          obtain ⟨q, d, hq, hx⟩ := ih.bad.1 e1
          exact ⟨q, d, pref_iff.2 ⟨h0, .inr hq⟩, hx⟩
/-! The program's own: Fit, and the walk's words. -/
/-- Rows that may be searched. -/
structure Wk (l : List S44) : Prop where
  sorted : Sorted l
  clean : ∀ r ∈ l, Cl (pp r) ∧ r.f0 = mkS (joinS (pp r))
theorem Inv.wk {l : List S44} {n : Int} (h : Inv l n) : Wk l := ⟨h.sorted, h.clean⟩
theorem Wk.fit {l : List S44} (h : Wk l) {s : ByteArray} (hl : l.length ≤ 1000000) (hs : s.size ≤ 1000000) : Fit l s :=
  ⟨by omega, hs, fun r hr => by have := h.clean r hr; rw [this.2, mk_size]; have := this.1.len; omega⟩
theorem Wk.ins {l : List S44} (h : Wk l) {r : S44} (hc : Cl (pp r)) (hf : r.f0 = mkS (joinS (pp r))) : Wk (insR l r) :=
  ⟨sorted_ins r h.sorted, fun x hx => by
    rcases mem_ins hx with rfl | hx
    · exact ⟨hc, hf⟩
    · exact h.clean x hx⟩
theorem Inv.fit {l : List S44} {n : Int} (h : Inv l n) {s : ByteArray} (hl : l.length ≤ 1000000) (hs : s.size ≤ 1000000) : Fit l s :=
  ⟨by omega, hs, fun r hr => by have := h.clean r hr; rw [this.2, mk_size]; have := this.1.len; omega⟩
theorem up_join {ps : Pth} (h : Cl ps) : upS (joinS ps) = joinS ps.dropLast := by
  have e := List.dropLast_concat_getLast h.ne
  have hns : (47 : UInt8) ∉ ps.getLast h.ne := (h.good _ (List.getLast_mem h.ne)).slash
  by_cases h1 : ps.dropLast = []
  · rw [h1] at e ⊢
    rw [← e]
    show upS (ps.getLast h.ne) = []
    exact upS_none hns
  · conv => lhs; rw [← e, join_append h1 (by simp)]
    show upS (joinS ps.dropLast ++ 47 :: ps.getLast h.ne) = _
    rw [upS_some hns]
theorem par_is {l : List S44} {n : Int} (h : Inv l n) (hl : l.length ≤ 900000) (hn : n ≤ 900000) : ∀ (k : Nat) (ps : Pth), ps.length ≤ k → Cl ps → ∀ f, (joinS ps).length < f → parG l n f (joinS ps) = some (parP l n k ps)
  | 0, ps, hk, hc, f, hf => absurd (List.eq_nil_of_length_eq_zero (by omega)) hc.ne
  | k + 1, ps, hk, hc, f, hf => by
    obtain ⟨f, rfl⟩ : ∃ g, f = g + 1 := ⟨f - 1, by omega⟩
    rw [parG, up_join hc, parP]
    by_cases h0 : ps.dropLast = []
    · rw [if_pos (by rw [h0]; rfl), if_pos h0]
    have hcd := hc.dl h0
    have hne : joinS ps.dropLast ≠ [] := join_ne hcd.good h0
    rw [if_neg hne, if_neg h0, if_pos (h.fit (by omega) (by rw [mk_size]; have := hcd.len; omega))]
    have sp := at_spec h.sorted (mkS (joinS ps.dropLast))
    rw [mkS_data, parts_join hcd.good] at sp
    have hlen := Cl.length hc
    have hl1 : ps.dropLast.length + 1 = ps.length := by rw [List.length_dropLast]; have : 0 < ps.length := List.length_pos_iff.2 hc.ne; omega
    cases hd : lookR l ps.dropLast with
    | some d =>
      rw [hd] at sp
      have s1 : isAt l (mkS (joinS ps.dropLast)) = true := sp.1
      rw [if_pos s1, ← Option.some.inj (sp.2 s1)]
      by_cases h4 : d.f2.f0 = 4
      · simp only [if_pos h4]
      · simp only [if_neg h4]
    | none =>
      rw [hd] at sp
      rw [if_neg (by rw [sp.1]; simp)]
      have hlt : (joinS ps.dropLast).length < f := by
        have := up_join hc
        have h2 := upS_lt (s := joinS ps) (by rw [this]; exact hne)
        rw [this] at h2; omega
      rw [par_is h hl hn k ps.dropLast (by omega) hcd f hlt, Option.bind_some]
      have ok := parP_ok h k ps.dropLast (by omega) (fun q hq => by
        obtain ⟨hq, t, _, e⟩ := hq
        rw [e] at hcd
        exact hcd.pre hq)
      simp only
      by_cases e0 : (parP l n k ps.dropLast).2.2 = 0
      · have h1 := ok.next
        have h2 := ok.len
        have h3 := h.next
        rw [if_pos e0, if_pos e0, if_pos ⟨ok.inv.fit (by omega) (by rw [mk_size]; have := hcd.len; omega), by omega⟩, put_ins ok.inv.sorted, w64 (by omega) (by omega)]
        rfl
      · rw [if_neg e0, if_neg e0]
end Go.Proofs.YtolpamojbiipaaaDoor.Pure
