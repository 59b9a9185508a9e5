/- joined by xlay.py: UTree, UPlant, UAdd -/
import Derived.Test.YtolpamojbiipaaaDoorEAdd
import Derived.Test.YtolpamojbiipaaaDoorURefSpl
/- Trees as sorted rows: what the search finds, what Put makes, in plain words. -/




namespace Go.Proofs.YtolpamojbiipaaaDoor.Pure
open Go.RowKit Go.Proofs.YtolpamojbiipaaaDoor.XA Go.Proofs.YtolpamojbiipaaaDoorW.PrintWords Go.Proofs.YtolpamojbiipaaaDoorW.PrintLast Go.Proofs.YtolpamojbiipaaaDoorW.PrintMore
set_option linter.unusedSimpArgs false
set_option linter.unusedVariables false

/-- A row's path, part by part. -/
def pp (r : S44) : List (List UInt8) := partsS r.f0.data.toList
def Sorted (l : List S44) : Prop := l.Pairwise (fun a b => cmpP (pp a) (pp b) < 0)
/-- The first row of a path. -/
def lookR : List S44 → List (List UInt8) → Option S44
  | [], _ => none
  | x :: t, p => if pp x = p then some x else lookR t p
/-- A row put among sorted ones. -/
def insR : List S44 → S44 → List S44
  | [], r => [r]
  | x :: t, r => if cmpP (pp x) (pp r) < 0 then x :: insR t r else if pp x = pp r then r :: t else r :: x :: t

theorem cmp_self (x : List (List UInt8)) : cmpP x x = 0 := cmp_zero.2 rfl
theorem cmp_ne {x y : List (List UInt8)} (h : cmpP x y < 0) : x ≠ y := fun e => by rw [e, cmp_self] at h; omega
theorem look_mem : ∀ {l : List S44} {p : List (List UInt8)} {r : S44}, lookR l p = some r → r ∈ l ∧ pp r = p
  | x :: t, p, r, h => by
    rw [lookR] at h
    by_cases e : pp x = p
    · rw [if_pos e] at h; cases h; exact ⟨List.mem_cons_self, e⟩
    · rw [if_neg e] at h; have := look_mem h; exact ⟨List.mem_cons_of_mem _ this.1, this.2⟩
theorem look_none : ∀ {l : List S44} {p : List (List UInt8)}, lookR l p = none ↔ ∀ r ∈ l, pp r ≠ p
  | [], p => by simp [lookR]
  | x :: t, p => by
    rw [lookR]
    by_cases e : pp x = p
    · simp [if_pos e, e]
    · rw [if_neg e, look_none]; simp [e]
theorem look_of : ∀ {l : List S44} {r : S44}, Sorted l → r ∈ l → lookR l (pp r) = some r
  | x :: t, r, hs, h => by
    rw [lookR]
    have hs' := List.pairwise_cons.1 hs
    rcases List.mem_cons.1 h with rfl | h
    · rw [if_pos rfl]
    · rw [if_neg (cmp_ne (hs'.1 r h)), look_of hs'.2 h]
theorem look_iff {l : List S44} (hs : Sorted l) {p : List (List UInt8)} {r : S44} : lookR l p = some r ↔ r ∈ l ∧ pp r = p :=
  ⟨look_mem, fun ⟨h, e⟩ => e ▸ look_of hs h⟩
theorem look_ins : ∀ (l : List S44) (r : S44) (p : List (List UInt8)), lookR (insR l r) p = if p = pp r then some r else lookR l p
  | [], r, p => by
    rw [insR, lookR, lookR]
    by_cases e : pp r = p
    · rw [if_pos e, if_pos e.symm]
    · rw [if_neg e, if_neg (fun h => e h.symm)]; rfl
  | x :: t, r, p => by
    rw [insR]
    by_cases h1 : cmpP (pp x) (pp r) < 0
    · rw [if_pos h1, lookR, look_ins t r p, lookR]
      by_cases e : pp x = p
      · rw [if_pos e, if_pos e, if_neg (fun h => cmp_ne h1 (e.trans h))]
      · rw [if_neg e, if_neg e]
    · rw [if_neg h1]
      by_cases h2 : pp x = pp r
      · rw [if_pos h2, lookR, lookR, h2]
        by_cases e : pp r = p
        · rw [if_pos e, if_pos e.symm]
        · rw [if_neg e, if_neg (fun h => e h.symm), if_neg e]
      · rw [if_neg h2, lookR]
        by_cases e : pp r = p
        · rw [if_pos e, if_pos e.symm]
        · rw [if_neg e, if_neg (fun h => e h.symm)]
theorem mem_ins : ∀ {l : List S44} {r x : S44}, x ∈ insR l r → x = r ∨ x ∈ l
  | [], r, x, h => by rw [insR] at h; exact .inl (List.mem_singleton.1 h)
  | y :: t, r, x, h => by
    rw [insR] at h
    split at h
    · rcases List.mem_cons.1 h with rfl | h
      · exact .inr List.mem_cons_self
      · rcases mem_ins h with h | h
        · exact .inl h
        · exact .inr (List.mem_cons_of_mem _ h)
    · split at h
      · rcases List.mem_cons.1 h with rfl | h
        · exact .inl rfl
        · exact .inr (List.mem_cons_of_mem _ h)
      · rcases List.mem_cons.1 h with rfl | h
        · exact .inl rfl
        · exact .inr h
theorem sorted_ins : ∀ {l : List S44} (r : S44), Sorted l → Sorted (insR l r)
  | [], r, _ => by rw [insR]; exact List.pairwise_singleton _ _
  | x :: t, r, hs => by
    have hs' := List.pairwise_cons.1 hs
    rw [insR]
    by_cases h1 : cmpP (pp x) (pp r) < 0
    · rw [if_pos h1]
      refine List.pairwise_cons.2 ⟨fun y hy => ?_, sorted_ins r hs'.2⟩
      rcases mem_ins hy with rfl | hy
      · exact h1
      · exact hs'.1 y hy
    · rw [if_neg h1]
      by_cases h2 : pp x = pp r
      · rw [if_pos h2]
        exact List.pairwise_cons.2 ⟨fun y hy => by rw [← h2]; exact hs'.1 y hy, hs'.2⟩
      · rw [if_neg h2]
        have h3 : cmpP (pp r) (pp x) < 0 := by
          have := cmp_neg (pp x) (pp r)
          have h0 : cmpP (pp x) (pp r) ≠ 0 := fun e => h2 (cmp_zero.1 e)
          omega
        refine List.pairwise_cons.2 ⟨fun y hy => ?_, hs⟩
        rcases List.mem_cons.1 hy with rfl | hy
        · exact h3
        · exact cmp_trans h3 (hs'.1 y hy)
theorem mem_ins_iff {l : List S44} {r x : S44} (hs : Sorted l) : x ∈ insR l r ↔ x = r ∨ (x ∈ l ∧ pp x ≠ pp r) := by
  have h1 := look_iff (sorted_ins r hs) (p := pp x) (r := x)
  rw [look_ins] at h1
  by_cases e : pp x = pp r
  · rw [if_pos e] at h1
    refine ⟨fun h => .inl (Option.some.inj (h1.2 ⟨h, rfl⟩)).symm, fun h => ?_⟩
    rcases h with rfl | h
    · exact (h1.1 rfl).1
    · exact absurd e h.2
  · rw [if_neg e] at h1
    refine ⟨fun h => .inr ⟨((look_iff hs).1 (h1.2 ⟨h, rfl⟩)).1, e⟩, fun h => ?_⟩
    rcases h with rfl | h
    · exact absurd rfl e
    · exact (h1.1 ((look_iff hs).2 ⟨h.1, rfl⟩)).1
theorem len_ins : ∀ {l : List S44} {r : S44}, Sorted l → (insR l r).length = if (lookR l (pp r)).isSome then l.length else l.length + 1
  | [], r, _ => by simp [insR, lookR]
  | x :: t, r, hs => by
    have hs' := List.pairwise_cons.1 hs
    rw [insR, lookR]
    by_cases h1 : cmpP (pp x) (pp r) < 0
    · rw [if_pos h1, if_neg (cmp_ne h1), List.length_cons, len_ins hs'.2]
      split <;> simp
    · rw [if_neg h1]
      by_cases h2 : pp x = pp r
      · rw [if_pos h2, if_pos h2]; simp
      · rw [if_neg h2, if_neg h2]
        have h3 : cmpP (pp r) (pp x) < 0 := by
          have := cmp_neg (pp x) (pp r)
          have h0 : cmpP (pp x) (pp r) ≠ 0 := fun e => h2 (cmp_zero.1 e)
          omega
        have : lookR t (pp r) = none := look_none.2 (fun y hy e => by
          have := cmp_trans h3 (hs'.1 y hy)
          rw [e, cmp_self] at this; omega)
        rw [this]; simp
theorem len_ins_le {l : List S44} (r : S44) : (insR l r).length ≤ l.length + 1 := by
  induction l with
  | nil => simp [insR]
  | cons x t ih =>
    rw [insR]
    split
    · simp; omega
    · split <;> simp
/-- Sorted rows with the same row at each path are the same. -/
theorem sorted_ext : ∀ {l m : List S44}, Sorted l → Sorted m → (∀ p, lookR l p = lookR m p) → l = m
  | [], [], _, _, _ => rfl
  | [], y :: m, _, _, h => by have := h (pp y); rw [lookR, lookR, if_pos rfl] at this; cases this
  | x :: l, [], _, _, h => by have := h (pp x); rw [lookR, lookR, if_pos rfl] at this; cases this
  | x :: l, y :: m, h1, h2, h => by
    have k1 := List.pairwise_cons.1 h1
    have k2 := List.pairwise_cons.1 h2
    have hx : x ∈ y :: m := (look_mem ((h (pp x)).symm.trans (look_of h1 List.mem_cons_self))).1
    have hy : y ∈ x :: l := (look_mem ((h (pp y)).trans (look_of h2 List.mem_cons_self))).1
    have e : x = y := by
      rcases List.mem_cons.1 hx with e | hx
      · exact e
      rcases List.mem_cons.1 hy with e | hy
      · exact e.symm
      have a := k2.1 x hx
      have b := k1.1 y hy
      have := cmp_trans a b
      rw [cmp_self] at this; omega
    subst e
    congr 1
    refine sorted_ext k1.2 k2.2 (fun p => ?_)
    by_cases e : pp x = p
    · have a : lookR l p = none := look_none.2 (fun r hr e2 => by have := k1.1 r hr; rw [e2, e, cmp_self] at this; omega)
      have b : lookR m p = none := look_none.2 (fun r hr e2 => by have := k2.1 r hr; rw [e2, e, cmp_self] at this; omega)
      rw [a, b]
    · have := h p
      rw [lookR, lookR, if_neg e, if_neg e] at this
      exact this

/-! The search. -/
theorem bs_spec (c : Nat → Int) (n : Nat) (hc : ∀ a b, a ≤ b → b < n → c b < 0 → c a < 0) (i j : Nat) (hij : i ≤ j) (hj : j ≤ n) :
    (∀ m, i ≤ m → m < bsI c i j → c m < 0) ∧ (∀ m, bsI c i j ≤ m → m < j → ¬ c m < 0) := by
  induction i, j using bsI.induct (c := c) with
  | case1 i j hl hneg ih =>
    rw [bsI, dif_pos hl, if_pos hneg]
    have := ih (by omega) hj
    refine ⟨fun m h1 h2 => ?_, this.2⟩
    by_cases hm : m ≤ (i + j) / 2
    · exact hc m _ hm (by omega) hneg
    · exact this.1 m (by omega) h2
  | case2 i j hl hneg ih =>
    rw [bsI, dif_pos hl, if_neg hneg]
    have := ih (by omega) (by omega)
    refine ⟨this.1, fun m h1 h2 hm => ?_⟩
    by_cases hh : m < (i + j) / 2
    · exact this.2 m h1 hh hm
    · exact hneg (hc _ m (by omega) (by omega) hm)
  | case3 i j hl =>
    rw [bsI, dif_neg hl]
    exact ⟨fun m h1 h2 => by omega, fun m h1 h2 => by omega⟩
theorem cmpB_pp (r : S44) (s : ByteArray) : cmpB r.f0 s = cmpP (pp r) (partsS s.data.toList) := rfl
theorem spot_spec {l : List S44} (hs : Sorted l) (s : ByteArray) : ∀ m (h : m < l.length), (m < spot l s ↔ cmpP (pp l[m]) (partsS s.data.toList) < 0) := by
  have g : ∀ m (h : m < l.length), l.getD m z44 = l[m] := fun m h => by rw [List.getD_eq_getElem?_getD, List.getElem?_eq_getElem h]; rfl
  have b := bs_spec (fun i => cmpB (l.getD i z44).f0 s) l.length (fun a b hab hb hcb => by
    rw [g b hb, cmpB_pp] at hcb
    rw [g a (by omega), cmpB_pp]
    by_cases e : a = b
    · subst e; exact hcb
    · exact cmp_trans (List.pairwise_iff_getElem.1 hs a b (by omega) hb (by omega)) hcb) 0 l.length (Nat.zero_le _) (Nat.le_refl _)
  intro m h
  have q := g m h
  refine ⟨fun hm => ?_, fun hm => ?_⟩
  · have := b.1 m (Nat.zero_le _) hm
    simp only [q, cmpB_pp] at this
    exact this
  · refine Nat.lt_of_not_le (fun hle => b.2 m hle h ?_)
    simp only [q, cmpB_pp]
    exact hm
theorem at_spec {l : List S44} (hs : Sorted l) (s : ByteArray) : isAt l s = (lookR l (partsS s.data.toList)).isSome ∧ (isAt l s = true → lookR l (partsS s.data.toList) = some (l.getD (spot l s) z44)) := by
  have g : ∀ m (h : m < l.length), l.getD m z44 = l[m] := fun m h => by rw [List.getD_eq_getElem?_getD, List.getElem?_eq_getElem h]; rfl
  have sp := spot_spec hs s
  by_cases h : isAt l s = true
  · have hlt := isAt_lt h
    have h' := h
    unfold isAt at h'
    rw [Bool.and_eq_true, decide_eq_true_eq, decide_eq_true_eq, g _ hlt, cmpB_pp, cmp_zero] at h'
    have := look_of hs (List.getElem_mem hlt)
    rw [h'.2] at this
    rw [this, h, g _ hlt]
    exact ⟨rfl, fun _ => rfl⟩
  · refine ⟨?_, fun e => absurd e h⟩
    rw [Bool.not_eq_true] at h
    rw [h]
    have : lookR l (partsS s.data.toList) = none := look_none.2 (fun r hr e => by
      obtain ⟨m, hm, rfl⟩ := List.getElem_of_mem hr
      have h0 : cmpP (pp l[m]) (partsS s.data.toList) = 0 := cmp_zero.2 e
      have hge : spot l s ≤ m := Nat.le_of_not_lt (fun hlt => by have := (sp m hm).1 hlt; omega)
      have hlt : spot l s < l.length := by omega
      have h1 : cmpP (pp l[spot l s]) (partsS s.data.toList) = 0 := by
        have a : ¬ cmpP (pp l[spot l s]) (partsS s.data.toList) < 0 := fun hh => by have := (sp _ hlt).2 hh; omega
        by_cases he : spot l s = m
        · simp only [he]; exact h0
        · have := List.pairwise_iff_getElem.1 hs (spot l s) m hlt hm (by omega)
          rw [e] at this
          omega
      unfold isAt at h
      rw [decide_eq_true hlt, Bool.true_and, decide_eq_false_iff_not, g _ hlt, cmpB_pp] at h
      exact h h1)
    rw [this]; rfl
theorem put_ins {l : List S44} (hs : Sorted l) (r : S44) : putL l r = insR l r := by
  have g : ∀ m (h : m < l.length), l.getD m z44 = l[m] := fun m h => by rw [List.getD_eq_getElem?_getD, List.getElem?_eq_getElem h]; rfl
  have sp := spot_spec hs r.f0
  have key : ∀ (k : Nat) (m : List S44), (∀ i (h : i < m.length), (i < k ↔ cmpP (pp m[i]) (pp r) < 0)) →
      insR m r = if ∃ h : k < m.length, pp m[k] = pp r then m.set k r else m.take k ++ r :: m.drop k := by
    intro k m
    induction m generalizing k with
    | nil => intro _; rw [if_neg (by rintro ⟨h, _⟩; simp at h)]; simp [insR]
    | cons x t ih =>
      intro hm
      cases k with
      | zero =>
        have hx : ¬ cmpP (pp x) (pp r) < 0 := fun h => by have := (hm 0 (by simp)).2 h; omega
        rw [insR, if_neg hx]
        by_cases e : pp x = pp r
        · rw [if_pos e, if_pos ⟨by simp, e⟩]; rfl
        · rw [if_neg e, if_neg (by rintro ⟨_, h⟩; exact e h)]; rfl
      | succ k =>
        have hx : cmpP (pp x) (pp r) < 0 := (hm 0 (by simp)).1 (by omega)
        rw [insR, if_pos hx, ih k (fun i h => by have := hm (i + 1) (by simp; omega); simp only [List.getElem_cons_succ] at this; rw [← this]; omega)]
        by_cases e : ∃ h : k < t.length, pp t[k] = pp r
        · rw [if_pos e, if_pos (by obtain ⟨h, e⟩ := e; exact ⟨by simp; omega, e⟩)]; rfl
        · rw [if_neg e, if_neg (by rintro ⟨h, h2⟩; exact e ⟨by simp at h; omega, h2⟩)]; rfl
  have hh := key (spot l r.f0) l (fun i h => sp i h)
  rw [hh]
  unfold putL
  by_cases h : isAt l r.f0 = true
  · have hlt := isAt_lt h
    have h' := h
    unfold isAt at h'
    rw [Bool.and_eq_true, decide_eq_true_eq, decide_eq_true_eq, g _ hlt, cmpB_pp, cmp_zero] at h'
    rw [if_pos h, if_pos ⟨hlt, h'.2⟩]
  · rw [if_neg h, if_neg]
    rintro ⟨hlt, e⟩
    apply h
    unfold isAt
    rw [Bool.and_eq_true, decide_eq_true_eq, decide_eq_true_eq, g _ hlt, cmpB_pp, cmp_zero]
    exact ⟨hlt, e⟩
end Go.Proofs.YtolpamojbiipaaaDoor.Pure
/- Trees of clean paths: directories made, things put, names linked, in plain words. -/

namespace Go.Proofs.YtolpamojbiipaaaDoor.Pure
open Go.RowKit Go.Proofs.YtolpamojbiipaaaDoor.XA Go.Proofs.YtolpamojbiipaaaDoorW.PrintWords Go.Proofs.YtolpamojbiipaaaDoorW.PrintLast Go.Proofs.YtolpamojbiipaaaDoorW.PrintMore
set_option linter.unusedSimpArgs false
set_option linter.unusedVariables false

abbrev Pth := List (List UInt8)
/-- A clean path that isn't the root. -/
structure Cl (ps : Pth) : Prop where
  ne : ps ≠ []
  good : ∀ p ∈ ps, Good p
  len : (joinS ps).length ≤ 300
theorem pp_mk {ps : Pth} (h : ∀ p ∈ ps, Good p) (i : Int) (nd : S42) : pp ⟨mkS (joinS ps), i, nd⟩ = ps := by
  show partsS (mkS (joinS ps)).data.toList = ps
  rw [mkS_data, parts_join h]
theorem join_take_le : ∀ (ps : Pth) (t : Pth), (joinS ps).length ≤ (joinS (ps ++ t)).length
  | [], t => by simp [joinS]
  | ps@(_ :: _), [] => by simp
  | p :: ps, q :: t => by rw [join_append (by simp) (by simp)]; simp
theorem Cl.pre {q t : Pth} (h : Cl (q ++ t)) (hq : q ≠ []) : Cl q :=
  ⟨hq, fun p hp => h.good p (List.mem_append_left _ hp), Nat.le_trans (join_take_le q t) h.len⟩
theorem Cl.dl {ps : Pth} (h : Cl ps) (h1 : ps.dropLast ≠ []) : Cl ps.dropLast := by
  have e := List.dropLast_concat_getLast h.ne
  rw [← e] at h
  exact h.pre h1
theorem Cl.length {ps : Pth} (h : Cl ps) : ps.length ≤ 150 := by
  have : ∀ (xs : Pth), (∀ p ∈ xs, Good p) → xs.length * 2 ≤ (xs.map (fun p => p.length + 1)).sum := by
    intro xs
    induction xs with
    | nil => intro _; simp
    | cons p r ih =>
      intro hg
      have h1 : p ≠ [] := (hg p List.mem_cons_self).ne
      have h2 : 0 < p.length := List.length_pos_iff.2 h1
      have := ih (fun x hx => hg x (List.mem_cons_of_mem _ hx))
      rw [List.map_cons, List.sum_cons, List.length_cons]; omega
  have h1 := this ps h.good
  have h2 := joinS_length ps h.ne
  have h3 := h.len
  omega
/-- Directories ahead of a path: proper, not the root. -/
def Pref (q ps : Pth) : Prop := q ≠ [] ∧ ∃ t, t ≠ [] ∧ ps = q ++ t
theorem pref_dl {ps : Pth} (h1 : ps.dropLast ≠ []) : Pref ps.dropLast ps :=
  have hne : ps ≠ [] := fun e => h1 (by rw [e]; rfl)
  ⟨h1, [ps.getLast hne], by simp, (List.dropLast_concat_getLast hne).symm⟩
theorem pref_iff {q ps : Pth} : Pref q ps ↔ ps.dropLast ≠ [] ∧ (q = ps.dropLast ∨ Pref q ps.dropLast) := by
  constructor
  · rintro ⟨hq, t, ht, rfl⟩
    have e : (q ++ t).dropLast = q ++ t.dropLast := by rw [List.dropLast_append_of_ne_nil ht]
    rw [e]
    refine ⟨by simp [hq], ?_⟩
    by_cases h : t.dropLast = []
    · left; simp [h]
    · right; exact ⟨hq, _, h, rfl⟩
  · rintro ⟨h1, rfl | ⟨hq, t, ht, e⟩⟩
    · exact pref_dl h1
    · have hne : ps ≠ [] := fun e => h1 (by rw [e]; rfl)
      refine ⟨hq, t ++ [ps.getLast hne], by simp, ?_⟩
      rw [← List.append_assoc, ← e, List.dropLast_concat_getLast]
theorem pref_ne {q ps : Pth} (h : Pref q ps) : q ≠ ps := by
  obtain ⟨_, t, ht, e⟩ := h
  intro e2
  have := congrArg List.length e
  rw [e2, List.length_append] at this
  exact ht (List.eq_nil_of_length_eq_zero (by omega))
theorem pref_trans {a b c : Pth} (h : Pref a b) (k : Pref b c) : Pref a c := by
  obtain ⟨ha, t, ht, rfl⟩ := h
  obtain ⟨hb, u, hu, rfl⟩ := k
  exact ⟨ha, t ++ u, by simp [ht], by simp⟩

/-- What is true of all trees that the laws build. -/
structure Inv (l : List S44) (n : Int) : Prop where
  sorted : Sorted l
  clean : ∀ r ∈ l, Cl (pp r) ∧ r.f0 = mkS (joinS (pp r))
  closed : ∀ r ∈ l, ∀ q, Pref q (pp r) → ∃ d, lookR l q = some d ∧ d.f2.f0 = 4
  ids : ∀ r ∈ l, 0 ≤ r.f1 ∧ r.f1 < n
  same : ∀ r ∈ l, ∀ s ∈ l, r.f1 = s.f1 → r.f2 = s.f2 ∧ (r.f2.f0 ≠ 1 → r = s)
  kind : ∀ r ∈ l, r.f2.f0 = 1 ∨ r.f2.f0 = 3 ∨ r.f2.f0 = 4
  made : ∀ r ∈ l, r.f2.f9 = true → r.f2.f0 = 4
  size : ∀ r ∈ l, 0 ≤ r.f2.f8.f1 ∧ r.f2.f8.f1 ≤ 1048576
  next : 0 ≤ n
theorem inv_nil : Inv [] 0 := ⟨List.Pairwise.nil, by simp, by simp, by simp, by simp, by simp, by simp, by simp, Int.le_refl 0⟩
theorem Inv.at {l : List S44} {n : Int} (h : Inv l n) {p : Pth} {r : S44} (hr : lookR l p = some r) : r ∈ l ∧ pp r = p := look_mem hr
theorem Inv.pre {l : List S44} {n : Int} (h : Inv l n) {p q : Pth} {r : S44} (hr : lookR l p = some r) (hq : Pref q p) : ∃ d, lookR l q = some d ∧ d.f2.f0 = 4 :=
  h.closed r (look_mem hr).1 q (by rw [(look_mem hr).2]; exact hq)
theorem Inv.up {l : List S44} {n : Int} (h : Inv l n) {m : Int} (hm : n ≤ m) : Inv l m :=
  ⟨h.sorted, h.clean, h.closed, fun r hr => ⟨(h.ids r hr).1, Int.lt_of_lt_of_le (h.ids r hr).2 hm⟩, h.same, h.kind, h.made, h.size, Int.le_trans h.next hm⟩
/-- A row put that isn't another's file: of a number that no other row has, or of a file of that number. -/
theorem Inv.ins {l : List S44} {n : Int} (h : Inv l n) (r : S44) (hc : Cl (pp r)) (hf : r.f0 = mkS (joinS (pp r)))
    (hup : ∀ q, Pref q (pp r) → ∃ d, lookR l q = some d ∧ d.f2.f0 = 4)
    (hdn : ∀ o, lookR l (pp r) = some o → (o.f2.f0 = 4 ↔ r.f2.f0 = 4))
    (hid : 0 ≤ r.f1 ∧ r.f1 < n)
    (hsame : ∀ s ∈ l, pp s ≠ pp r → s.f1 = r.f1 → s.f2 = r.f2 ∧ r.f2.f0 = 1)
    (hk : r.f2.f0 = 1 ∨ r.f2.f0 = 3 ∨ r.f2.f0 = 4) (hm : r.f2.f9 = true → r.f2.f0 = 4) (hz : 0 ≤ r.f2.f8.f1 ∧ r.f2.f8.f1 ≤ 1048576) : Inv (insR l r) n := by
  have mem := fun x => mem_ins_iff (x := x) (r := r) h.sorted
  have all : ∀ (P : S44 → Prop), P r → (∀ x ∈ l, P x) → ∀ x ∈ insR l r, P x := fun P h1 h2 x hx => by
    rcases mem_ins hx with rfl | hx
    · exact h1
    · exact h2 x hx
  refine ⟨sorted_ins r h.sorted, all _ ⟨hc, hf⟩ h.clean, ?_, all _ hid h.ids, ?_, all _ hk h.kind, all _ hm h.made, all _ hz h.size, h.next⟩
  · intro x hx q hq
    have hd : ∃ d, lookR l q = some d ∧ d.f2.f0 = 4 := by
      rcases mem_ins hx with rfl | hx
      · exact hup q hq
      · exact h.closed x hx q hq
    rw [look_ins]
    by_cases e : q = pp r
    · subst e
      obtain ⟨d, hd1, hd2⟩ := hd
      exact ⟨r, by rw [if_pos rfl], (hdn d hd1).1 hd2⟩
    · rw [if_neg e]; exact hd
  · intro x hx y hy e
    rcases (mem x).1 hx with rfl | ⟨hx2, nx⟩
    · rcases (mem y).1 hy with rfl | ⟨hy, ny⟩
      · exact ⟨rfl, fun _ => rfl⟩
      · have := hsame y hy ny e.symm
        exact ⟨this.1.symm, fun hne => absurd this.2 hne⟩
    · rcases (mem y).1 hy with rfl | ⟨hy, ny⟩
      · have := hsame x hx2 nx e
        exact ⟨this.1, fun hne => absurd (this.1 ▸ this.2) hne⟩
      · exact h.same x hx2 y hy e

/-! Directories ahead of a path. -/
def dirOf (q : Pth) (i : Int) : S44 := dirRow (mkS (joinS q)) i
theorem pp_dir {q : Pth} (h : ∀ p ∈ q, Good p) (i : Int) : pp (dirOf q i) = q := pp_mk h i _
def parP (l : List S44) (n : Int) : Nat → Pth → List S44 × Int × Int
  | 0, _ => (l, n, 0)
  | k + 1, ps => if ps.dropLast = [] then (l, n, 0) else match lookR l ps.dropLast with
    | some d => (l, n, if d.f2.f0 = 4 then 0 else 130)
    | none => if (parP l n k ps.dropLast).2.2 = 0 then (insR (parP l n k ps.dropLast).1 (dirOf ps.dropLast (parP l n k ps.dropLast).2.1), (parP l n k ps.dropLast).2.1 + 1, 0) else (l, n, (parP l n k ps.dropLast).2.2)
/-- What the directories ahead of a path come to. -/
structure ParOk (l : List S44) (n : Int) (ps : Pth) (r : List S44 × Int × Int) : Prop where
  inv : Inv r.1 r.2.1
  err : r.2.2 = 0 ∨ r.2.2 = 130 ∧ r.1 = l ∧ r.2.1 = n
  bad : r.2.2 = 130 ↔ ∃ q d, Pref q ps ∧ lookR l q = some d ∧ d.f2.f0 ≠ 4
  next : n ≤ r.2.1 ∧ r.2.1 ≤ n + ps.length
  len : (r.1.length : Int) - l.length = r.2.1 - n
  old : ∀ p d, lookR l p = some d → lookR r.1 p = some d
  all : r.2.2 = 0 → ∀ q, Pref q ps → ∃ d, lookR r.1 q = some d ∧ d.f2.f0 = 4
  new : ∀ p d, lookR r.1 p = some d → lookR l p = some d ∨ (lookR l p = none ∧ Pref p ps ∧ ∃ i, d = dirOf p i ∧ n ≤ i ∧ i < r.2.1)
theorem parP_ok {l : List S44} {n : Int} (h : Inv l n) : ∀ (k : Nat) (ps : Pth), ps.length ≤ k → (∀ q, Pref q ps → Cl q) → ParOk l n ps (parP l n k ps)
  | 0, ps, hk, _ => by
    have : ps = [] := List.eq_nil_of_length_eq_zero (by omega)
    subst this
    have np : ∀ q, ¬ Pref q [] := fun q hq => (pref_iff.1 hq).1 rfl
    exact ⟨h, .inl rfl, ⟨fun e => by simp [parP] at e, fun ⟨q, d, hq, _⟩ => absurd hq (np q)⟩, ⟨Int.le_refl _, by simp [parP]⟩, by simp [parP], fun _ _ h => h, fun _ q hq => absurd hq (np q), fun _ _ h => .inl h⟩
  | k + 1, ps, hk, hcl => by
    rw [parP]
    by_cases h0 : ps.dropLast = []
    · rw [if_pos h0]
      have np : ∀ q, ¬ Pref q ps := fun q hq => (pref_iff.1 hq).1 h0
      exact ⟨h, .inl rfl, ⟨fun e => by simp at e, fun ⟨q, d, hq, _⟩ => absurd hq (np q)⟩, ⟨Int.le_refl _, by simp; omega⟩, by simp, fun _ _ h => h, fun _ q hq => absurd hq (np q), fun _ _ h => .inl h⟩
    · rw [if_neg h0]
      have hdl := pref_dl h0
      cases hd : lookR l ps.dropLast with
      | some d =>
        simp only
        have hpre : ∀ q, Pref q ps → q = ps.dropLast ∨ ∃ d, lookR l q = some d ∧ d.f2.f0 = 4 := fun q hq => by
          rcases (pref_iff.1 hq).2 with e | hq
          · exact .inl e
          · exact .inr (h.pre hd hq)
        by_cases h4 : d.f2.f0 = 4
        · rw [if_pos h4]
          refine ⟨h, .inl rfl, ⟨fun e => by simp at e, fun ⟨q, x, hq, hx, hn⟩ => ?_⟩, ⟨Int.le_refl _, by simp; omega⟩, by simp, fun _ _ h => h, fun _ q hq => ?_, fun _ _ h => .inl h⟩
          · rcases hpre q hq with rfl | ⟨d', e1, e2⟩
            · rw [hd] at hx; cases hx; exact absurd h4 hn
            · rw [e1] at hx; cases hx; exact absurd e2 hn
          · rcases hpre q hq with rfl | hh
            · exact ⟨d, hd, h4⟩
            · exact hh
        · rw [if_neg h4]
          exact ⟨h, .inr ⟨rfl, rfl, rfl⟩, ⟨fun _ => ⟨_, d, hdl, hd, h4⟩, fun _ => rfl⟩, ⟨Int.le_refl _, by simp; omega⟩, by simp, fun _ _ h => h, fun e => by simp at e, fun _ _ h => .inl h⟩
      | none =>
        simp only
        have hl : ps.dropLast.length + 1 = ps.length := by rw [List.length_dropLast]; have : ps ≠ [] := fun e => h0 (by rw [e]; rfl); have : 0 < ps.length := List.length_pos_iff.2 this; omega
        have ih := parP_ok h k ps.dropLast (by omega) (fun q hq => hcl q (pref_iff.2 ⟨h0, .inr hq⟩))
        have hcd : Cl ps.dropLast := hcl _ hdl
        generalize parP l n k ps.dropLast = r at ih
        by_cases e0 : r.2.2 = 0
        · rw [if_pos e0]
          have epp := pp_dir hcd.good r.2.1
          have hn1 := ih.next.1
          have hr0 : 0 ≤ n := h.next
          have hno : lookR r.1 ps.dropLast = none := by
            cases hh : lookR r.1 ps.dropLast with
            | none => rfl
            | some d =>
              rcases ih.new _ d hh with h1 | ⟨_, h2, _⟩
              · rw [hd] at h1; cases h1
              · exact absurd rfl (pref_ne h2)
          refine ⟨?_, .inl rfl, ⟨fun e => by simp at e, fun ⟨q, x, hq, hx, hn⟩ => ?_⟩, ⟨by have := ih.next; simp; omega, by have := ih.next; simp; omega⟩, ?_, fun p d hp => ?_, fun _ q hq => ?_, fun p d hp => ?_⟩
          · refine (ih.inv.up (m := r.2.1 + 1) (by omega)).ins _ (by rw [epp]; exact hcd) (by rw [epp]; rfl) (by rw [epp]; exact ih.all e0) (by rw [epp]; intro o ho; rw [hno] at ho; cases ho) ⟨by show 0 ≤ r.2.1; omega, by show r.2.1 < r.2.1 + 1; omega⟩ ?_ (.inr (.inr rfl)) (fun _ => rfl) ⟨by show (0 : Int) ≤ 0; omega, by show (0 : Int) ≤ 1048576; omega⟩
            intro s hs _ e
            have := (ih.inv.ids s hs).2
            have e' : s.f1 = r.2.1 := e
            omega
          · rcases (pref_iff.1 hq).2 with rfl | hq
            · rw [hd] at hx; cases hx
            · have := ih.bad.2 ⟨q, x, hq, hx, hn⟩
              rw [e0] at this; cases this
          · have := len_ins ih.inv.sorted (r := dirOf ps.dropLast r.2.1)
            rw [epp, hno] at this
            simp at this
            have := ih.len
            simp only; omega
          · rw [look_ins, epp]
            by_cases e : p = ps.dropLast
            · subst e; rw [hd] at hp; cases hp
            · rw [if_neg e]; exact ih.old p d hp
          · rw [look_ins, epp]
            rcases (pref_iff.1 hq).2 with rfl | hq
            · exact ⟨_, by rw [if_pos rfl], rfl⟩
            · rw [if_neg (pref_ne hq)]; exact ih.all e0 q hq
          · rw [look_ins, epp] at hp
            by_cases e : p = ps.dropLast
            · rw [if_pos e] at hp
              cases hp
              subst e
              exact .inr ⟨hd, hdl, r.2.1, rfl, hn1, by simp; omega⟩
            · rw [if_neg e] at hp
              rcases ih.new p d hp with h1 | ⟨h1, h2, i, h3, h4, h5⟩
              · exact .inl h1
              · exact .inr ⟨h1, pref_iff.2 ⟨h0, .inr h2⟩, i, h3, h4, by simp; omega⟩
        · rw [if_neg e0]
          have e1 : r.2.2 = 130 := by rcases ih.err with h | h; exact absurd h e0; exact h.1
          refine ⟨h, .inr ⟨e1, rfl, rfl⟩, ⟨fun _ => ?_, fun _ => e1⟩, ⟨Int.le_refl _, by simp; omega⟩, by simp, fun _ _ h => h, fun e => absurd e e0, fun _ _ h => .inl h⟩
          obtain ⟨q, d, hq, hx⟩ := ih.bad.1 e1
          exact ⟨q, d, pref_iff.2 ⟨h0, .inr hq⟩, hx⟩
/-! The program's own: Fit, and the walk's words. -/
/-- Rows that may be searched. -/
structure Wk (l : List S44) : Prop where
  sorted : Sorted l
  clean : ∀ r ∈ l, Cl (pp r) ∧ r.f0 = mkS (joinS (pp r))
theorem Inv.wk {l : List S44} {n : Int} (h : Inv l n) : Wk l := ⟨h.sorted, h.clean⟩
theorem Wk.fit {l : List S44} (h : Wk l) {s : ByteArray} (hl : l.length ≤ 1000000) (hs : s.size ≤ 1000000) : Fit l s :=
  ⟨by omega, hs, fun r hr => by have := h.clean r hr; rw [this.2, mk_size]; have := this.1.len; omega⟩
theorem Wk.ins {l : List S44} (h : Wk l) {r : S44} (hc : Cl (pp r)) (hf : r.f0 = mkS (joinS (pp r))) : Wk (insR l r) :=
  ⟨sorted_ins r h.sorted, fun x hx => by
    rcases mem_ins hx with rfl | hx
    · exact ⟨hc, hf⟩
    · exact h.clean x hx⟩
theorem Inv.fit {l : List S44} {n : Int} (h : Inv l n) {s : ByteArray} (hl : l.length ≤ 1000000) (hs : s.size ≤ 1000000) : Fit l s :=
  ⟨by omega, hs, fun r hr => by have := h.clean r hr; rw [this.2, mk_size]; have := this.1.len; omega⟩
theorem up_join {ps : Pth} (h : Cl ps) : upS (joinS ps) = joinS ps.dropLast := by
  have e := List.dropLast_concat_getLast h.ne
  have hns : (47 : UInt8) ∉ ps.getLast h.ne := (h.good _ (List.getLast_mem h.ne)).slash
  by_cases h1 : ps.dropLast = []
  · rw [h1] at e ⊢
    rw [← e]
    show upS (ps.getLast h.ne) = []
    exact upS_none hns
  · conv => lhs; rw [← e, join_append h1 (by simp)]
    show upS (joinS ps.dropLast ++ 47 :: ps.getLast h.ne) = _
    rw [upS_some hns]
theorem par_is {l : List S44} {n : Int} (h : Inv l n) (hl : l.length ≤ 900000) (hn : n ≤ 900000) : ∀ (k : Nat) (ps : Pth), ps.length ≤ k → Cl ps → ∀ f, (joinS ps).length < f → parG l n f (joinS ps) = some (parP l n k ps)
  | 0, ps, hk, hc, f, hf => absurd (List.eq_nil_of_length_eq_zero (by omega)) hc.ne
  | k + 1, ps, hk, hc, f, hf => by
    obtain ⟨f, rfl⟩ : ∃ g, f = g + 1 := ⟨f - 1, by omega⟩
    rw [parG, up_join hc, parP]
    by_cases h0 : ps.dropLast = []
    · rw [if_pos (by rw [h0]; rfl), if_pos h0]
    have hcd := hc.dl h0
    have hne : joinS ps.dropLast ≠ [] := join_ne hcd.good h0
    rw [if_neg hne, if_neg h0, if_pos (h.fit (by omega) (by rw [mk_size]; have := hcd.len; omega))]
    have sp := at_spec h.sorted (mkS (joinS ps.dropLast))
    rw [mkS_data, parts_join hcd.good] at sp
    have hlen := Cl.length hc
    have hl1 : ps.dropLast.length + 1 = ps.length := by rw [List.length_dropLast]; have : 0 < ps.length := List.length_pos_iff.2 hc.ne; omega
    cases hd : lookR l ps.dropLast with
    | some d =>
      rw [hd] at sp
      have s1 : isAt l (mkS (joinS ps.dropLast)) = true := sp.1
      rw [if_pos s1, ← Option.some.inj (sp.2 s1)]
      by_cases h4 : d.f2.f0 = 4
      · simp only [if_pos h4]
      · simp only [if_neg h4]
    | none =>
      rw [hd] at sp
      rw [if_neg (by rw [sp.1]; simp)]
      have hlt : (joinS ps.dropLast).length < f := by
        have := up_join hc
        have h2 := upS_lt (s := joinS ps) (by rw [this]; exact hne)
        rw [this] at h2; omega
      rw [par_is h hl hn k ps.dropLast (by omega) hcd f hlt, Option.bind_some]
      have ok := parP_ok h k ps.dropLast (by omega) (fun q hq => by
        obtain ⟨hq, t, _, e⟩ := hq
        rw [e] at hcd
        exact hcd.pre hq)
      simp only
      by_cases e0 : (parP l n k ps.dropLast).2.2 = 0
      · have h1 := ok.next
        have h2 := ok.len
        have h3 := h.next
        rw [if_pos e0, if_pos e0, if_pos ⟨ok.inv.fit (by omega) (by rw [mk_size]; have := hcd.len; omega), by omega⟩, put_ins ok.inv.sorted, w64 (by omega) (by omega)]
        rfl
      · rw [if_neg e0, if_neg e0]
end Go.Proofs.YtolpamojbiipaaaDoor.Pure
/- Add, in plain words: what the tree has behind it. -/

namespace Go.Proofs.YtolpamojbiipaaaDoor.Pure
open Go.RowKit Go.Proofs.YtolpamojbiipaaaDoor.XA Go.Proofs.YtolpamojbiipaaaDoorW.PrintWords Go.Proofs.YtolpamojbiipaaaDoorW.PrintLast Go.Proofs.YtolpamojbiipaaaDoorW.PrintMore
set_option linter.unusedSimpArgs false
set_option linter.unusedVariables false

def rowOf (ps : Pth) (i : Int) (nd : S42) : S44 := ⟨mkS (joinS ps), i, nd⟩
/-- The number that a thing gets. -/
def idP (l : List S44) (nd : S42) (ps : Pth) (n : Int) : Int := if nd.f0 = 4 then (match lookR l ps with | some o => o.f1 | none => n) else n
def upP (l : List S44) (nd : S42) (ps : Pth) (n : Int) : Int := if nd.f0 = 4 then (match lookR l ps with | some _ => n | none => n + 1) else n + 1
/-- Does something of another sort stand there? -/
def clashP (l : List S44) (nd : S42) (ps : Pth) : Bool := match lookR l ps with | some o => (o.f2.f0 == 4) != (nd.f0 == 4) | none => false
def addP (l : List S44) (n : Int) (ps : Pth) (nd : S42) : List S44 × Int × Int :=
  if ps = [] then (l, n, 100) else if clashP l nd ps = true then (l, n, 130) else
    if (parP l n ps.length ps).2.2 = 0 then (insR (parP l n ps.length ps).1 (rowOf ps (idP l nd ps (parP l n ps.length ps).2.1) nd), upP l nd ps (parP l n ps.length ps).2.1, 0)
    else (l, n, (parP l n ps.length ps).2.2)
theorem pref_cl {ps : Pth} (h : Cl ps) : ∀ q, Pref q ps → Cl q := by
  rintro q ⟨hq, t, _, e⟩
  rw [e] at h
  exact h.pre hq
theorem add_is {l : List S44} {n : Int} (h : Inv l n) (hl : l.length ≤ 800000) (hn : n ≤ 800000) {ps : Pth} (hc : ps = [] ∨ Cl ps) (nd : S42) :
    tree_Tree_Add.f l n (mkS (joinS ps)) nd.f0 nd.f1 nd.f2 nd.f3 nd.f4 nd.f5 nd.f6 nd.f7 nd.f8.f0 nd.f8.f1 nd.f9 = some (addP l n ps nd) := by
  unfold tree_Tree_Add.f addP
  rw [mk_toList]
  rcases hc with rfl | hc
  · rw [if_pos (show joinS [] = [] from rfl), if_pos rfl]
  have hj : joinS ps ≠ [] := join_ne hc.good hc.ne
  have hlen := hc.len
  rw [if_neg hj, if_neg hc.ne, if_pos (h.fit (by omega) (by rw [mk_size]; omega))]
  have sp := at_spec h.sorted (mkS (joinS ps))
  rw [mkS_data, parts_join hc.good] at sp
  have hpar : tree_Tree_parents.f l n (mkS (joinS ps)) = some (parP l n ps.length ps) := by
    unfold tree_Tree_parents.f
    rw [mk_size, if_pos (by omega), mkS_data]
    exact par_is h (by omega) (by omega) ps.length ps (Nat.le_refl _) hc _ (by omega)
  have ok := parP_ok h ps.length ps (Nat.le_refl _) (pref_cl hc)
  have h1 := ok.next
  have h2 := ok.len
  have h3 := h.next
  have h4 := hc.length
  rw [hpar]
  generalize parP l n ps.length ps = r at ok h1 h2 ⊢
  have hput : ∀ (m i : Int), tree_Tree_Put.f r.1 m (mkS (joinS ps)) i nd.f0 nd.f1 nd.f2 nd.f3 nd.f4 nd.f5 nd.f6 nd.f7 nd.f8.f0 nd.f8.f1 nd.f9 = some (insR r.1 (rowOf ps i nd), m) := fun m i => by
    unfold tree_Tree_Put.f
    rw [if_pos ⟨ok.inv.fit (by omega) (by rw [mk_size]; omega), by omega⟩]
    rw [put_ins ok.inv.sorted]
    rfl
  have hw : wrap64 (r.2.1 + 1) = r.2.1 + 1 := w64 (by omega) (by omega)
  simp only [Option.bind_some, hput, hw]
  unfold clashP idP upP
  cases hd : lookR l ps with
  | none =>
    rw [hd] at sp
    rw [if_neg (by rw [sp.1]; simp)]
    simp only [Bool.false_eq_true, if_false]
    by_cases e0 : r.2.2 = 0
    · rw [if_pos e0, if_pos e0]
      by_cases e4 : nd.f0 = 4 <;> simp [e4]
    · rw [if_neg e0, if_neg e0]
  | some o =>
    rw [hd] at sp
    have s1 : isAt l (mkS (joinS ps)) = true := sp.1
    rw [if_pos s1, ← Option.some.inj (sp.2 s1)]
    simp only
    by_cases ek : (o.f2.f0 == 4) = (nd.f0 == 4)
    · rw [if_pos ek, if_neg (show ¬ ((o.f2.f0 == 4) != (nd.f0 == 4)) = true by rw [ek]; simp)]
      by_cases e0 : r.2.2 = 0
      · rw [if_pos e0, if_pos e0]
        by_cases e4 : nd.f0 = 4 <;> simp [e4]
      · rw [if_neg e0, if_neg e0]
    · rw [if_neg ek, if_pos (show ((o.f2.f0 == 4) != (nd.f0 == 4)) = true from bne_iff_ne.2 ek)]

/-- What the laws put: a file of so many bytes, a name, a directory. -/
structure Nd (nd : S42) : Prop where
  kind : nd.f0 = 1 ∨ nd.f0 = 3 ∨ nd.f0 = 4
  made : nd.f9 = false
  size : 0 ≤ nd.f8.f1 ∧ nd.f8.f1 ≤ 1048576
structure AddOk (l : List S44) (n : Int) (ps : Pth) (nd : S42) (r : List S44 × Int × Int) : Prop where
  inv : Inv r.1 r.2.1
  err : r.2.2 = 0 ∨ r.1 = l ∧ r.2.1 = n
  next : n ≤ r.2.1 ∧ r.2.1 ≤ n + 151
  len : l.length ≤ r.1.length ∧ r.1.length ≤ l.length + 151
  cl : r.2.2 = 0 → Cl ps
  pre : r.2.2 = 0 → ∀ q, Pref q ps → ∃ d, lookR r.1 q = some d ∧ d.f2.f0 = 4
  look_ : r.2.2 = 0 → ∃ i, lookR r.1 ps = some (rowOf ps i nd) ∧ (n ≤ i ∧ i < r.2.1 ∨ nd.f0 = 4 ∧ ∃ o, lookR l ps = some o ∧ o.f1 = i) ∧
    ∀ p d, p ≠ ps → (lookR r.1 p = some d ↔ lookR l p = some d ∨ (lookR l p = none ∧ lookR r.1 p = some d ∧ Pref p ps ∧ ∃ j, d = dirOf p j ∧ n ≤ j ∧ j < i ∧ j < r.2.1))
theorem pp_row {ps : Pth} (h : Cl ps) (i : Int) (nd : S42) : pp (rowOf ps i nd) = ps := pp_mk h.good i nd
theorem addP_err {l : List S44} {n : Int} (h : Inv l n) {ps : Pth} (hc : ps = [] ∨ Cl ps) (nd : S42) : (addP l n ps nd).2.2 = 0 ↔ ps ≠ [] ∧ clashP l nd ps = false ∧ ∀ q d, Pref q ps → lookR l q = some d → d.f2.f0 = 4 := by
  unfold addP
  rcases hc with rfl | hc
  · simp
  rw [if_neg hc.ne]
  have ok := parP_ok h ps.length ps (Nat.le_refl _) (pref_cl hc)
  by_cases e1 : clashP l nd ps = true
  · rw [if_pos e1]; simp [e1]
  rw [if_neg e1]
  by_cases e0 : (parP l n ps.length ps).2.2 = 0
  · rw [if_pos e0]
    refine ⟨fun _ => ⟨hc.ne, by simpa using e1, fun q d hq hd => ?_⟩, fun _ => rfl⟩
    by_cases h4 : d.f2.f0 = 4
    · exact h4
    · have := ok.bad.2 ⟨q, d, hq, hd, h4⟩
      rw [e0] at this; cases this
  · rw [if_neg e0]
    refine ⟨fun h => absurd h e0, fun ⟨_, _, hh⟩ => ?_⟩
    have e3 : (parP l n ps.length ps).2.2 = 130 := by rcases ok.err with h | h; exact absurd h e0; exact h.1
    obtain ⟨q, d, hq, hd, h4⟩ := ok.bad.1 e3
    exact absurd (hh q d hq hd) h4
theorem addP_ok {l : List S44} {n : Int} (h : Inv l n) {ps : Pth} (hc : ps = [] ∨ Cl ps) {nd : S42} (hnd : Nd nd) : AddOk l n ps nd (addP l n ps nd) := by
  unfold addP
  have same : ∀ e : Int, e ≠ 0 → AddOk l n ps nd (l, n, e) := fun e he => ⟨h, .inr ⟨rfl, rfl⟩, ⟨Int.le_refl _, by simp; omega⟩, ⟨Nat.le_refl _, by simp⟩, fun h => absurd h he, fun h => absurd h he, fun h => absurd h he⟩
  rcases hc with rfl | hc
  · rw [if_pos rfl]; exact same 100 (by omega)
  rw [if_neg hc.ne]
  by_cases e1 : clashP l nd ps = true
  · rw [if_pos e1]; exact same 130 (by omega)
  rw [if_neg e1]
  have ok := parP_ok h ps.length ps (Nat.le_refl _) (pref_cl hc)
  have hlen := hc.length
  generalize parP l n ps.length ps = r at ok
  by_cases e0 : r.2.2 = 0
  · rw [if_pos e0]
    have h1 := ok.next
    have h2 := ok.len
    have h3 := h.next
    -- a thing's own row
    have hnot : ∀ d, lookR r.1 ps = some d → lookR l ps = some d := fun d hd => by
      rcases ok.new _ d hd with h | ⟨_, h, _⟩
      · exact h
      · exact absurd rfl (pref_ne h)
    have hid : (n ≤ idP l nd ps r.2.1 ∧ idP l nd ps r.2.1 < upP l nd ps r.2.1 ∧ (∀ s ∈ r.1, s.f1 ≠ idP l nd ps r.2.1) ∧ idP l nd ps r.2.1 = r.2.1) ∨ (nd.f0 = 4 ∧ ∃ o, lookR l ps = some o ∧ o.f1 = idP l nd ps r.2.1 ∧ upP l nd ps r.2.1 = r.2.1) := by
      unfold idP upP
      by_cases e4 : nd.f0 = 4
      · rw [if_pos e4, if_pos e4]
        cases hd : lookR l ps with
        | none => exact .inl ⟨h1.1, by simp; omega, fun s hs e => by have := (ok.inv.ids s hs).2; simp at e; omega, rfl⟩
        | some o => exact .inr ⟨e4, o, rfl, rfl, rfl⟩
      · rw [if_neg e4, if_neg e4]
        exact .inl ⟨h1.1, by omega, fun s hs e => by have := (ok.inv.ids s hs).2; omega, rfl⟩
    have hup : r.2.1 ≤ upP l nd ps r.2.1 ∧ upP l nd ps r.2.1 ≤ r.2.1 + 1 := by
      unfold upP
      split
      · split <;> omega
      · omega
    have epp := pp_row hc (idP l nd ps r.2.1) nd
    have hll := len_ins ok.inv.sorted (r := rowOf ps (idP l nd ps r.2.1) nd)
    have hinv : Inv (insR r.1 (rowOf ps (idP l nd ps r.2.1) nd)) (upP l nd ps r.2.1) := by
      refine (ok.inv.up hup.1).ins _ (by rw [epp]; exact hc) (by rw [epp]; rfl) (by rw [epp]; exact ok.all e0) ?_ ?_ ?_ hnd.kind (fun e => by have e' : nd.f9 = true := e; rw [hnd.made] at e'; cases e') hnd.size
      · rw [epp]
        intro o ho
        have := hnot o ho
        unfold clashP at e1
        rw [this] at e1
        show o.f2.f0 = 4 ↔ nd.f0 = 4
        have e2 : (o.f2.f0 == 4) = (nd.f0 == 4) := by simpa using e1
        by_cases a : o.f2.f0 = 4 <;> by_cases b : nd.f0 = 4 <;> simp [a, b] at e2 ⊢
      · show 0 ≤ idP l nd ps r.2.1 ∧ idP l nd ps r.2.1 < upP l nd ps r.2.1
        rcases hid with ⟨a, b, _, _⟩ | ⟨_, o, ho, e, e2⟩
        · omega
        · have := h.ids o (look_mem ho).1
          omega
      · rw [epp]
        intro s hs hne e
        have e' : s.f1 = idP l nd ps r.2.1 := e
        rcases hid with ⟨_, _, hf, _⟩ | ⟨h4, o, ho, eo, _⟩
        · exact absurd e' (hf s hs)
        · have ho1 := ok.old _ _ ho
          have := ok.inv.same s hs o (look_mem ho1).1 (by omega)
          have hk : o.f2.f0 = 4 := by
            unfold clashP at e1
            rw [ho] at e1
            simp [h4] at e1
            exact e1
          have := this.2 (by rw [this.1, hk]; omega)
          rw [this, (look_mem ho1).2] at hne
          exact absurd rfl hne
    refine ⟨hinv, .inl rfl, ⟨by simp; omega, by simp; omega⟩, ?_, fun _ => hc, fun _ q hq => ?_, fun _ => ⟨idP l nd ps r.2.1, ?_, ?_, fun p d hp => ?_⟩⟩
    · rw [hll]
      split
      · exact ⟨by omega, by omega⟩
      · exact ⟨by omega, by omega⟩
    · rw [look_ins, epp, if_neg (pref_ne hq)]
      exact ok.all e0 q hq
    · rw [look_ins, epp, if_pos rfl]
    · rcases hid with ⟨a, b, _, _⟩ | ⟨h4, o, ho, eo, _⟩
      · exact .inl ⟨a, b⟩
      · exact .inr ⟨h4, o, ho, eo⟩
    · simp only
      rw [look_ins, epp, if_neg hp]
      refine ⟨fun hd => ?_, fun hd => ?_⟩
      · rcases ok.new p d hd with h | ⟨h5, h6, j, h7, h8, h9⟩
        · exact .inl h
        · refine .inr ⟨h5, hd, h6, j, h7, h8, ?_, by omega⟩
          rcases hid with ⟨_, _, _, e⟩ | ⟨_, o, ho, _⟩
          · omega
          · obtain ⟨d', hd', _⟩ := h.pre ho h6
            rw [hd'] at h5; cases h5
      · rcases hd with hd | hd
        · exact ok.old p d hd
        · exact hd.2.1
  · rw [if_neg e0]
    exact same _ e0
end Go.Proofs.YtolpamojbiipaaaDoor.Pure
