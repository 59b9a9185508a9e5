/- Trees as sorted rows: what the search finds, what Put makes, in plain words. -/
import Derived.Test.YtolpamojbiipaaaDoorEAdd
import Derived.Test.YtolpamojbiipaaaDoorUCmp
import Derived.Test.YtolpamojbiipaaaDoorUUnder
import Derived.Test.YtolpamojbiipaaaDoorUUp
namespace Go.Proofs.YtolpamojbiipaaaDoor.Pure
open Go.RowKit Go.Proofs.YtolpamojbiipaaaDoor.XA Go.Proofs.YtolpamojbiipaaaDoorW.PrintWords Go.Proofs.YtolpamojbiipaaaDoorW.PrintLast Go.Proofs.YtolpamojbiipaaaDoorW.PrintMore
set_option linter.unusedSimpArgs false
set_option linter.unusedVariables false

/-- A row's path, part by part. -/
def pp (r : S44) : List (List UInt8) := partsS r.f0.data.toList
def Sorted (l : List S44) : Prop := l.Pairwise (fun a b => cmpP (pp a) (pp b) < 0)
/-- The first row of a path. -/
def lookR : List S44 → List (List UInt8) → Option S44
  | [], _ => none
  | x :: t, p => if pp x = p then some x else lookR t p
/-- A row put among sorted ones. -/
def insR : List S44 → S44 → List S44
  | [], r => [r]
  | x :: t, r => if cmpP (pp x) (pp r) < 0 then x :: insR t r else if pp x = pp r then r :: t else r :: x :: t

theorem cmp_self (x : List (List UInt8)) : cmpP x x = 0 := cmp_zero.2 rfl
theorem cmp_ne {x y : List (List UInt8)} (h : cmpP x y < 0) : x ≠ y := fun e => by rw [e, cmp_self] at h; omega
theorem look_mem : ∀ {l : List S44} {p : List (List UInt8)} {r : S44}, lookR l p = some r → r ∈ l ∧ pp r = p
  | x :: t, p, r, h => by
    rw [lookR] at h
    by_cases e : pp x = p
    · rw [if_pos e] at h; cases h; exact ⟨List.mem_cons_self, e⟩
    · rw [if_neg e] at h; have := look_mem h; exact ⟨List.mem_cons_of_mem _ this.1, this.2⟩
theorem look_none : ∀ {l : List S44} {p : List (List UInt8)}, lookR l p = none ↔ ∀ r ∈ l, pp r ≠ p
  | [], p => by simp [lookR]
  | x :: t, p => by
    rw [lookR]
    by_cases e : pp x = p
    · simp [if_pos e, e]
    · rw [if_neg e, look_none]; simp [e]
theorem look_of : ∀ {l : List S44} {r : S44}, Sorted l → r ∈ l → lookR l (pp r) = some r
  | x :: t, r, hs, h => by
    rw [lookR]
    have hs' := List.pairwise_cons.1 hs
    rcases List.mem_cons.1 h with rfl | h
    · rw [if_pos rfl]
    · rw [if_neg (cmp_ne (hs'.1 r h)), look_of hs'.2 h]
theorem look_iff {l : List S44} (hs : Sorted l) {p : List (List UInt8)} {r : S44} : lookR l p = some r ↔ r ∈ l ∧ pp r = p :=
  ⟨look_mem, fun ⟨h, e⟩ => e ▸ look_of hs h⟩
theorem look_ins : ∀ (l : List S44) (r : S44) (p : List (List UInt8)), lookR (insR l r) p = if p = pp r then some r else lookR l p
  | [], r, p => by
    rw [insR, lookR, lookR]
    by_cases e : pp r = p
    · rw [if_pos e, if_pos e.symm]
    · rw [if_neg e, if_neg (fun h => e h.symm)]; rfl
  | x :: t, r, p => by
    rw [insR]
    by_cases h1 : cmpP (pp x) (pp r) < 0
    · rw [if_pos h1, lookR, look_ins t r p, lookR]
      by_cases e : pp x = p
      · rw [if_pos e, if_pos e, if_neg (fun h => cmp_ne h1 (e.trans h))]
      · rw [if_neg e, if_neg e]
    · rw [if_neg h1]
      by_cases h2 : pp x = pp r
      · rw [if_pos h2, lookR, lookR, h2]
        by_cases e : pp r = p
        · rw [if_pos e, if_pos e.symm]
        · rw [if_neg e, if_neg (fun h => e h.symm), if_neg e]
      · rw [if_neg h2, lookR]
        by_cases e : pp r = p
        · rw [if_pos e, if_pos e.symm]
        · rw [if_neg e, if_neg (fun h => e h.symm)]
theorem mem_ins : ∀ {l : List S44} {r x : S44}, x ∈ insR l r → x = r ∨ x ∈ l
  | [], r, x, h => by rw [insR] at h; exact .inl (List.mem_singleton.1 h)
  | y :: t, r, x, h => by
    rw [insR] at h
    split at h
    · rcases List.mem_cons.1 h with rfl | h
      · exact .inr List.mem_cons_self
      · rcases mem_ins h with h | h
        · exact .inl h
        · exact .inr (List.mem_cons_of_mem _ h)
    · split at h
      · rcases List.mem_cons.1 h with rfl | h
        · exact .inl rfl
        · exact .inr (List.mem_cons_of_mem _ h)
      · rcases List.mem_cons.1 h with rfl | h
        · exact .inl rfl
        · exact .inr h
theorem sorted_ins : ∀ {l : List S44} (r : S44), Sorted l → Sorted (insR l r)
  | [], r, _ => by rw [insR]; exact List.pairwise_singleton _ _
  | x :: t, r, hs => by
    have hs' := List.pairwise_cons.1 hs
    rw [insR]
    by_cases h1 : cmpP (pp x) (pp r) < 0
    · rw [if_pos h1]
      refine List.pairwise_cons.2 ⟨fun y hy => ?_, sorted_ins r hs'.2⟩
      rcases mem_ins hy with rfl | hy
      · exact h1
      · exact hs'.1 y hy
    · rw [if_neg h1]
      by_cases h2 : pp x = pp r
      · rw [if_pos h2]
        exact List.pairwise_cons.2 ⟨fun y hy => by rw [← h2]; exact hs'.1 y hy, hs'.2⟩
      · rw [if_neg h2]
        have h3 : cmpP (pp r) (pp x) < 0 := by
          have := cmp_neg (pp x) (pp r)
          have h0 : cmpP (pp x) (pp r) ≠ 0 := fun e => h2 (cmp_zero.1 e)
          omega
        refine List.pairwise_cons.2 ⟨fun y hy => ?_, hs⟩
        rcases List.mem_cons.1 hy with rfl | hy
        · exact h3
        · exact cmp_trans h3 (hs'.1 y hy)
theorem mem_ins_iff {l : List S44} {r x : S44} (hs : Sorted l) : x ∈ insR l r ↔ x = r ∨ (x ∈ l ∧ pp x ≠ pp r) := by
  have h1 := look_iff (sorted_ins r hs) (p := pp x) (r := x)
  rw [look_ins] at h1
  by_cases e : pp x = pp r
  · rw [if_pos e] at h1
    refine ⟨fun h => .inl (Option.some.inj (h1.2 ⟨h, rfl⟩)).symm, fun h => ?_⟩
    rcases h with rfl | h
    · exact (h1.1 rfl).1
    · exact absurd e h.2
  · rw [if_neg e] at h1
    refine ⟨fun h => .inr ⟨((look_iff hs).1 (h1.2 ⟨h, rfl⟩)).1, e⟩, fun h => ?_⟩
    rcases h with rfl | h
    · exact absurd rfl e
    · exact (h1.1 ((look_iff hs).2 ⟨h.1, rfl⟩)).1
theorem len_ins : ∀ {l : List S44} {r : S44}, Sorted l → (insR l r).length = if (lookR l (pp r)).isSome then l.length else l.length + 1
  | [], r, _ => by simp [insR, lookR]
  | x :: t, r, hs => by
    have hs' := List.pairwise_cons.1 hs
    rw [insR, lookR]
    by_cases h1 : cmpP (pp x) (pp r) < 0
    · rw [if_pos h1, if_neg (cmp_ne h1), List.length_cons, len_ins hs'.2]
      split <;> simp
    · rw [if_neg h1]
      by_cases h2 : pp x = pp r
      · rw [if_pos h2, if_pos h2]; simp
      · rw [if_neg h2, if_neg h2]
        have h3 : cmpP (pp r) (pp x) < 0 := by
          have := cmp_neg (pp x) (pp r)
          have h0 : cmpP (pp x) (pp r) ≠ 0 := fun e => h2 (cmp_zero.1 e)
          omega
        have : lookR t (pp r) = none := look_none.2 (fun y hy e => by
          have := cmp_trans h3 (hs'.1 y hy)
          rw [e, cmp_self] at this; omega)
        rw [this]; simp
theorem len_ins_le {l : List S44} (r : S44) : (insR l r).length ≤ l.length + 1 := by
  induction l with
  | nil => simp [insR]
  | cons x t ih =>
    rw [insR]
    split
    · simp; omega
    · split <;> simp
/-- Sorted rows with the same row at each path are the same. -/
theorem sorted_ext : ∀ {l m : List S44}, Sorted l → Sorted m → (∀ p, lookR l p = lookR m p) → l = m
  | [], [], _, _, _ => rfl
  | [], y :: m, _, _, h => by have := h (pp y); rw [lookR, lookR, if_pos rfl] at this; cases this
  | x :: l, [], _, _, h => by have := h (pp x); rw [lookR, lookR, if_pos rfl] at this; cases this
  | x :: l, y :: m, h1, h2, h => by
    have k1 := List.pairwise_cons.1 h1
    have k2 := List.pairwise_cons.1 h2
    have hx : x ∈ y :: m := (look_mem ((h (pp x)).symm.trans (look_of h1 List.mem_cons_self))).1
    have hy : y ∈ x :: l := (look_mem ((h (pp y)).trans (look_of h2 List.mem_cons_self))).1
    have e : x = y := by
      rcases List.mem_cons.1 hx with e | hx
      · exact e
      rcases List.mem_cons.1 hy with e | hy
      · exact e.symm
      have a := k2.1 x hx
      have b := k1.1 y hy
      have := cmp_trans a b
      rw [cmp_self] at this; omega
    subst e
    congr 1
    refine sorted_ext k1.2 k2.2 (fun p => ?_)
    by_cases e : pp x = p
    · have a : lookR l p = none := look_none.2 (fun r hr e2 => by have := k1.1 r hr; rw [e2, e, cmp_self] at this; omega)
      have b : lookR m p = none := look_none.2 (fun r hr e2 => by have := k2.1 r hr; rw [e2, e, cmp_self] at this; omega)
      rw [a, b]
    · have := h p
      rw [lookR, lookR, if_neg e, if_neg e] at this
      exact this

/-! The search. -/
theorem bs_spec (c : Nat → Int) (n : Nat) (hc : ∀ a b, a ≤ b → b < n → c b < 0 → c a < 0) (i j : Nat) (hij : i ≤ j) (hj : j ≤ n) :
    (∀ m, i ≤ m → m < bsI c i j → c m < 0) ∧ (∀ m, bsI c i j ≤ m → m < j → ¬ c m < 0) := by
  induction i, j using bsI.induct (c := c) with
  | case1 i j hl hneg ih =>
    rw [bsI, dif_pos hl, if_pos hneg]
    have := ih (by omega) hj
    refine ⟨fun m h1 h2 => ?_, this.2⟩
    by_cases hm : m ≤ (i + j) / 2
    · exact hc m _ hm (by omega) hneg
    · exact this.1 m (by omega) h2
  | case2 i j hl hneg ih =>
    rw [bsI, dif_pos hl, if_neg hneg]
    have := ih (by omega) (by omega)
    refine ⟨this.1, fun m h1 h2 hm => ?_⟩
    by_cases hh : m < (i + j) / 2
    · exact this.2 m h1 hh hm
    · exact hneg (hc _ m (by omega) (by omega) hm)
  | case3 i j hl =>
    rw [bsI, dif_neg hl]
    exact ⟨fun m h1 h2 => by omega, fun m h1 h2 => by omega⟩
theorem cmpB_pp (r : S44) (s : ByteArray) : cmpB r.f0 s = cmpP (pp r) (partsS s.data.toList) := rfl
theorem spot_spec {l : List S44} (hs : Sorted l) (s : ByteArray) : ∀ m (h : m < l.length), (m < spot l s ↔ cmpP (pp l[m]) (partsS s.data.toList) < 0) := by
  have g : ∀ m (h : m < l.length), l.getD m z44 = l[m] := fun m h => by rw [List.getD_eq_getElem?_getD, List.getElem?_eq_getElem h]; rfl
  have b := bs_spec (fun i => cmpB (l.getD i z44).f0 s) l.length (fun a b hab hb hcb => by
    rw [g b hb, cmpB_pp] at hcb
    rw [g a (by omega), cmpB_pp]
    by_cases e : a = b
    · subst e; exact hcb
    · exact cmp_trans (List.pairwise_iff_getElem.1 hs a b (by omega) hb (by omega)) hcb) 0 l.length (Nat.zero_le _) (Nat.le_refl _)
  intro m h
  have q := g m h
  refine ⟨fun hm => ?_, fun hm => ?_⟩
  · have := b.1 m (Nat.zero_le _) hm
    simp only [q, cmpB_pp] at this
    exact this
  · refine Nat.lt_of_not_le (fun hle => b.2 m hle h ?_)
    simp only [q, cmpB_pp]
    exact hm
theorem at_spec {l : List S44} (hs : Sorted l) (s : ByteArray) : isAt l s = (lookR l (partsS s.data.toList)).isSome ∧ (isAt l s = true → lookR l (partsS s.data.toList) = some (l.getD (spot l s) z44)) := by
  have g : ∀ m (h : m < l.length), l.getD m z44 = l[m] := fun m h => by rw [List.getD_eq_getElem?_getD, List.getElem?_eq_getElem h]; rfl
  have sp := spot_spec hs s
  by_cases h : isAt l s = true
  · have hlt := isAt_lt h
    have h' := h
    unfold isAt at h'
    rw [Bool.and_eq_true, decide_eq_true_eq, decide_eq_true_eq, g _ hlt, cmpB_pp, cmp_zero] at h'
    have := look_of hs (List.getElem_mem hlt)
    rw [h'.2] at this
    rw [this, h, g _ hlt]
    exact ⟨rfl, fun _ => rfl⟩
  · refine ⟨?_, fun e => absurd e h⟩
    rw [Bool.not_eq_true] at h
    rw [h]
    have : lookR l (partsS s.data.toList) = none := look_none.2 (fun r hr e => by
      obtain ⟨m, hm, rfl⟩ := List.getElem_of_mem hr
      have h0 : cmpP (pp l[m]) (partsS s.data.toList) = 0 := cmp_zero.2 e
      have hge : spot l s ≤ m := Nat.le_of_not_lt (fun hlt => by have := (sp m hm).1 hlt; omega)
      have hlt : spot l s < l.length := by omega
      have h1 : cmpP (pp l[spot l s]) (partsS s.data.toList) = 0 := by
        have a : ¬ cmpP (pp l[spot l s]) (partsS s.data.toList) < 0 := fun hh => by have := (sp _ hlt).2 hh; omega
        by_cases he : spot l s = m
        · simp only [he]; exact h0
        · have := List.pairwise_iff_getElem.1 hs (spot l s) m hlt hm (by omega)
          rw [e] at this
          omega
      unfold isAt at h
      rw [decide_eq_true hlt, Bool.true_and, decide_eq_false_iff_not, g _ hlt, cmpB_pp] at h
      exact h h1)
    rw [this]; rfl
theorem put_ins {l : List S44} (hs : Sorted l) (r : S44) : putL l r = insR l r := by
  have g : ∀ m (h : m < l.length), l.getD m z44 = l[m] := fun m h => by rw [List.getD_eq_getElem?_getD, List.getElem?_eq_getElem h]; rfl
  have sp := spot_spec hs r.f0
  have key : ∀ (k : Nat) (m : List S44), (∀ i (h : i < m.length), (i < k ↔ cmpP (pp m[i]) (pp r) < 0)) →
      insR m r = if ∃ h : k < m.length, pp m[k] = pp r then m.set k r else m.take k ++ r :: m.drop k := by
    intro k m
    induction m generalizing k with
    | nil => intro _; rw [if_neg (by rintro ⟨h, _⟩; simp at h)]; simp [insR]
    | cons x t ih =>
      intro hm
      cases k with
      | zero =>
        have hx : ¬ cmpP (pp x) (pp r) < 0 := fun h => by have := (hm 0 (by simp)).2 h; omega
        rw [insR, if_neg hx]
        by_cases e : pp x = pp r
        · rw [if_pos e, if_pos ⟨by simp, e⟩]; rfl
        · rw [if_neg e, if_neg (by rintro ⟨_, h⟩; exact e h)]; rfl
      | succ k =>
        have hx : cmpP (pp x) (pp r) < 0 := (hm 0 (by simp)).1 (by omega)
        rw [insR, if_pos hx, ih k (fun i h => by have := hm (i + 1) (by simp; omega); simp only [List.getElem_cons_succ] at this; rw [← this]; omega)]
        by_cases e : ∃ h : k < t.length, pp t[k] = pp r
        · rw [if_pos e, if_pos (by obtain ⟨h, e⟩ := e; exact ⟨by simp; omega, e⟩)]; rfl
        · rw [if_neg e, if_neg (by rintro ⟨h, h2⟩; exact e ⟨by simp at h; omega, h2⟩)]; rfl
  have hh := key (spot l r.f0) l (fun i h => sp i h)
  rw [hh]
  unfold putL
  by_cases h : isAt l r.f0 = true
  · have hlt := isAt_lt h
    have h' := h
    unfold isAt at h'
    rw [Bool.and_eq_true, decide_eq_true_eq, decide_eq_true_eq, g _ hlt, cmpB_pp, cmp_zero] at h'
    rw [if_pos h, if_pos ⟨hlt, h'.2⟩]
  · rw [if_neg h, if_neg]
    rintro ⟨hlt, e⟩
    apply h
    unfold isAt
    rw [Bool.and_eq_true, decide_eq_true_eq, decide_eq_true_eq, g _ hlt, cmpB_pp, cmp_zero]
    exact ⟨hlt, e⟩
end Go.Proofs.YtolpamojbiipaaaDoor.Pure
