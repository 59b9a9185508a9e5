/- A tree's rows, directory by directory: what lies in one, and in all below it; a walk over all of them meets each row once. -/
import Derived.Test.YtolpamojbiipaaaDoorETreeList
namespace Go.Proofs.YtolpamojbiipaaaDoor.Pure
open Go.RowKit Go.Proofs.YtolpamojbiipaaaDoor.XA Go.Proofs.YtolpamojbiipaaaDoorW.PrintWords Go.Proofs.YtolpamojbiipaaaDoorW.PrintLast Go.Proofs.YtolpamojbiipaaaDoorW.PrintMore
set_option linter.unusedSimpArgs false
set_option linter.unusedVariables false

theorem filter_or {α : Type} {p q : α → Bool} : ∀ {l : List α}, (∀ x ∈ l, ¬ (p x = true ∧ q x = true)) → (l.filter (fun x => p x || q x)).Perm (l.filter p ++ l.filter q)
  | [], _ => .refl _
  | x :: l, h => by
    have ih := filter_or (p := p) (q := q) (l := l) (fun y hy => h y (List.mem_cons_of_mem _ hy))
    have hx := h x List.mem_cons_self
    cases hp : p x with
    | true =>
      have hq : q x = false := by cases hq : q x with | false => rfl | true => exact absurd ⟨hp, hq⟩ hx
      simp only [List.filter_cons, hp, hq, Bool.true_or, if_true, Bool.false_eq_true, if_false, List.cons_append]
      exact ih.cons x
    | false =>
      cases hq : q x with
      | false => simp only [List.filter_cons, hp, hq, Bool.or_self, Bool.false_eq_true, if_false]; exact ih
      | true =>
        simp only [List.filter_cons, hp, hq, Bool.or_true, if_true, Bool.false_eq_true, if_false]
        exact (ih.cons x).trans List.perm_middle.symm
/-- The rows in a directory and in all below it, itself too. -/
def subR (l : List S44) (d : Pth) : List S44 := l.filter (fun r => d.isPrefixOf (pp r))
def subP (l : List S44) (d : Pth) : List Pth := (subR l d).map pp
section
variable {l : List S44} {n : Int}
theorem list_mem (h : Inv l n) {ps : Pth} (hg : ∀ p ∈ ps, Good p) {r : S44} : r ∈ listL ps l ↔ r ∈ l ∧ (pp r).dropLast = ps := by
  unfold listL subL notIn
  rw [List.mem_filter, List.mem_filter]
  constructor
  · rintro ⟨⟨hr, _⟩, h2⟩
    refine ⟨hr, ?_⟩
    have hc := h.clean r hr
    have e : r.f0.data.toList = joinS (pp r) := by conv => lhs; rw [hc.2, mkS_data]
    rw [e, up_join hc.1, mk_toList, mk_toList] at h2
    simp only [Bool.not_eq_true', bne_eq_false_iff_eq] at h2
    refine join_inj (fun p hp => hc.1.good p (List.dropLast_subset _ hp)) hg h2
  · rintro ⟨hr, hd⟩
    have hc := h.clean r hr
    have e : r.f0.data.toList = joinS (pp r) := by conv => lhs; rw [hc.2, mkS_data]
    have hne : pp r ≠ ps := fun e2 => by
      have := congrArg List.length hd
      rw [List.length_dropLast, e2] at this
      have h0 : 0 < (pp r).length := List.length_pos_iff.2 hc.1.ne
      rw [e2] at h0
      omega
    refine ⟨⟨hr, ?_⟩, ?_⟩
    · rw [Bool.and_eq_true, Bool.not_eq_true', beq_eq_false_iff_ne, e]
      refine ⟨fun e2 => hne ?_, (under_iff hg hc.1.good).2 ⟨[(pp r).getLast hc.1.ne], ?_⟩⟩
      · rw [toList_data, e, mk_toList] at e2
        exact join_inj hc.1.good hg e2
      · rw [← hd, List.dropLast_concat_getLast]
    · rw [e, up_join hc.1, mk_toList, mk_toList, hd]
      simp
theorem list_sorted (h : Inv l n) (ps : Pth) : Sorted (listL ps l) := by
  unfold listL subL
  exact (h.sorted.filter _).filter _
theorem pre_iff {d q : Pth} : d.isPrefixOf q = true ↔ d <+: q := List.isPrefixOf_iff_prefix
/-- The rows below some directories side by side. -/
theorem sub_part (h : Inv l n) {ps : Pth} (hg : ∀ p ∈ ps, Good p) : ∀ (cs : List S44), (∀ c ∈ cs, (pp c).dropLast = ps ∧ pp c ≠ []) → cs.Pairwise (fun a b => cmpP (pp a) (pp b) < 0) →
    (l.filter (fun r => cs.any (fun c => (pp c).isPrefixOf (pp r)))).Perm (cs.flatMap (fun c => subR l (pp c)))
  | [], _, _ => by simp
  | c :: t, hc, hp => by
    have hp' := List.pairwise_cons.1 hp
    have ih := sub_part h hg t (fun x hx => hc x (List.mem_cons_of_mem _ hx)) hp'.2
    have hd : ∀ x ∈ l, ¬ ((pp c).isPrefixOf (pp x) = true ∧ t.any (fun c => (pp c).isPrefixOf (pp x)) = true) := by
      rintro x hx ⟨h1, h2⟩
      obtain ⟨c2, hc2, h2⟩ := List.any_eq_true.1 h2
      have hl : (pp c).length = (pp c2).length := by
        have e1 := congrArg List.length (hc c List.mem_cons_self).1
        have e2 := congrArg List.length (hc c2 (List.mem_cons_of_mem _ hc2)).1
        have p1 := List.length_pos_iff.2 (hc c List.mem_cons_self).2
        have p2 := List.length_pos_iff.2 (hc c2 (List.mem_cons_of_mem _ hc2)).2
        rw [List.length_dropLast] at e1 e2
        omega
      have e := List.prefix_of_prefix_length_le (pre_iff.1 h1) (pre_iff.1 h2) (Nat.le_of_eq hl)
      exact cmp_ne (hp'.1 c2 hc2) (e.eq_of_length hl)
    have hf := filter_or hd
    rw [List.flatMap_cons]
    exact hf.trans (List.Perm.append (.refl _) ih)
theorem sub_leaf (h : Inv l n) {c : S44} (hc : c ∈ l) (hk : c.f2.f0 ≠ 4) : subP l (pp c) = [pp c] := by
  have hn : (subR l (pp c)) = l.filter (fun r => decide (pp r = pp c)) := by
    unfold subR
    refine List.filter_congr (fun r hr => ?_)
    rw [Bool.eq_iff_iff, pre_iff, decide_eq_true_eq]
    constructor
    · rintro ⟨t, ht⟩
      by_cases e : t = []
      · rw [e, List.append_nil] at ht; exact ht.symm
      · obtain ⟨d, hd, h4⟩ := h.closed r hr (pp c) ⟨(h.clean c hc).1.ne, t, e, ht.symm⟩
        rw [look_of h.sorted hc] at hd
        cases hd
        exact absurd h4 hk
    · intro e; rw [e]; exact List.prefix_refl _
  unfold subP
  rw [hn]
  have key : ∀ {l : List S44}, Sorted l → c ∈ l → (l.filter (fun r => decide (pp r = pp c))).map pp = [pp c] := by
    intro l
    induction l with
    | nil => intro _ h; cases h
    | cons x t ih =>
      intro hs hm
      have hs' := List.pairwise_cons.1 hs
      rcases List.mem_cons.1 hm with rfl | hm
      · have : t.filter (fun r => decide (pp r = pp c)) = [] := List.filter_eq_nil_iff.2 (fun r hr => by
          have := cmp_ne (hs'.1 r hr)
          simp only [decide_eq_true_eq]
          exact fun e => this e.symm)
        rw [List.filter_cons, this]
        simp
      · have hne : ¬ pp x = pp c := cmp_ne (hs'.1 c hm)
        rw [List.filter_cons, if_neg (by simpa using hne)]
        exact ih hs'.2 hm
  exact key h.sorted hc
theorem sub_split (h : Inv l n) {ps : Pth} (hg : ∀ p ∈ ps, Good p) (hd : ps = [] ∨ ∃ r, lookR l ps = some r) :
    (subP l ps).Perm ((if ps = [] then [] else [ps]) ++ (listL ps l).flatMap (fun c => subP l (pp c))) := by
  have hcs : ∀ c ∈ listL ps l, (pp c).dropLast = ps ∧ pp c ≠ [] := fun c hc => by
    have := (list_mem h hg).1 hc
    exact ⟨this.2, (h.clean c this.1).1.ne⟩
  have e1 : subR l ps = l.filter (fun r => decide (pp r = ps) || (listL ps l).any (fun c => (pp c).isPrefixOf (pp r))) := by
    unfold subR
    refine List.filter_congr (fun r hr => ?_)
    rw [Bool.eq_iff_iff, pre_iff, Bool.or_eq_true, decide_eq_true_eq, List.any_eq_true]
    constructor
    · rintro ⟨t, ht⟩
      cases t with
      | nil => rw [List.append_nil] at ht; exact .inl ht.symm
      | cons x t =>
        refine .inr ?_
        have hq : ps ++ [x] <+: pp r := ⟨t, by rw [← ht]; simp⟩
        by_cases e : t = []
        · subst e
          exact ⟨r, (list_mem h hg).2 ⟨hr, by rw [← ht]; simp⟩, pre_iff.2 (List.prefix_refl _)⟩
        · obtain ⟨d, hd, _⟩ := h.closed r hr (ps ++ [x]) ⟨by simp, t, e, by rw [← ht]; simp⟩
          have hm := look_mem hd
          exact ⟨d, (list_mem h hg).2 ⟨hm.1, by rw [hm.2]; simp⟩, pre_iff.2 (by rw [hm.2]; exact hq)⟩
    · rintro (e | ⟨c, hc, hp⟩)
      · rw [e]; exact List.prefix_refl _
      · have := (hcs c hc).1
        have h1 : ps <+: pp c := by rw [← this]; exact List.dropLast_prefix _
        exact h1.trans (pre_iff.1 hp)
  have hdis : ∀ x ∈ l, ¬ (decide (pp x = ps) = true ∧ (listL ps l).any (fun c => (pp c).isPrefixOf (pp x)) = true) := by
    rintro x hx ⟨h1, h2⟩
    rw [decide_eq_true_eq] at h1
    obtain ⟨c, hc, h2⟩ := List.any_eq_true.1 h2
    have hle := (pre_iff.1 h2).length_le
    have e := congrArg List.length (hcs c hc).1
    have p := List.length_pos_iff.2 (hcs c hc).2
    rw [List.length_dropLast] at e
    rw [h1] at hle
    omega
  unfold subP
  rw [e1]
  refine ((filter_or hdis).map pp).trans ?_
  rw [List.map_append]
  refine List.Perm.append ?_ ?_
  · rcases hd with rfl | ⟨r, hr⟩
    · rw [if_pos rfl, List.filter_eq_nil_iff.2 (fun r hr => by simpa using (h.clean r hr).1.ne)]
      exact .refl _
    · have hm := look_mem hr
      have hne : ps ≠ [] := by rw [← hm.2]; exact (h.clean r hm.1).1.ne
      rw [if_neg hne]
      have key : ∀ {l : List S44}, Sorted l → r ∈ l → (l.filter (fun x => decide (pp x = ps))).map pp = [ps] := by
        intro l
        induction l with
        | nil => intro _ h; cases h
        | cons x t ih =>
          intro hs hm2
          have hs' := List.pairwise_cons.1 hs
          rcases List.mem_cons.1 hm2 with rfl | hm2
          · have : t.filter (fun x => decide (pp x = ps)) = [] := List.filter_eq_nil_iff.2 (fun y hy => by
              have := cmp_ne (hs'.1 y hy)
              simp only [decide_eq_true_eq]
              exact fun e => this (hm.2.trans e.symm))
            rw [List.filter_cons, this]
            simp [hm.2]
          · have hne : ¬ pp x = ps := fun e => cmp_ne (hs'.1 r hm2) (e.trans hm.2.symm)
            rw [List.filter_cons, if_neg (by simpa using hne)]
            exact ih hs'.2 hm2
      rw [key h.sorted hm.1]
  · have := (sub_part h hg (listL ps l) hcs (list_sorted h ps)).map pp
    rw [List.map_flatMap] at this
    exact this
/-- What a walk knows: each row is listed, or lies in one directory that is still to be listed. -/
structure Dfs (l : List S44) (all todo : List Pth) : Prop where
  perm : (all ++ todo.flatMap (subP l)).Perm (l.map pp)
  dir : ∀ d ∈ todo, (d = [] ∨ ∃ r, lookR l d = some r ∧ r.f2.f0 = 4) ∧ ∀ p ∈ d, Good p
theorem dfs_start (l : List S44) : Dfs l [] [[]] := ⟨by
  have : subR l [] = l := List.filter_eq_self.2 (fun r _ => rfl)
  simp [subP, this], by simp⟩
/-- Within a directory's list: what is left of it. -/
structure DfsIn (l : List S44) (all todo : List Pth) (cs : List S44) : Prop where
  perm : (all ++ todo.flatMap (subP l) ++ cs.flatMap (fun c => subP l (pp c))).Perm (l.map pp)
  dir : ∀ d ∈ todo, (d = [] ∨ ∃ r, lookR l d = some r ∧ r.f2.f0 = 4) ∧ ∀ p ∈ d, Good p
theorem dfs_open (h : Inv l n) {all todo : List Pth} {d : Pth} (hd : Dfs l all (todo ++ [d])) : DfsIn l (all ++ (if d = [] then [] else [d])) todo (listL d l) := by
  have hdd := hd.dir d (by simp)
  refine ⟨?_, fun x hx => hd.dir x (List.mem_append_left _ hx)⟩
  refine List.Perm.trans ?_ hd.perm
  rw [List.flatMap_append, List.flatMap_cons, List.flatMap_nil, List.append_nil]
  have hs := sub_split h hdd.2 (hdd.1.imp id (fun ⟨r, hr, _⟩ => ⟨r, hr⟩))
  have e : (all ++ (todo.flatMap (subP l) ++ ((if d = [] then [] else [d]) ++ (listL d l).flatMap (fun c => subP l (pp c))))).Perm (all ++ (todo.flatMap (subP l) ++ subP l d)) := List.Perm.append_left _ (List.Perm.append_left _ hs.symm)
  refine List.Perm.trans ?_ e
  simp only [List.append_assoc]
  refine List.Perm.append_left _ ?_
  rw [← List.append_assoc, ← List.append_assoc]
  exact List.Perm.append_right _ List.perm_append_comm
theorem dfs_step (h : Inv l n) {all todo : List Pth} {cs : List S44} {c : S44} (hc : c ∈ l) (hd : DfsIn l all todo (cs ++ [c])) : DfsIn l (if c.f2.f0 = 4 then all else all ++ [pp c]) (if c.f2.f0 = 4 then todo ++ [pp c] else todo) cs := by
  have hp := hd.perm
  rw [List.flatMap_append, List.flatMap_cons, List.flatMap_nil, List.append_nil] at hp
  by_cases h4 : c.f2.f0 = 4
  · rw [if_pos h4, if_pos h4]
    refine ⟨List.Perm.trans ?_ hp, fun d hd' => ?_⟩
    · rw [List.flatMap_append, List.flatMap_cons, List.flatMap_nil, List.append_nil]
      simp only [List.append_assoc]
      exact List.Perm.append_left _ (List.Perm.append_left _ List.perm_append_comm)
    · rcases List.mem_append.1 hd' with hd' | hd'
      · exact hd.dir d hd'
      · rw [List.mem_singleton.1 hd']
        exact ⟨.inr ⟨c, look_of h.sorted hc, h4⟩, (h.clean c hc).1.good⟩
  · rw [if_neg h4, if_neg h4]
    rw [sub_leaf h hc h4] at hp
    refine ⟨List.Perm.trans ?_ hp, hd.dir⟩
    simp only [List.append_assoc]
    refine List.Perm.append_left _ ?_
    exact (List.perm_append_comm (l₁ := [pp c])).trans (by rw [List.append_assoc])
theorem dfs_shut {all todo : List Pth} (hd : DfsIn l all todo []) : Dfs l all todo := ⟨by simpa using hd.perm, hd.dir⟩
theorem dfs_len {all todo : List Pth} {cs : List S44} (hd : DfsIn l all todo cs) : all.length ≤ l.length := by
  have := hd.perm.length_eq
  simp only [List.length_append, List.length_map] at this
  omega
theorem dfs_end {all : List Pth} (hd : Dfs l all []) : all.Perm (l.map pp) := by simpa using hd.perm
theorem paths_nodup (h : Inv l n) : (l.map pp).Nodup := by
  unfold List.Nodup
  rw [List.pairwise_map]
  exact h.sorted.imp (fun hab => cmp_ne hab)
end
end Go.Proofs.YtolpamojbiipaaaDoor.Pure
