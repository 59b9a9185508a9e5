/- Merge, in plain words: what lies at each path of a tree laid over another one. -/
import Derived.Test.YtolpamojbiipaaaDoorEOver
import Derived.Test.YtolpamojbiipaaaDoorUAdd
namespace Go.Proofs.YtolpamojbiipaaaDoor.Pure
open Go.RowKit Go.Proofs.YtolpamojbiipaaaDoor.XA Go.Proofs.YtolpamojbiipaaaDoorW.PrintWords Go.Proofs.YtolpamojbiipaaaDoorW.PrintLast Go.Proofs.YtolpamojbiipaaaDoorW.PrintMore
set_option linter.unusedSimpArgs false
set_option linter.unusedVariables false

/-- What lies at a path behind a merge; a row that stands on one of another sort. -/
def mgR (x : Option S44) (r : S44) (more : Int) : S44 := match x with
  | some o => if r.f2.f9 = true then o else ⟨r.f0, if r.f2.f0 = 4 then o.f1 else r.f1 + more, r.f2⟩
  | none => ⟨r.f0, r.f1 + more, r.f2⟩
def mgL (x y : Option S44) (more : Int) : Option S44 := match y with | none => x | some r => some (mgR x r more)
def badR (x : Option S44) (r : S44) : Prop := ∃ o, x = some o ∧ ¬ ((o.f2.f0 == 4) = (r.f2.f0 == 4))
theorem badR_iff (x : Option S44) (r : S44) : badR x r ↔ (match x with | some o => (o.f2.f0 == 4) != (r.f2.f0 == 4) | none => false) = true := by
  unfold badR
  cases x with
  | none => exact ⟨fun ⟨o, h, _⟩ => (by cases h), fun h => (by cases h)⟩
  | some o => exact ⟨fun ⟨o', h, hn⟩ => by cases h; exact bne_iff_ne.2 hn, fun h => ⟨o, rfl, bne_iff_ne.1 h⟩⟩
theorem overR_bad (l : List S44) (r : S44) (more : Int) : (overR l r more).2 = 0 ∧ ¬ badR (lookR l (pp r)) r ∨ (overR l r more).2 = 130 ∧ badR (lookR l (pp r)) r := by
  unfold overR badR
  cases lookR l (pp r) with
  | none => exact .inl ⟨rfl, by rintro ⟨o, h, _⟩; cases h⟩
  | some o =>
    simp only
    by_cases h : (o.f2.f0 == 4) = (r.f2.f0 == 4)
    · rw [if_pos h]
      refine .inl ⟨by split <;> rfl, ?_⟩
      rintro ⟨o', h', hn⟩
      cases h'
      exact hn h
    · rw [if_neg h]
      exact .inr ⟨rfl, o, rfl, h⟩
theorem overR_look {l : List S44} {r : S44} {more : Int} (h : ¬ badR (lookR l (pp r)) r) (p : Pth) : lookR (overR l r more).1 p = if p = pp r then some (mgR (lookR l (pp r)) r more) else lookR l p := by
  unfold overR mgR
  cases e : lookR l (pp r) with
  | none => simp only; rw [look_ins]; rfl
  | some o =>
    have hk : (o.f2.f0 == 4) = (r.f2.f0 == 4) := Decidable.byContradiction (fun hn => h ⟨o, e, hn⟩)
    simp only
    rw [if_pos hk]
    by_cases hm : r.f2.f9 = true
    · rw [if_pos hm, if_pos hm]
      by_cases hp : p = pp r
      · rw [if_pos hp, hp, e]
      · rw [if_neg hp]
    · rw [if_neg hm, if_neg hm]
      simp only
      rw [look_ins]; rfl
theorem overR_len {l : List S44} (hs : Sorted l) {r : S44} {more : Int} (h : ¬ badR (lookR l (pp r)) r) : (overR l r more).1.length = l.length + if (lookR l (pp r)).isNone then 1 else 0 := by
  have hl : ∀ i : Int, (insR l ⟨r.f0, i, r.f2⟩).length = if (lookR l (pp r)).isSome then l.length else l.length + 1 := fun i => len_ins hs
  unfold overR
  cases e : lookR l (pp r) with
  | none => simp only; rw [hl, e]; rfl
  | some o =>
    have hk : (o.f2.f0 == 4) = (r.f2.f0 == 4) := Decidable.byContradiction (fun hn => h ⟨o, e, hn⟩)
    simp only
    rw [if_pos hk]
    split
    · rfl
    · simp only; rw [hl, e]; rfl
/-- How many rows are new. -/
def newN (l b : List S44) : Nat := (b.filter (fun r => (lookR l (pp r)).isNone)).length
theorem overF_look : ∀ {b l t : List S44} {more : Int}, Sorted b → overF l b more = some t →
    (∀ p, lookR t p = mgL (lookR l p) (lookR b p) more) ∧ (∀ r ∈ b, ¬ badR (lookR l (pp r)) r) ∧ (Sorted l → t.length = l.length + newN l b)
  | [], l, t, more, _, h => by
    rw [overF] at h; cases h
    exact ⟨fun p => rfl, by simp, fun _ => rfl⟩
  | r :: b, l, t, more, hs, h => by
    have hs' := List.pairwise_cons.1 hs
    rw [overF] at h
    by_cases he : (overR l r more).2 = 0
    · rw [if_pos he] at h
      have hb : ¬ badR (lookR l (pp r)) r := by
        rcases overR_bad l r more with h | h
        · exact h.2
        · rw [he] at h; exact absurd h.1 (by decide)
      have ih := overF_look hs'.2 h
      have hlk := overR_look (more := more) hb
      have hne : ∀ x ∈ b, pp x ≠ pp r := fun x hx e => cmp_ne (hs'.1 x hx) e.symm
      refine ⟨fun p => ?_, fun x hx => ?_, fun hl => ?_⟩
      · rw [ih.1 p, hlk p, lookR]
        by_cases e : p = pp r
        · have : lookR b p = none := look_none.2 (fun x hx => by rw [e]; exact hne x hx)
          rw [if_pos e, if_pos e.symm, this]; subst e; rfl
        · rw [if_neg e, if_neg (fun h => e h.symm)]
      · rcases List.mem_cons.1 hx with rfl | hx
        · exact hb
        · have := ih.2.1 x hx
          rwa [hlk, if_neg (hne x hx)] at this
      · have hsr : Sorted (overR l r more).1 := by
          unfold overR
          cases lookR l (pp r) with
          | none => exact sorted_ins _ hl
          | some o =>
            simp only
            split
            · split
              · exact hl
              · exact sorted_ins _ hl
            · exact hl
        have hc : newN (overR l r more).1 b = newN l b := by
          unfold newN
          rw [List.filter_congr (fun x hx => by rw [hlk, if_neg (hne x hx)])]
        rw [ih.2.2 hsr, hc, overR_len hl hb]
        unfold newN
        rw [List.filter_cons]
        split <;> simp <;> omega
    · rw [if_neg he] at h; cases h
theorem overF_none : ∀ {b l : List S44} {more : Int}, Sorted b → overF l b more = none → ∃ r ∈ b, badR (lookR l (pp r)) r
  | [], l, more, _, h => by rw [overF] at h; cases h
  | r :: b, l, more, hs, h => by
    have hs' := List.pairwise_cons.1 hs
    rw [overF] at h
    rcases overR_bad l r more with hb | hb
    · rw [if_pos hb.1] at h
      obtain ⟨x, hx, hbx⟩ := overF_none hs'.2 h
      rw [overR_look hb.2, if_neg (fun e => cmp_ne (hs'.1 x hx) e.symm)] at hbx
      exact ⟨x, List.mem_cons_of_mem _ hx, hbx⟩
    · exact ⟨r, List.mem_cons_self, hb.2⟩
theorem overF_wk : ∀ {b l t : List S44} {more : Int}, Wk l → (∀ r ∈ b, Cl (pp r) ∧ r.f0 = mkS (joinS (pp r))) → overF l b more = some t → Wk t
  | [], l, t, more, hl, _, h => by rw [overF] at h; cases h; exact hl
  | r :: b, l, t, more, hl, hb, h => by
    rw [overF] at h
    split at h
    · have hr := hb r List.mem_cons_self
      exact overF_wk (overR_wk hl hr.1 hr.2).1 (fun x hx => hb x (List.mem_cons_of_mem _ hx)) h
    · cases h
/-- Whence a row of the whole comes. -/
inductive Src (a b : List S44) (na : Int) (r : S44) : Prop
  | old : r ∈ a → (∀ s ∈ b, pp s = pp r → s.f2.f9 = true) → Src a b na r
  | new (s : S44) : s ∈ b → r = ⟨s.f0, s.f1 + na, s.f2⟩ → (lookR a (pp s) = none ∨ s.f2.f0 ≠ 4) → Src a b na r
  | dir (s o : S44) : s ∈ b → o ∈ a → pp s = pp o → r = ⟨s.f0, o.f1, s.f2⟩ → s.f2.f0 = 4 → o.f2.f0 = 4 → s.f2.f9 = false → Src a b na r
structure OverOk (a b : List S44) (na nb : Int) (t : List S44) : Prop where
  inv : Inv t (na + nb)
  look : ∀ p, lookR t p = mgL (lookR a p) (lookR b p) na
  good : ∀ r ∈ b, ¬ badR (lookR a (pp r)) r
  len : t.length = a.length + newN a b
  src : ∀ r ∈ t, Src a b na r
theorem good_of {x : Option S44} {r o : S44} (h : ¬ badR x r) (e : x = some o) : o.f2.f0 = 4 ↔ r.f2.f0 = 4 := by
  have hk : (o.f2.f0 == 4) = (r.f2.f0 == 4) := Decidable.byContradiction (fun hn => h ⟨o, e, hn⟩)
  rw [Bool.eq_iff_iff, beq_iff_eq, beq_iff_eq] at hk
  exact hk
theorem over_ok {a b t : List S44} {na nb : Int} (ha : Inv a na) (hb : Inv b nb) (h : overF a b na = some t) : OverOk a b na nb t := by
  have lk := overF_look hb.sorted h
  have wk := overF_wk ha.wk hb.clean h
  have hna := ha.next
  have hnb := hb.next
  have src : ∀ r ∈ t, Src a b na r := fun r hr => by
    have e := (lk.1 (pp r)).symm.trans (look_of wk.sorted hr)
    cases eb : lookR b (pp r) with
    | none =>
      rw [eb] at e
      refine .old (look_mem e).1 (fun s hs hp => ?_)
      exact absurd hp (look_none.1 eb s hs)
    | some s =>
      rw [eb] at e
      have hs := look_mem eb
      have hg := lk.2.1 s hs.1
      rw [hs.2] at hg
      have e2 := Option.some.inj e
      unfold mgR at e2
      cases ea : lookR a (pp r) with
      | none =>
        rw [ea] at e2
        exact .new s hs.1 e2.symm (.inl (by rw [hs.2]; exact ea))
      | some o =>
        rw [ea] at e2
        simp only at e2
        have ho := look_mem ea
        by_cases hm : s.f2.f9 = true
        · rw [if_pos hm] at e2
          refine .old (e2 ▸ ho.1) (fun s' hs' hp => ?_)
          have := look_of hb.sorted hs'
          rw [hp, eb] at this
          cases this
          exact hm
        · rw [if_neg hm] at e2
          by_cases h4 : s.f2.f0 = 4
          · rw [if_pos h4] at e2
            exact .dir s o hs.1 ho.1 (hs.2.trans ho.2.symm) e2.symm h4 ((good_of hg ea).2 h4) (by simpa using hm)
          · rw [if_neg h4] at e2
            exact .new s hs.1 e2.symm (.inr h4)
  refine ⟨⟨wk.sorted, wk.clean, ?_, ?_, ?_, ?_, ?_, ?_, by omega⟩, lk.1, lk.2.1, lk.2.2 ha.sorted, src⟩
  · intro r hr q hq
    have fromb : ∀ s ∈ b, Pref q (pp s) → ∃ d, lookR t q = some d ∧ d.f2.f0 = 4 := fun s hs hq => by
      obtain ⟨d, hd, h4⟩ := hb.closed s hs q hq
      refine ⟨_, (lk.1 q).trans (by rw [hd]; rfl), ?_⟩
      have hd' := look_mem hd
      have hg := lk.2.1 d hd'.1
      rw [hd'.2] at hg
      unfold mgR
      cases ea : lookR a q with
      | none => exact h4
      | some o =>
        simp only
        split
        · exact (good_of hg ea).2 h4
        · exact h4
    rcases src r hr with ⟨hra, _⟩ | ⟨s, hs, rfl, _⟩ | ⟨s, o, hs, _, _, rfl, _⟩
    · obtain ⟨d, hd, h4⟩ := ha.closed r hra q hq
      cases eb : lookR b q with
      | none => exact ⟨d, (lk.1 q).trans (by rw [hd, eb]; rfl), h4⟩
      | some s =>
        refine ⟨_, (lk.1 q).trans (by rw [eb]; rfl), ?_⟩
        have hs' := look_mem eb
        have hg := lk.2.1 s hs'.1
        rw [hs'.2] at hg
        unfold mgR
        rw [hd]
        simp only
        split
        · exact h4
        · exact (good_of hg hd).1 h4
    · exact fromb s hs hq
    · exact fromb s hs hq
  · intro r hr
    rcases src r hr with ⟨hra, _⟩ | ⟨s, hs, rfl, _⟩ | ⟨s, o, hs, ho, _, rfl, _⟩
    · have := ha.ids r hra; omega
    · have := hb.ids s hs; simp only; omega
    · have := ha.ids o ho; simp only; omega
  · intro r hr r' hr' e
    rcases src r hr with ⟨hra, hrm⟩ | ⟨s, hs, rfl, _⟩ | ⟨s, o, hs, ho, hp, rfl, h4, h4o, hm⟩
    · rcases src r' hr' with ⟨hra', _⟩ | ⟨s, hs, rfl, _⟩ | ⟨s, o, hs, ho, hp, rfl, h4, h4o, hm⟩
      · exact ha.same r hra r' hra' e
      · have := ha.ids r hra; have := hb.ids s hs; simp only at e; omega
      · have h1 := ha.same o ho r hra e.symm
        have h2 := h1.2 (by omega)
        subst h2
        have := hrm s hs hp
        rw [hm] at this; cases this
    · rcases src r' hr' with ⟨hra', _⟩ | ⟨s', hs', rfl, _⟩ | ⟨s', o, hs', ho, hp, rfl, h4, h4o, hm⟩
      · have := ha.ids r' hra'; have := hb.ids s hs; simp only at e; omega
      · have h1 := hb.same s hs s' hs' (by simp only at e; omega)
        exact ⟨h1.1, fun hne => by rw [h1.2 hne]⟩
      · have := ha.ids o ho; have := hb.ids s hs; simp only at e; omega
    · rcases src r' hr' with ⟨hra', hrm⟩ | ⟨s', hs', rfl, _⟩ | ⟨s', o', hs', ho', hp', rfl, h4', h4o', hm'⟩
      · have h1 := ha.same o ho r' hra' e
        have h2 := h1.2 (by omega)
        subst h2
        have := hrm s hs hp
        rw [hm] at this; cases this
      · have := ha.ids o ho; have := hb.ids s' hs'; simp only at e; omega
      · have h1 := (ha.same o ho o' ho' e).2 (by omega)
        subst h1
        have h2 := look_of hb.sorted hs
        have h3 := look_of hb.sorted hs'
        rw [hp, ← hp', h3] at h2
        cases h2
        exact ⟨rfl, fun _ => rfl⟩
  · intro r hr
    rcases src r hr with ⟨hra, _⟩ | ⟨s, hs, rfl, _⟩ | ⟨s, o, hs, ho, _, rfl, _⟩
    · exact ha.kind r hra
    · exact hb.kind s hs
    · exact hb.kind s hs
  · intro r hr
    rcases src r hr with ⟨hra, _⟩ | ⟨s, hs, rfl, _⟩ | ⟨s, o, hs, ho, _, rfl, _⟩
    · exact ha.made r hra
    · exact hb.made s hs
    · exact hb.made s hs
  · intro r hr
    rcases src r hr with ⟨hra, _⟩ | ⟨s, hs, rfl, _⟩ | ⟨s, o, hs, ho, _, rfl, _⟩
    · exact ha.size r hra
    · exact hb.size s hs
    · exact hb.size s hs
theorem over_cases {a b : List S44} {na nb : Int} (ha : Inv a na) (hb : Inv b nb) :
    (∃ t, overT a b na nb = (t, na + nb, 0) ∧ OverOk a b na nb t) ∨ (overT a b na nb = (a, na, 130) ∧ ∃ r ∈ b, badR (lookR a (pp r)) r) := by
  unfold overT
  cases e : overF a b na with
  | none => exact .inr ⟨rfl, overF_none hb.sorted e⟩
  | some t => exact .inl ⟨t, rfl, over_ok ha hb e⟩
def badb (x : Option S44) (r : S44) : Bool := match x with | some o => (o.f2.f0 == 4) != (r.f2.f0 == 4) | none => false
/-- Does one of some rows stand on one of another sort? -/
def clB (a l : List S44) : Bool := l.any (fun r => badb (lookR a (pp r)) r)
theorem clB_true {a b : List S44} : clB a b = true ↔ ∃ r ∈ b, badR (lookR a (pp r)) r := by
  unfold clB
  rw [List.any_eq_true]
  exact ⟨fun ⟨r, hr, h⟩ => ⟨r, hr, (badR_iff _ _).2 h⟩, fun ⟨r, hr, h⟩ => ⟨r, hr, (badR_iff _ _).1 h⟩⟩
theorem over_split {a b : List S44} {na nb : Int} (ha : Inv a na) (hb : Inv b nb) :
    (∃ t, overT a b na nb = (t, na + nb, 0) ∧ OverOk a b na nb t ∧ clB a b = false) ∨ (overT a b na nb = (a, na, 130) ∧ clB a b = true) := by
  rcases over_cases ha hb with ⟨t, h, ok⟩ | ⟨h, hr⟩
  · refine .inl ⟨t, h, ok, ?_⟩
    rw [← Bool.not_eq_true, clB_true]
    rintro ⟨r, hr, hb⟩
    exact ok.good r hr hb
  · exact .inr ⟨h, clB_true.2 hr⟩
theorem OverOk.kinds {a b t : List S44} {na nb : Int} (h : OverOk a b na nb t) {r o : S44} (hr : r ∈ t) (ho : lookR a (pp r) = some o) : (o.f2.f0 == 4) = (r.f2.f0 == 4) := by
  have e := (h.look (pp r)).symm.trans (look_of h.inv.sorted hr)
  rw [ho] at e
  unfold mgL at e
  cases eb : lookR b (pp r) with
  | none => rw [eb] at e; cases e; rfl
  | some s =>
    rw [eb] at e
    have hs := look_mem eb
    have hg := h.good s hs.1
    rw [hs.2] at hg
    have e2 := Option.some.inj e
    unfold mgR at e2
    simp only at e2
    split at e2
    · rw [e2]
    · rw [← e2]
      exact Decidable.byContradiction (fun hn => hg ⟨o, ho, hn⟩)
theorem newN_le (l b : List S44) : newN l b ≤ b.length := List.length_filter_le _ _
end Go.Proofs.YtolpamojbiipaaaDoor.Pure
