/- What comes of two trees has no more than both together. -/
import Derived.Test.YtolpamojbiipaaaDoorUMerge
import Derived.Test.YtolpamojbiipaaaDoorUUse
import Derived.Test.YtolpamojbiipaaaDoorUCon
namespace Go.Proofs.YtolpamojbiipaaaDoor.Pure
open Go.RowKit Go.Proofs.YtolpamojbiipaaaDoor.XA Go.Proofs.YtolpamojbiipaaaDoorW.PrintWords Go.Proofs.YtolpamojbiipaaaDoorW.PrintLast Go.Proofs.YtolpamojbiipaaaDoorW.PrintMore
set_option linter.unusedSimpArgs false
set_option linter.unusedVariables false

section
variable {a b t : List S44} {na nb : Int}
theorem OverOk.row_of (h : OverOk a b na nb t) {x : S44} (hx : x ∈ t) : (∃ r ∈ a, pp x = pp r ∧ x.f0 = r.f0) ∨ (∃ s ∈ b, pp x = pp s ∧ x.f0 = s.f0) := by
  rcases h.src x hx with ⟨hxa, _⟩ | ⟨s, hs, rfl, _⟩ | ⟨s, o, hs, _, _, rfl, _⟩
  · exact .inl ⟨x, hxa, rfl, rfl⟩
  · exact .inr ⟨s, hs, rfl, rfl⟩
  · exact .inr ⟨s, hs, rfl, rfl⟩
theorem le_maxI {a b : Int} : a ≤ maxI a b ∧ b ≤ maxI a b := maxI_le.1 (Int.le_refl _)
theorem dp_row {l : List S44} {r : S44} (hr : r ∈ l) : ((pp r).length : Int) ≤ dp l 0 ∧ (r.f0.size : Int) ≤ lg l 0 := ⟨(dp_le.1 (Int.le_refl _)).2 r hr, (lg_le.1 (Int.le_refl _)).2 r hr⟩
theorem dp_pos (l : List S44) : 0 ≤ dp l 0 ∧ 0 ≤ lg l 0 := ⟨(dp_le.1 (Int.le_refl _)).1, (lg_le.1 (Int.le_refl _)).1⟩
theorem use_bounds {l : List S44} {n : Int} (h : Inv l n) (hl : l.length ≤ 9060) (hn : n ≤ 9060) : 0 ≤ (ofL l).1 ∧ (ofL l).1 ≤ 9500098560 ∧ 0 ≤ (ofL l).2.1 ∧ (ofL l).2.1 ≤ 9060 := by
  have hn0 := h.next
  rw [ofL_is h (by omega)]
  simp only
  have hw : ∀ i, 0 ≤ wt l i ∧ wt l i ≤ 1048576 := fun i => by
    refine ⟨h.wt_nonneg i, ?_⟩
    unfold wt
    cases e : byId l i with
    | none => simp
    | some r =>
      have := h.size r (byId_some e).1
      simp only [rowB]; split <;> omega
  have h1 := sum_nonneg (f := fun j => wt l j) n.toNat (fun i _ => (hw i).1)
  have h2 : ∀ n : Nat, sumN (fun j => wt l j) n ≤ n * 1048576 := by
    intro n
    induction n with
    | zero => simp [sumN]
    | succ n ih => have := (hw n).2; simp only [sumN]; omega
  have h3 := sum_nonneg (f := fun j => hs l j) n.toNat (fun i _ => (hs_le l i).1)
  have h4 := sum_cap (f := fun j => hs l j) (n := 0) n.toNat (Nat.zero_le _) (fun i _ _ => (hs_le l i).2)
  have h5 := h2 n.toNat
  have h6 : sumN (fun j => hs l j) 0 = 0 := rfl
  refine ⟨h1, by omega, h3, by omega⟩
theorem fits_use (ha : Inv a na) (hb : Inv b nb) (h : OverOk a b na nb t) (hla : a.length ≤ 4530) (hlb : b.length ≤ 4530) :
    (ofL t).1 ≤ (ofL a).1 + (ofL b).1 ∧ (ofL t).2.1 ≤ (ofL a).2.1 + (ofL b).2.1 ∧ (ofL t).2.2.1 ≤ maxI (ofL a).2.2.1 (ofL b).2.2.1 ∧ (ofL t).2.2.2 ≤ maxI (ofL a).2.2.2 (ofL b).2.2.2 := by
  have hna := ha.next
  have hnb := hb.next
  have hlen := h.len
  have hnn := newN_le a b
  rw [ofL_is ha (by omega), ofL_is hb (by omega), ofL_is h.inv (by omega)]
  simp only
  rw [show (na + nb).toNat = na.toNat + nb.toNat by omega, sum_split, sum_split]
  have low : ∀ j : Nat, j < na.toNat → wt t j ≤ wt a j ∧ hs t j ≤ hs a j := fun j hj => by
    by_cases he : ∃ r ∈ t, r.f1 = j
    · obtain ⟨r, hr, e⟩ := he
      rw [← e, h.inv.wt_of hr, hs_of hr]
      rcases h.src r hr with ⟨hra, _⟩ | ⟨s, hs, rfl, _⟩ | ⟨s, o, hs, ho, _, rfl, h4, _⟩
      · rw [ha.wt_of hra, hs_of hra]; exact ⟨Int.le_refl _, Int.le_refl _⟩
      · have := hb.ids s hs; simp only at e; omega
      · refine ⟨?_, by simp only; rw [hs_of ho]; exact Int.le_refl _⟩
        have := ha.wt_nonneg o.f1
        unfold rowB
        simp only
        rw [if_neg (by omega)]
        exact this
    · have hz := hs_no (l := t) (i := j) (fun r hr e => he ⟨r, hr, e⟩)
      rw [hz.1, hz.2]
      exact ⟨ha.wt_nonneg _, (hs_le a j).1⟩
  have high : ∀ k : Nat, k < nb.toNat → wt t ((na.toNat + k : Nat) : Int) ≤ wt b k ∧ hs t ((na.toNat + k : Nat) : Int) ≤ hs b k := fun k hk => by
    by_cases he : ∃ r ∈ t, r.f1 = ((na.toNat + k : Nat) : Int)
    · obtain ⟨r, hr, e⟩ := he
      rw [← e, h.inv.wt_of hr, hs_of hr]
      rcases h.src r hr with ⟨hra, _⟩ | ⟨s, hs, rfl, _⟩ | ⟨s, o, hs, ho, _, rfl, h4, _⟩
      · have := ha.ids r hra; omega
      · simp only at e
        have es : s.f1 = k := by omega
        rw [← es, hb.wt_of hs, hs_of hs]
        exact ⟨Int.le_refl _, Int.le_refl _⟩
      · have := ha.ids o ho; simp only at e; omega
    · have hz := hs_no (l := t) (i := ((na.toNat + k : Nat) : Int)) (fun r hr e => he ⟨r, hr, e⟩)
      rw [hz.1, hz.2]
      exact ⟨hb.wt_nonneg _, (hs_le b k).1⟩
  refine ⟨?_, ?_, dp_le.2 ⟨Int.le_trans (dp_pos a).1 le_maxI.1, fun x hx => ?_⟩, lg_le.2 ⟨Int.le_trans (dp_pos a).2 le_maxI.1, fun x hx => ?_⟩⟩
  · have h1 := sum_le na.toNat (fun j hj => (low j hj).1)
    have h2 := sum_le nb.toNat (fun j hj => (high j hj).1)
    omega
  · have h1 := sum_le na.toNat (fun j hj => (low j hj).2)
    have h2 := sum_le nb.toNat (fun j hj => (high j hj).2)
    omega
  · rcases h.row_of hx with ⟨r, hr, e, _⟩ | ⟨s, hs, e, _⟩
    · rw [e]; exact Int.le_trans (dp_row hr).1 le_maxI.1
    · rw [e]; exact Int.le_trans (dp_row hs).1 le_maxI.2
  · rcases h.row_of hx with ⟨r, hr, _, e⟩ | ⟨s, hs, _, e⟩
    · rw [e]; exact Int.le_trans (dp_row hr).2 le_maxI.1
    · rw [e]; exact Int.le_trans (dp_row hs).2 le_maxI.2
/-- A row of the upper one in the whole. -/
theorem fits_b (ha : Inv a na) (hb : Inv b nb) (h : OverOk a b na nb t) {r : S44} (hr : r ∈ b) : ∃ x, lookR t (pp r) = some x ∧ x.f2.f0 = r.f2.f0 ∧ (r.f2.f9 = true ∨ x.f2.f1 = r.f2.f1) := by
  refine ⟨_, by rw [h.look, look_of hb.sorted hr]; rfl, ?_⟩
  unfold mgR
  cases ea : lookR a (pp r) with
  | none => exact ⟨rfl, .inr rfl⟩
  | some o =>
    simp only
    by_cases hm : r.f2.f9 = true
    · rw [if_pos hm]
      have h4 := hb.made r hr hm
      exact ⟨by rw [h4]; exact (good_of (h.good r hr) ea).2 h4, .inl hm⟩
    · rw [if_neg hm]; exact ⟨rfl, .inr rfl⟩
theorem fits_a (ha : Inv a na) (hb : Inv b nb) (h : OverOk a b na nb t) {r : S44} (hr : r ∈ a) : (lookR b (pp r) = none ∧ lookR t (pp r) = some r) ∨ ∃ s x, lookR b (pp r) = some s ∧ lookR t (pp r) = some x := by
  cases eb : lookR b (pp r) with
  | none => exact .inl ⟨rfl, by rw [h.look, eb, look_of ha.sorted hr]; rfl⟩
  | some s => exact .inr ⟨s, _, rfl, by rw [h.look, eb, look_of ha.sorted hr]; rfl⟩
theorem fits_none (hb : Inv b nb) : ∃ t, overT [] b 0 nb = (t, 0 + nb, 0) ∧ Inv t (0 + nb) ∧ t.length = b.length := by
  rcases over_split inv_nil hb with ⟨t, e, ok, _⟩ | ⟨_, hf⟩
  · refine ⟨t, e, ok.inv, ?_⟩
    rw [ok.len]
    unfold newN
    have : b.filter (fun r => (lookR [] (pp r)).isNone) = b := List.filter_eq_self.2 (fun r _ => rfl)
    rw [this]
    simp
  · obtain ⟨s, _, o, ho, _⟩ := clB_true.1 hf
    cases ho
theorem fits_same (a : List S44) (na : Int) : overT a [] na 0 = (a, na + 0, 0) := rfl
end
end Go.Proofs.YtolpamojbiipaaaDoor.Pure
