/- A path that is named from a directory is found from there again (without the law's own heads). -/
import Derived.Test.YtolpamojbiipaaaDoorUResolve
namespace Go.Proofs.YtolpamojbiipaaaDoor.Pure
open Go.RowKit Go.Proofs.YtolpamojbiipaaaDoor.XA Go.Proofs.YtolpamojbiipaaaDoorW.PrintWords Go.Proofs.YtolpamojbiipaaaDoorW.PrintLast Go.Proofs.YtolpamojbiipaaaDoorW.PrintMore
set_option linter.unusedSimpArgs false
set_option linter.unusedVariables false

/-- What a clean raw text's parts are worth. -/
structure Dir (d : List (List UInt8)) : Prop where
  good : ∀ p ∈ d, Good p
  len : (joinS d).length ≤ 1000
theorem Dir.weight {d : List (List UInt8)} (h : Dir d) : weight d ≤ 1001 := by
  have := weight_join d
  have hl := h.len
  by_cases h0 : d = []
  · subst h0; simp [Pure.weight]
  · have := this.2 h0; omega
/-- What may stand as a step: dots, or a clean part. -/
def Step (p : List UInt8) : Prop := p = [46, 46] ∨ Good p
theorem Step.facts {p : List UInt8} (h : Step p) : p ≠ [] ∧ p ≠ [46] ∧ (47 : UInt8) ∉ p ∧ (0 : UInt8) ∉ p ∧ Lib.validD p = true := by
  rcases h with rfl | h
  · exact ⟨by decide, by decide, by decide, by decide, by decide +kernel⟩
  · exact ⟨h.ne, h.dot, h.slash, h.nul, h.valid⟩
theorem steps_names {w : List (List UInt8)} (h : ∀ p ∈ w, Step p) (hne : w ≠ []) : names (joinS w) = w := by
  unfold names
  rw [cutS_join hne fun p hp => (h p hp).facts.2.2.1]
  exact List.filter_eq_self.2 fun p hp => by
    obtain ⟨h1, h2, _⟩ := (h p hp).facts
    simp [keep, h1, h2]
theorem steps_ne {w : List (List UInt8)} (h : ∀ p ∈ w, Step p) (hne : w ≠ []) : joinS w ≠ [] := by
  cases w with
  | nil => exact absurd rfl hne
  | cons p r =>
    have hp := (h p (List.mem_cons_self ..)).facts.1
    cases r with
    | nil => exact hp
    | cons q r => rw [joinS]; simp
theorem steps_sound {w : List (List UInt8)} (h : ∀ p ∈ w, Step p) (hne : w ≠ []) (hl : (joinS w).length ≤ 4000) : sound (joinS w) = 0 := by
  refine sound_mk (steps_ne h hne) hl (fun hz => ?_) (valid_join w fun p hp => (h p hp).facts.2.2.2.2) ?_
  · rcases mem_joinS hz with h0 | ⟨p, hp, hz⟩
    · cases h0
    · exact (h p hp).facts.2.2.2.1 hz
  · cases w with
    | nil => exact absurd rfl hne
    | cons p r =>
      obtain ⟨f1, _, f3, _⟩ := (h p (List.mem_cons_self ..)).facts
      obtain ⟨c, t, rfl⟩ : ∃ c t, p = c :: t := by
        cases p with
        | nil => exact absurd rfl f1
        | cons c t => exact ⟨c, t, rfl⟩
      have hc : c ≠ 47 := fun e => f3 (by rw [e]; exact List.mem_cons_self ..)
      cases r with
      | nil => simpa [joinS] using hc
      | cons q r => simpa [joinS] using hc
theorem ways_step {x y : List (List UInt8)} (hy : ∀ p ∈ y, Good p) : ∀ p ∈ ways x y, Step p := by
  intro p hp
  obtain ⟨c, e1, e2⟩ := strip_spec x y
  rcases List.mem_append.1 hp with hp | hp
  · exact .inl (List.eq_of_mem_replicate hp)
  · exact .inr (hy p (by rw [e2]; exact List.mem_append_right _ hp))
theorem ways_len {x y : List (List UInt8)} (hx : Dir x) (hy : Dir y) : (joinS (ways x y)).length ≤ 4000 := by
  have h1 := hx.weight
  have h2 := hy.weight
  have h3 := ways_weight x y
  have h4 := (weight_join (ways x y)).1
  -- each part of a path takes two bytes at least
  have h5 : ∀ z : List (List UInt8), (∀ p ∈ z, Good p) → 2 * z.length ≤ weight z := by
    intro z
    induction z with
    | nil => intro _; simp
    | cons p r ih =>
      intro h
      have hp := List.length_pos_iff.2 (h p (List.mem_cons_self ..)).ne
      have := ih fun q hq => h q (List.mem_cons_of_mem _ hq)
      rw [weight_cons, List.length_cons]
      omega
  have h6 := h5 x hx.good
  omega
theorem rel_sound {x y : List (List UInt8)} (hx : Dir x) (hy : Dir y) : sound (relS x y) = 0 ∧ names (relS x y) = ways x y := by
  unfold relS
  by_cases h0 : ways x y = []
  · rw [if_pos h0, h0]
    exact ⟨by decide +kernel, by decide⟩
  · rw [if_neg h0]
    have hs := ways_step (x := x) hy.good
    exact ⟨steps_sound hs h0 (ways_len hx hy), steps_names hs h0⟩
theorem rel_ne {x y : List (List UInt8)} (hx : Dir x) (hy : Dir y) : relS x y ≠ [] := (sound_le (rel_sound hx hy).1).1
theorem res_back {x y : List (List UInt8)} (hx : Dir x) (hy : Dir y) : resS x (relS x y) = (y, 0) := by
  obtain ⟨h1, h2⟩ := rel_sound hx hy
  rw [res_of h1, h2]
  obtain ⟨c, e1, e2⟩ := strip_spec x y
  unfold ways
  generalize (strip x y).1 = a at e1
  generalize (strip x y).2 = b at e2
  rw [e1, steps_up a.length rfl, steps_down fun p hp => hy.good p (by rw [e2]; exact List.mem_append_right _ hp), ← e2]
end Go.Proofs.YtolpamojbiipaaaDoor.Pure
