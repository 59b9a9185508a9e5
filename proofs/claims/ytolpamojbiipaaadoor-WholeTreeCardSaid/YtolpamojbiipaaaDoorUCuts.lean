/- What usage tells when something is cut off. -/
import Derived.Test.YtolpamojbiipaaaDoorUMore
import Derived.Test.YtolpamojbiipaaaDoorURefSpl
namespace Go.Proofs.YtolpamojbiipaaaDoor.Pure
open Go.RowKit Go.Proofs.YtolpamojbiipaaaDoor.XA Go.Proofs.YtolpamojbiipaaaDoorW.PrintWords Go.Proofs.YtolpamojbiipaaaDoorW.PrintLast Go.Proofs.YtolpamojbiipaaaDoorW.PrintMore
set_option linter.unusedSimpArgs false
set_option linter.unusedVariables false

/-- Without a path, and all in it. -/
def cutL (ps : Pth) (l : List S44) : List S44 := l.filter (fun r => !(underS (joinS ps) r.f0.data.toList))
section
variable {l : List S44} {n : Int}
theorem cut_mem {ps : Pth} {r : S44} : r ∈ cutL ps l ↔ r ∈ l ∧ underS (joinS ps) r.f0.data.toList = false := by
  unfold cutL
  rw [List.mem_filter]
  simp
theorem und_row (h : Inv l n) {ps : Pth} (hg : ∀ p ∈ ps, Good p) {r : S44} (hr : r ∈ l) : underS (joinS ps) r.f0.data.toList = true ↔ ∃ t, pp r = ps ++ t := by
  have hc := h.clean r hr
  conv => lhs; rw [hc.2, mkS_data]
  exact under_iff hg hc.1.good
theorem cut_inv (h : Inv l n) {ps : Pth} (hg : ∀ p ∈ ps, Good p) : Inv (cutL ps l) n := by
  have sub : ∀ r ∈ cutL ps l, r ∈ l := fun r hr => (cut_mem.1 hr).1
  have hs : Sorted (cutL ps l) := h.sorted.filter _
  refine ⟨hs, fun r hr => h.clean r (sub r hr), fun r hr q hq => ?_, fun r hr => h.ids r (sub r hr), fun r hr s hs => h.same r (sub r hr) s (sub s hs), fun r hr => h.kind r (sub r hr), fun r hr => h.made r (sub r hr), fun r hr => h.size r (sub r hr), h.next⟩
  obtain ⟨d, hd, h4⟩ := h.closed r (sub r hr) q hq
  have hdm := look_mem hd
  refine ⟨d, (look_iff hs).2 ⟨cut_mem.2 ⟨hdm.1, ?_⟩, hdm.2⟩, h4⟩
  cases e : underS (joinS ps) d.f0.data.toList with
  | false => rfl
  | true =>
    obtain ⟨t, ht⟩ := (und_row h hg hdm.1).1 e
    obtain ⟨_, u, _, hu⟩ := hq
    have : underS (joinS ps) r.f0.data.toList = true := (und_row h hg (sub r hr)).2 ⟨t ++ u, by rw [hu, ← hdm.2, ht, List.append_assoc]⟩
    rw [(cut_mem.1 hr).2] at this
    cases this
theorem cut_use (h : Inv l n) (hl : l.length ≤ 900000) {ps : Pth} (hg : ∀ p ∈ ps, Good p) :
    (ofL (cutL ps l)).1 ≤ (ofL l).1 ∧ (ofL (cutL ps l)).2.1 ≤ (ofL l).2.1 ∧ (ofL (cutL ps l)).2.2.1 ≤ (ofL l).2.2.1 ∧ (ofL (cutL ps l)).2.2.2 ≤ (ofL l).2.2.2 := by
  have hI := cut_inv h hg
  have sub : ∀ r ∈ cutL ps l, r ∈ l := fun r hr => (cut_mem.1 hr).1
  have hlen : (cutL ps l).length ≤ l.length := List.length_filter_le _ _
  have hd := dp_mono sub
  rw [ofL_is h (by omega), ofL_is hI (by omega)]
  have low : ∀ j : Nat, j < n.toNat → wt (cutL ps l) j ≤ wt l j ∧ hs (cutL ps l) j ≤ hs l j := fun j hj => by
    rcases wt_cases hI (j : Int) with ⟨x, hx, e, e1, e2⟩ | ⟨e1, e2⟩
    · rw [e1, e2, ← e, h.wt_of (sub x hx), hs_of (sub x hx)]
      exact ⟨Int.le_refl _, Int.le_refl _⟩
    · rw [e1, e2]
      exact ⟨h.wt_nonneg _, (hs_le l _).1⟩
  exact ⟨sum_le _ (fun j hj => (low j hj).1), sum_le _ (fun j hj => (low j hj).2), hd.1, hd.2⟩
theorem cut_all (h : Inv l n) : cutL [] l = [] := by
  apply List.eq_nil_iff_forall_not_mem.2
  intro r hr
  have := cut_mem.1 hr
  have h2 : underS (joinS []) r.f0.data.toList = true := (und_row h (by simp) this.1).2 ⟨_, rfl⟩
  rw [this.2] at h2
  cases h2
end
end Go.Proofs.YtolpamojbiipaaaDoor.Pure
