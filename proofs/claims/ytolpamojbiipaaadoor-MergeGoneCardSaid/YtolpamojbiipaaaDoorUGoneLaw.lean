/- MergeGone in plain words: what is gone are the contents without a name. -/
import Derived.Test.YtolpamojbiipaaaDoorUMerge
import Derived.Test.YtolpamojbiipaaaDoorUCon
import Derived.Test.YtolpamojbiipaaaDoorXA19
namespace Go.Proofs.YtolpamojbiipaaaDoor.Pure
open Go.RowKit Go.Proofs.YtolpamojbiipaaaDoor.XA Go.Proofs.YtolpamojbiipaaaDoorW.PrintWords Go.Proofs.YtolpamojbiipaaaDoorW.PrintLast Go.Proofs.YtolpamojbiipaaaDoorW.PrintMore
set_option linter.unusedSimpArgs false
set_option linter.unusedVariables false

def namesN (l : List S44) (x : Int) : Nat := (l.filter (fun r => r.f1 == x)).length
theorem names_l0 {x : Int} {l : List S44} (hl : l.length ≤ 1000000) : ∀ (r : List S44) (i c : Nat), l.drop i = r → c ≤ i → Ev (fun k => tree_Tree_Names.l0 k x (c : Int) l (l.length : Int) (i : Int)) ((c + namesN r x : Nat) : Int)
  | [], i, c, h, hc => by
    have hge := drop_ge h
    refine Ev.step (fun k => by rw [tree_Tree_Names.l0]) ?_
    simp only [show ¬ ((i : Int) < (l.length : Int)) by omega, if_false]
    exact ev_eq (ev_some _) (by simp [namesN])
  | y :: r, i, c, h, hc => by
    have hlt := drop_lt h
    have hrd : rd_T44 l (i : Int) = y := by
      have : l[i]? = some y := by
        have h2 : (l.drop i)[0]? = some y := by rw [h]; rfl
        simpa [List.getElem?_drop] using h2
      unfold rd_T44
      rw [List.getD_eq_getElem?_getD, Int.toNat_natCast, this]
      rfl
    refine Ev.step (fun k => by rw [tree_Tree_Names.l0]) ?_
    simp only [show (i : Int) < (l.length : Int) by omega, if_true, show (0 : Int) ≤ (i : Int) by omega, hrd]
    by_cases e : y.f1 = x
    · simp only [if_pos e, wnext (i := i) (by omega), wnext (i := c) (by omega)]
      refine ev_eq (names_l0 hl r (i + 1) (c + 1) (drop_next h) (by omega)) ?_
      unfold namesN
      rw [List.filter_cons, if_pos (beq_iff_eq.2 e), List.length_cons]
      omega
    · simp only [if_neg e, wnext (i := i) (by omega)]
      refine ev_eq (names_l0 hl r (i + 1) c (drop_next h) (by omega)) ?_
      unfold namesN
      rw [List.filter_cons, if_neg (by simpa using e)]
theorem names_ev {x n : Int} {l : List S44} (hl : l.length ≤ 1000000) : Ev (fun k => tree_Tree_Names.f k l n x) ((namesN l x : Nat) : Int) := by
  unfold tree_Tree_Names.f
  exact ev_eq (names_l0 hl l 0 0 rfl (Nat.le_refl _)) (by simp)
theorem names_zero {l : List S44} {x : Int} : namesN l x = 0 ↔ ∀ r ∈ l, r.f1 ≠ x := by
  unfold namesN
  rw [List.length_eq_zero_iff, List.filter_eq_nil_iff]
  simp
theorem names_le (l : List S44) (x : Int) : namesN l x ≤ l.length := List.length_filter_le _ _
/-- The contents of a without a name in t; of them those seen so far. -/
def gz (a t : List S44) (x : Int) : Option Int := if namesN t x = 0 then (con a).1 x else none
def vis (a t : List S44) (fl : Int → Bool) (x : Int) : Option Int := if fl x then none else gz a t x
section
variable {a b t : List S44} {na nb : Int}
theorem goneF_gz (ha : Inv a na) (h : OverOk a b na nb t) (x : Int) (hb : Inv b nb) : goneF a t x = gz a t x := by
  unfold goneF gz
  cases e : (con a).1 x with
  | none => simp
  | some z =>
    obtain ⟨r, hr, e1, hk, _⟩ := con_some e
    have hx := ha.ids r hr
    by_cases hn : namesN t x = 0
    · rw [if_pos hn, if_neg]
      rw [con_has]
      rintro ⟨s, hs, e2, _⟩
      exact names_zero.1 hn s hs e2
    · rw [if_neg hn, if_pos]
      have hn' : ∃ s ∈ t, s.f1 = x := by
        refine Decidable.byContradiction (fun hh => hn (names_zero.2 (fun s hs e => hh ⟨s, hs, e⟩)))
      obtain ⟨s, hs, e2⟩ := hn'
      rw [con_has]
      refine ⟨s, hs, e2, ?_⟩
      rcases h.src s hs with ⟨hsa, _⟩ | ⟨s', hs', rfl, _⟩ | ⟨s', o, hs', ho, _, rfl, h4, h4o, _⟩
      · rw [(ha.same s hsa r hr (e2.trans e1.symm)).1]; exact hk
      · have := hb.ids s' hs'; simp only at e2; omega
      · have := (ha.same o ho r hr (e2.trans e1.symm)).1
        rw [this] at h4o; omega
theorem vis_step {φ : Int → Int} {fl : Int → Bool} {x z : Int} {n : Nat} (h0 : 0 ≤ x) (h1 : x < n) (hf : fl x = true) (hz : (con a).1 x = some z) :
    tot φ (vis a t (fun y => fl y && !(y == x))) n = tot φ (vis a t fl) n + if namesN t x = 0 then φ z else 0 := by
  rw [tot_point (f := vis a t (fun y => fl y && !(y == x))) (g := vis a t fl) h0 h1 (fun y hy => by unfold vis; simp [hy])]
  unfold vis gz
  simp only [hf, beq_self_eq_true, Bool.not_true, Bool.and_false, Bool.false_eq_true, if_false, if_true, hz]
  by_cases hq : namesN t x = 0
  · simp only [if_pos hq]; omega
  · simp only [if_neg hq]; omega
theorem vis_start (φ : Int → Int) (n : Nat) : tot φ (vis a t (fun x => ((con a).1 x).isSome)) n = 0 := tot_none (fun j _ => by
  unfold vis gz
  cases e : (con a).1 (j : Int) <;> simp [e])
theorem vis_end {φ : Int → Int} {fl : Int → Bool} {n : Nat} (ha : Inv a na) (hb : Inv b nb) (h : OverOk a b na nb t) (hn : n ≤ 1000000) (hf : ∀ x, (Lit.int .i64 x).wf = true → fl x = false) : tot φ (vis a t fl) n = tot φ (goneF a t) n := tot_congr (fun j hj => by
  have hw : (Lit.int .i64 (j : Int)).wf = true := by
    simp only [Lit.wf, IntKind.min, IntKind.max, IntKind.signed, IntKind.bits, Bool.and_eq_true, decide_eq_true_eq]
    simp
    omega
  unfold vis
  rw [hf _ hw, goneF_gz ha h _ hb]
  simp)
theorem con_size (ha : Inv a na) {x z : Int} (h : (con a).1 x = some z) : 0 ≤ x ∧ x < na ∧ 0 ≤ z ∧ z ≤ 1048576 := by
  obtain ⟨r, hr, e1, _, e2⟩ := con_some h
  have h1 := ha.ids r hr
  have h2 := ha.size r hr
  omega
theorem tot_size {f : Int → Option Int} (hf : ∀ x z, f x = some z → 0 ≤ z ∧ z ≤ 1048576) : ∀ n, 0 ≤ tot id f n ∧ tot id f n ≤ n * 1048576
  | 0 => by simp [tot, sumN]
  | n + 1 => by
    have ih := tot_size hf n
    have e : tot id f (n + 1) = tot id f n + (match f (n : Int) with | some z => id z | none => 0) := rfl
    rw [e]
    cases h : f (n : Int) with
    | none => simp only; omega
    | some z => have := hf _ z h; simp only [id]; omega
theorem vis_sub {fl : Int → Bool} {x z : Int} (h : vis a t fl x = some z) : (con a).1 x = some z := by
  unfold vis gz at h
  split at h
  · cases h
  · split at h
    · exact h
    · cases h
theorem gone_two (ha : Inv a na) : ((goneGo a (goneF a t)).length : Int) = tot one (goneF a t) na.toNat ∧ (goneGo a (goneF a t)).sum = tot id (goneF a t) na.toNat := by
  refine ⟨gone_len ha, ?_⟩
  have := gone_sum (t := t) ha id
  simpa using this
theorem gone_each (ha : Inv a na) : ∀ z ∈ goneGo a (goneF a t), 0 ≤ z ∧ z ≤ 1048576 := by
  have gen : ∀ (l : List S44) (g : Int → Option Int), (∀ x z, g x = some z → 0 ≤ z ∧ z ≤ 1048576) → ∀ z ∈ goneGo l g, 0 ≤ z ∧ z ≤ 1048576 := by
    intro l
    induction l with
    | nil => intro g _ z hz; cases hz
    | cons r l ih =>
      intro g hg z hz
      rw [goneGo] at hz
      cases e : g r.f1 with
      | none => rw [e] at hz; exact ih g hg z hz
      | some y =>
        rw [e] at hz
        rcases List.mem_cons.1 hz with rfl | hz
        · exact hg _ _ e
        · refine ih (delF g r.f1) (fun x y hy => hg x y ?_) z hz
          unfold delF at hy
          split at hy
          · cases hy
          · exact hy
  refine gen a _ (fun x z h => ?_)
  have : (con a).1 x = some z := by
    unfold goneF at h
    split at h
    · cases h
    · exact h
  have := con_size ha this
  omega
theorem sum_bound : ∀ (g : List Int), (∀ z ∈ g, 0 ≤ z ∧ z ≤ 1048576) → 0 ≤ g.sum ∧ g.sum ≤ g.length * 1048576
  | [], _ => by simp
  | x :: g, h => by
    have h1 := h x List.mem_cons_self
    have ih := sum_bound g (fun z hz => h z (List.mem_cons_of_mem _ hz))
    rw [List.sum_cons, List.length_cons]
    omega
end
end Go.Proofs.YtolpamojbiipaaaDoor.Pure
