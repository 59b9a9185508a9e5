/- The contents of a tree, and those that are gone, by sums over numbers. -/
import Derived.Test.YtolpamojbiipaaaDoorEGone
import Derived.Test.YtolpamojbiipaaaDoorUNums
namespace Go.Proofs.YtolpamojbiipaaaDoor.Pure
open Go.RowKit Go.Proofs.YtolpamojbiipaaaDoor.XA Go.Proofs.YtolpamojbiipaaaDoorW.PrintWords Go.Proofs.YtolpamojbiipaaaDoorW.PrintLast Go.Proofs.YtolpamojbiipaaaDoorW.PrintMore
set_option linter.unusedSimpArgs false
set_option linter.unusedVariables false

/-- The weights of what a function holds below n. -/
def tot (φ : Int → Int) (g : Int → Option Int) (n : Nat) : Int := sumN (fun j => match g j with | some z => φ z | none => 0) n
theorem tot_congr {φ : Int → Int} {f g : Int → Option Int} {n : Nat} (h : ∀ j : Nat, j < n → f j = g j) : tot φ f n = tot φ g n :=
  sum_eq n (fun j hj => by simp only [h j hj])
theorem tot_none {φ : Int → Int} {g : Int → Option Int} {n : Nat} (h : ∀ j : Nat, j < n → g j = none) : tot φ g n = 0 :=
  (sum_eq n (fun j hj => by simp only [h j hj])).trans (sum_zero n)
theorem tot_point {φ : Int → Int} {f g : Int → Option Int} {n : Nat} {i : Int} (h0 : 0 ≤ i) (h1 : i < n) (h : ∀ x, x ≠ i → f x = g x) :
    tot φ f n = tot φ g n + ((match f i with | some z => φ z | none => 0) - (match g i with | some z => φ z | none => 0)) := by
  obtain ⟨a, rfl⟩ : ∃ a : Nat, i = (a : Int) := ⟨i.toNat, by omega⟩
  exact sum_point (f := fun j => match f j with | some z => φ z | none => 0) (g := fun j => match g j with | some z => φ z | none => 0) n (by omega) (fun j hj hne => by
    simp only [h (j : Int) (by omega)])
theorem sum_split (f : Nat → Int) (n : Nat) : ∀ m, sumN f (n + m) = sumN f n + sumN (fun j => f (n + j)) m
  | 0 => by simp [sumN]
  | m + 1 => by rw [← Nat.add_assoc, sumN, sum_split f n m, sumN]; omega
theorem sum_add (f g : Nat → Int) : ∀ n, sumN (fun j => f j + g j) n = sumN f n + sumN g n
  | 0 => rfl
  | n + 1 => by simp only [sumN, sum_add f g n]; omega
/-- How many. -/
abbrev one : Int → Int := fun _ => 1

theorem con_fold_some {x z : Int} : ∀ (l : List S44) (q : (Int → Option Int) × Nat), (l.foldl conGo q).1 x = some z → q.1 x = some z ∨ ∃ r ∈ l, r.f1 = x ∧ r.f2.f0 = 1 ∧ r.f2.f8.f1 = z
  | [], q, h => .inl h
  | r :: l, q, h => by
    rw [List.foldl_cons] at h
    rcases con_fold_some l _ h with h | ⟨s, hs, h⟩
    · unfold conGo at h
      split at h
      · rename_i hk
        simp only [putF] at h
        split at h
        · rename_i e
          exact .inr ⟨r, List.mem_cons_self, e.symm, hk, by simpa using h⟩
        · exact .inl h
      · exact .inl h
    · exact .inr ⟨s, List.mem_cons_of_mem _ hs, h⟩
theorem con_fold_keep {x : Int} : ∀ (l : List S44) (q : (Int → Option Int) × Nat), (q.1 x).isSome = true → ((l.foldl conGo q).1 x).isSome = true
  | [], q, h => h
  | r :: l, q, h => by
    rw [List.foldl_cons]
    refine con_fold_keep l _ ?_
    unfold conGo
    split
    · simp only [putF]; split
      · rfl
      · exact h
    · exact h
theorem con_fold_has : ∀ (l : List S44) (q : (Int → Option Int) × Nat) (r : S44), r ∈ l → r.f2.f0 = 1 → ((l.foldl conGo q).1 r.f1).isSome = true
  | x :: l, q, r, h, hk => by
    rw [List.foldl_cons]
    rcases List.mem_cons.1 h with rfl | h
    · refine con_fold_keep l _ ?_
      unfold conGo
      rw [if_pos hk]
      simp [putF]
    · exact con_fold_has l _ r h hk
theorem con_some {l : List S44} {x z : Int} (h : (con l).1 x = some z) : ∃ r ∈ l, r.f1 = x ∧ r.f2.f0 = 1 ∧ r.f2.f8.f1 = z := by
  rcases con_fold_some l _ h with h | h
  · cases h
  · exact h
theorem con_has {l : List S44} {x : Int} : ((con l).1 x).isSome = true ↔ ∃ r ∈ l, r.f1 = x ∧ r.f2.f0 = 1 := by
  constructor
  · intro h
    obtain ⟨z, hz⟩ := Option.isSome_iff_exists.1 h
    obtain ⟨r, h1, h2, h3, _⟩ := con_some hz
    exact ⟨r, h1, h2, h3⟩
  · rintro ⟨r, hr, rfl, hk⟩
    exact con_fold_has l _ r hr hk
theorem Inv.con_is {l : List S44} {n : Int} (h : Inv l n) {r : S44} (hr : r ∈ l) (hk : r.f2.f0 = 1) : (con l).1 r.f1 = some r.f2.f8.f1 := by
  obtain ⟨z, hz⟩ := Option.isSome_iff_exists.1 (con_has.2 ⟨r, hr, rfl, hk⟩)
  obtain ⟨s, hs, e, _, hz2⟩ := con_some hz
  rw [hz, ← hz2, (h.same s hs r hr e).1]
theorem con_no {l : List S44} {x : Int} (h : ∀ r ∈ l, r.f1 = x → r.f2.f0 ≠ 1) : (con l).1 x = none := by
  cases e : (con l).1 x with
  | none => rfl
  | some z => obtain ⟨r, hr, h1, h2, _⟩ := con_some e; exact absurd h2 (h r hr h1)
theorem con_cnt {l : List S44} {n : Nat} (h : ∀ r ∈ l, 0 ≤ r.f1 ∧ r.f1 < n) : ((con l).2 : Int) = tot one (con l).1 n := by
  have gen : ∀ (l : List S44) (q : (Int → Option Int) × Nat), (∀ r ∈ l, 0 ≤ r.f1 ∧ r.f1 < n) → (q.2 : Int) = tot one q.1 n → ((l.foldl conGo q).2 : Int) = tot one (l.foldl conGo q).1 n := by
    intro l
    induction l with
    | nil => intro q _ h; exact h
    | cons r l ih =>
      intro q hl h
      rw [List.foldl_cons]
      refine ih _ (fun x hx => hl x (List.mem_cons_of_mem _ hx)) ?_
      have hr := hl r List.mem_cons_self
      unfold conGo
      split
      · have := tot_point (φ := one) (f := putF q.1 r.f1 r.f2.f8.f1) (g := q.1) hr.1 hr.2 (fun x hx => by simp only [putF, if_neg hx])
        rw [this, ← h]
        simp only [putF, if_true, putN]
        cases q.1 r.f1 <;> simp
      · exact h
  refine gen l _ h ?_
  rw [tot_none (fun _ _ => rfl)]; rfl
theorem gone_tot {φ : Int → Int} {n : Nat} : ∀ (l : List S44) (g : Int → Option Int), (∀ r ∈ l, 0 ≤ r.f1 ∧ r.f1 < n) → (∀ j : Nat, j < n → (g j).isSome = true → ∃ r ∈ l, r.f1 = j) → ((goneGo l g).map φ).sum = tot φ g n
  | [], g, _, h => by
    rw [tot_none (fun j hj => by
      cases e : g j with
      | none => rfl
      | some z => obtain ⟨r, hr, _⟩ := h j hj (by rw [e]; rfl); cases hr)]
    rfl
  | r :: l, g, hl, h => by
    have hr := hl r List.mem_cons_self
    have ht := fun x hx => hl x (List.mem_cons_of_mem _ hx)
    rw [goneGo]
    cases e : g r.f1 with
    | none =>
      simp only
      refine gone_tot l g ht (fun j hj hs => ?_)
      obtain ⟨s, hs', e2⟩ := h j hj hs
      rcases List.mem_cons.1 hs' with rfl | hs'
      · rw [← e2, e] at hs; cases hs
      · exact ⟨s, hs', e2⟩
    | some z =>
      simp only
      rw [List.map_cons, List.sum_cons, gone_tot l (delF g r.f1) ht (fun j hj hs => ?_), tot_point (f := g) (g := delF g r.f1) hr.1 hr.2 (fun x hx => by simp only [delF, if_neg hx])]
      · simp only [delF, if_true, e]; omega
      · simp only [delF] at hs
        split at hs
        · cases hs
        · rename_i hne
          obtain ⟨s, hs', e2⟩ := h j hj hs
          rcases List.mem_cons.1 hs' with rfl | hs'
          · exact absurd e2.symm hne
          · exact ⟨s, hs', e2⟩
theorem map_one_sum : ∀ (l : List Int), (l.map one).sum = (l.length : Int)
  | [] => rfl
  | x :: l => by rw [List.map_cons, List.sum_cons, map_one_sum l, List.length_cons]; simp only [one]; omega
theorem goneF_sup {a t : List S44} {x : Int} (h : (goneF a t x).isSome = true) : ∃ r ∈ a, r.f1 = x ∧ r.f2.f0 = 1 := by
  unfold goneF at h
  split at h
  · cases h
  · exact con_has.1 h
theorem gone_sum {a t : List S44} {na : Int} (ha : Inv a na) (φ : Int → Int) : ((goneGo a (goneF a t)).map φ).sum = tot φ (goneF a t) na.toNat :=
  gone_tot a _ (fun r hr => by have := ha.ids r hr; omega) (fun j _ hs => by obtain ⟨r, hr, e, _⟩ := goneF_sup hs; exact ⟨r, hr, e⟩)
theorem gone_len {a t : List S44} {na : Int} (ha : Inv a na) : ((goneGo a (goneF a t)).length : Int) = tot one (goneF a t) na.toNat := by
  rw [← gone_sum ha, map_one_sum]
theorem gone_nil {a t : List S44} {na : Int} (ha : Inv a na) (h : ∀ r ∈ a, r.f2.f0 = 1 → ∃ s ∈ t, s.f1 = r.f1 ∧ s.f2.f0 = 1) : goneGo a (goneF a t) = [] := by
  have := gone_len (t := t) ha
  rw [tot_none (fun j _ => by
    cases e : goneF a t j with
    | none => rfl
    | some z =>
      obtain ⟨r, hr, e1, hk⟩ := goneF_sup (a := a) (t := t) (x := j) (by rw [e]; rfl)
      obtain ⟨s, hs, e2, hk2⟩ := h r hr hk
      unfold goneF at e
      rw [if_pos (con_has.2 ⟨s, hs, e2.trans e1, hk2⟩)] at e
      cases e)] at this
  exact List.eq_nil_of_length_eq_zero (by omega)
theorem gone_self {a : List S44} {na : Int} (ha : Inv a na) : goneGo a (goneF a a) = [] := gone_nil ha (fun r hr hk => ⟨r, hr, rfl, hk⟩)
theorem files_is {l : List S44} {n : Int} (h : Inv l n) : ((con l).2 : Int) = tot one (con l).1 n.toNat := con_cnt (fun r hr => by have := h.ids r hr; omega)
end Go.Proofs.YtolpamojbiipaaaDoor.Pure
