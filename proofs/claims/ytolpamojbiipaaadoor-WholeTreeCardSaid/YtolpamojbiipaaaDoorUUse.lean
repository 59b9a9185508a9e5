/- What usage.Of measures, by the things' numbers: whatever the rows' order. -/
import Derived.Test.YtolpamojbiipaaaDoorEMemOf
import Derived.Test.YtolpamojbiipaaaDoorUNums
namespace Go.Proofs.YtolpamojbiipaaaDoor.Pure
open Go.RowKit Go.Proofs.YtolpamojbiipaaaDoor.XA Go.Proofs.YtolpamojbiipaaaDoorW.PrintWords Go.Proofs.YtolpamojbiipaaaDoorW.PrintLast Go.Proofs.YtolpamojbiipaaaDoorW.PrintMore
set_option linter.unusedSimpArgs false
set_option linter.unusedVariables false

/-- The bytes that a row counts; the first row of a number. -/
def rowB (r : S44) : Int := if r.f2.f0 = 1 then r.f2.f8.f1 else 0
def byId : List S44 → Int → Option S44
  | [], _ => none
  | r :: t, i => if r.f1 = i then some r else byId t i
def wt (l : List S44) (i : Int) : Int := match byId l i with | some r => rowB r | none => 0
def hs (l : List S44) (i : Int) : Int := match byId l i with | some _ => 1 | none => 0
theorem byId_some : ∀ {l : List S44} {i : Int} {r : S44}, byId l i = some r → r ∈ l ∧ r.f1 = i
  | x :: t, i, r, h => by
    rw [byId] at h
    by_cases e : x.f1 = i
    · rw [if_pos e] at h; cases h; exact ⟨List.mem_cons_self, e⟩
    · rw [if_neg e] at h; have := byId_some h; exact ⟨List.mem_cons_of_mem _ this.1, this.2⟩
theorem byId_none : ∀ {l : List S44} {i : Int}, byId l i = none ↔ ∀ r ∈ l, r.f1 ≠ i
  | [], i => by simp [byId]
  | x :: t, i => by
    rw [byId]
    by_cases e : x.f1 = i
    · simp [if_pos e, e]
    · rw [if_neg e, byId_none]; simp [e]
def bs : List S44 → List Int → Int
  | [], _ => 0
  | r :: t, S => (if r.f1 ∈ S then 0 else rowB r) + bs t (r.f1 :: S)
def cn : List S44 → List Int → Int
  | [], _ => 0
  | r :: t, S => (if r.f1 ∈ S then 0 else 1) + cn t (r.f1 :: S)
def dp : List S44 → Int → Int
  | [], d => d
  | r :: t, d => dp t (maxI d ((pp r).length : Int))
def lg : List S44 → Int → Int
  | [], d => d
  | r :: t, d => lg t (maxI d (r.f0.size : Int))
theorem maxI_le {a b x : Int} : maxI a b ≤ x ↔ a ≤ x ∧ b ≤ x := by unfold maxI; split <;> omega
theorem dp_le {x : Int} : ∀ {l : List S44} {d : Int}, dp l d ≤ x ↔ d ≤ x ∧ ∀ r ∈ l, ((pp r).length : Int) ≤ x
  | [], d => by simp [dp]
  | r :: t, d => by rw [dp, dp_le, maxI_le]; simp [and_assoc]
theorem lg_le {x : Int} : ∀ {l : List S44} {d : Int}, lg l d ≤ x ↔ d ≤ x ∧ ∀ r ∈ l, (r.f0.size : Int) ≤ x
  | [], d => by simp [lg]
  | r :: t, d => by rw [lg, lg_le, maxI_le]; simp [and_assoc]
theorem ofGo_eq : ∀ (l : List S44) (S : List Int) (b i d m : Int), 0 ≤ b → 0 ≤ i → b + l.length * 1048576 ≤ 1152921504606846976 → i + l.length ≤ 1152921504606846976 → (∀ r ∈ l, 0 ≤ r.f2.f8.f1 ∧ r.f2.f8.f1 ≤ 1048576) →
    ofGo l S b i d m = (b + bs l S, i + cn l S, dp l d, lg l m)
  | [], S, b, i, d, m, _, _, _, _, _ => by simp [ofGo, bs, cn, dp, lg]
  | r :: t, S, b, i, d, m, h1, h2, h3, h4, h5 => by
    have hr := h5 r List.mem_cons_self
    have ht := fun x hx => h5 x (List.mem_cons_of_mem _ hx)
    rw [List.length_cons] at h3 h4
    have hw1 : wrap64 (i + 1) = i + 1 := w64 (by omega) (by omega)
    have hw2 : wrap64 (b + r.f2.f8.f1) = b + r.f2.f8.f1 := w64 (by omega) (by omega)
    rw [ofGo, bs, cn, dp, lg]
    show (if r.f1 ∈ S then ofGo t (r.f1 :: S) b i (maxI d ((pp r).length : Int)) (maxI m (r.f0.size : Int)) else _) = _
    by_cases e : r.f1 ∈ S
    · rw [if_pos e, if_pos e, if_pos e, ofGo_eq t _ _ _ _ _ h1 h2 (by omega) (by omega) ht]
      simp
    · rw [if_neg e, if_neg e, if_neg e]
      unfold rowB
      by_cases k : r.f2.f0 = 1
      · rw [if_pos k, if_pos k, hw1, hw2, ofGo_eq t _ _ _ _ _ (by omega) (by omega) (by omega) (by omega) ht]
        simp only [Prod.mk.injEq]
        refine ⟨by omega, by omega, ?_⟩; simp [pp]
      · rw [if_neg k, if_neg k, hw1, ofGo_eq t _ _ _ _ _ h1 (by omega) (by omega) (by omega) ht]
        simp only [Prod.mk.injEq]
        refine ⟨by omega, by omega, ?_⟩; simp [pp]
theorem bs_sum {n : Nat} : ∀ (l : List S44) (S : List Int), (∀ r ∈ l, 0 ≤ r.f1 ∧ r.f1 < n) → bs l S = sumN (fun j => if (j : Int) ∈ S then 0 else wt l j) n
  | [], S, _ => by
    rw [bs]
    refine (sum_zero n).symm.trans (sum_eq n (fun i _ => ?_))
    simp [wt, byId]
  | r :: t, S, h => by
    have hr := h r List.mem_cons_self
    rw [bs, bs_sum t (r.f1 :: S) (fun x hx => h x (List.mem_cons_of_mem _ hx))]
    obtain ⟨a, ha⟩ : ∃ a : Nat, r.f1 = (a : Int) := ⟨r.f1.toNat, by omega⟩
    have hp := sum_point (f := fun j => if (j : Int) ∈ S then 0 else wt (r :: t) j) (g := fun j => if (j : Int) ∈ r.f1 :: S then 0 else wt t j) (a := a) n (by omega) (fun i hi hne => by
      have : ¬ r.f1 = (i : Int) := by omega
      have e : (i : Int) ∈ r.f1 :: S ↔ (i : Int) ∈ S := by simp only [List.mem_cons]; exact ⟨fun h => h.resolve_left (fun e => this e.symm), .inr⟩
      simp only [e]
      unfold wt
      rw [byId, if_neg this])
    rw [hp]
    have e1 : (if (a : Int) ∈ r.f1 :: S then (0 : Int) else wt t a) = 0 := if_pos (by rw [ha]; exact List.mem_cons_self)
    simp only [e1]
    have e2 : wt (r :: t) (a : Int) = rowB r := by unfold wt; rw [byId, if_pos ha]
    rw [e2, ← ha]
    omega
theorem cn_sum {n : Nat} : ∀ (l : List S44) (S : List Int), (∀ r ∈ l, 0 ≤ r.f1 ∧ r.f1 < n) → cn l S = sumN (fun j => if (j : Int) ∈ S then 0 else hs l j) n
  | [], S, _ => by
    rw [cn]
    refine (sum_zero n).symm.trans (sum_eq n (fun i _ => ?_))
    simp [hs, byId]
  | r :: t, S, h => by
    have hr := h r List.mem_cons_self
    rw [cn, cn_sum t (r.f1 :: S) (fun x hx => h x (List.mem_cons_of_mem _ hx))]
    obtain ⟨a, ha⟩ : ∃ a : Nat, r.f1 = (a : Int) := ⟨r.f1.toNat, by omega⟩
    have hp := sum_point (f := fun j => if (j : Int) ∈ S then 0 else hs (r :: t) j) (g := fun j => if (j : Int) ∈ r.f1 :: S then 0 else hs t j) (a := a) n (by omega) (fun i hi hne => by
      have : ¬ r.f1 = (i : Int) := by omega
      have e : (i : Int) ∈ r.f1 :: S ↔ (i : Int) ∈ S := by simp only [List.mem_cons]; exact ⟨fun h => h.resolve_left (fun e => this e.symm), .inr⟩
      simp only [e]
      unfold hs
      rw [byId, if_neg this])
    rw [hp]
    have e1 : (if (a : Int) ∈ r.f1 :: S then (0 : Int) else hs t a) = 0 := if_pos (by rw [ha]; exact List.mem_cons_self)
    simp only [e1]
    have e2 : hs (r :: t) (a : Int) = 1 := by unfold hs; rw [byId, if_pos ha]
    rw [e2, ← ha]
    omega
/-- What a tree's usage is. -/
theorem ofL_is {l : List S44} {n : Int} (h : Inv l n) (hl : l.length ≤ 1000000) : ofL l = (sumN (fun j => wt l j) n.toNat, sumN (fun j => hs l j) n.toNat, dp l 0, lg l 0) := by
  have hid : ∀ r ∈ l, 0 ≤ r.f1 ∧ r.f1 < (n.toNat : Int) := fun r hr => by have := h.ids r hr; omega
  unfold ofL
  rw [ofGo_eq l [] 0 0 0 0 (by omega) (by omega) (by omega) (by omega) h.size, bs_sum l [] hid, cn_sum l [] hid]
  simp
theorem Inv.wt_of {l : List S44} {n : Int} (h : Inv l n) {r : S44} (hr : r ∈ l) : wt l r.f1 = rowB r := by
  unfold wt
  cases e : byId l r.f1 with
  | none => exact absurd rfl (byId_none.1 e r hr)
  | some x =>
    have := byId_some e
    simp only [rowB, (h.same x this.1 r hr this.2).1]
theorem hs_of {l : List S44} {r : S44} (hr : r ∈ l) : hs l r.f1 = 1 := by
  unfold hs
  cases e : byId l r.f1 with
  | none => exact absurd rfl (byId_none.1 e r hr)
  | some x => rfl
theorem hs_no {l : List S44} {i : Int} (h : ∀ r ∈ l, r.f1 ≠ i) : hs l i = 0 ∧ wt l i = 0 := by
  unfold hs wt
  rw [byId_none.2 h]
  exact ⟨rfl, rfl⟩
theorem hs_le (l : List S44) (i : Int) : 0 ≤ hs l i ∧ hs l i ≤ 1 := by unfold hs; split <;> omega
theorem Inv.wt_nonneg {l : List S44} {n : Int} (h : Inv l n) (i : Int) : 0 ≤ wt l i := by
  unfold wt
  cases e : byId l i with
  | none => exact Int.le_refl _
  | some x =>
    have := h.size x (byId_some e).1
    simp only [rowB]; split <;> omega
end Go.Proofs.YtolpamojbiipaaaDoor.Pure
