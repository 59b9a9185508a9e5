/- What usage tells when a file has another content, one more name, or when there is one thing more. -/
import Derived.Test.YtolpamojbiipaaaDoorUUse
import Derived.Test.YtolpamojbiipaaaDoorELink
namespace Go.Proofs.YtolpamojbiipaaaDoor.Pure
open Go.RowKit Go.Proofs.YtolpamojbiipaaaDoor.XA Go.Proofs.YtolpamojbiipaaaDoorW.PrintWords Go.Proofs.YtolpamojbiipaaaDoorW.PrintLast Go.Proofs.YtolpamojbiipaaaDoorW.PrintMore
set_option linter.unusedSimpArgs false
set_option linter.unusedVariables false

/-- Another content of a file, by all its names. -/
def setR (id sz : Int) (r : S44) : S44 := if r.f1 = id ∧ r.f2.f0 = 1 then ⟨r.f0, r.f1, ⟨r.f2.f0, r.f2.f1, r.f2.f2, r.f2.f3, r.f2.f4, r.f2.f5, r.f2.f6, r.f2.f7, ⟨(), sz⟩, r.f2.f9⟩⟩ else r
def setL (id sz : Int) (l : List S44) : List S44 := l.map (setR id sz)
section
variable {l : List S44} {n id sz : Int}
theorem setR_f0 (r : S44) : (setR id sz r).f0 = r.f0 := by unfold setR; split <;> rfl
theorem setR_f1 (r : S44) : (setR id sz r).f1 = r.f1 := by unfold setR; split <;> rfl
theorem setR_kind (r : S44) : (setR id sz r).f2.f0 = r.f2.f0 := by unfold setR; split <;> rfl
theorem setR_made (r : S44) : (setR id sz r).f2.f9 = r.f2.f9 := by unfold setR; split <;> rfl
theorem setR_pp (r : S44) : pp (setR id sz r) = pp r := by unfold pp; rw [setR_f0]
theorem setR_f2 {r s : S44} (h1 : r.f1 = s.f1) (h2 : r.f2 = s.f2) : (setR id sz r).f2 = (setR id sz s).f2 := by
  unfold setR
  rw [h1, h2]
  split
  · rfl
  · exact h2
theorem setR_not {r : S44} (h : ¬ (r.f1 = id ∧ r.f2.f0 = 1)) : setR id sz r = r := if_neg h
theorem look_set : ∀ (l : List S44) (q : Pth), lookR (setL id sz l) q = (lookR l q).map (setR id sz)
  | [], q => rfl
  | r :: t, q => by
    have ih := look_set t q
    unfold setL at ih ⊢
    rw [List.map_cons, lookR, lookR, setR_pp, ih]
    split <;> rfl
theorem byId_set : ∀ (l : List S44) (j : Int), byId (setL id sz l) j = (byId l j).map (setR id sz)
  | [], j => rfl
  | r :: t, j => by
    have ih := byId_set t j
    unfold setL at ih ⊢
    rw [List.map_cons, byId, byId, setR_f1, ih]
    split <;> rfl
theorem dp_set : ∀ (l : List S44) (d : Int), dp (setL id sz l) d = dp l d
  | [], d => rfl
  | r :: t, d => by
    have ih := dp_set t
    unfold setL at ih ⊢
    rw [List.map_cons, dp, dp, setR_pp, ih]
theorem lg_set : ∀ (l : List S44) (d : Int), lg (setL id sz l) d = lg l d
  | [], d => rfl
  | r :: t, d => by
    have ih := lg_set t
    unfold setL at ih ⊢
    rw [List.map_cons, lg, lg, setR_f0, ih]
theorem set_inv (h : Inv l n) (h0 : 0 ≤ sz) (h1 : sz ≤ 1048576) : Inv (setL id sz l) n := by
  have all : ∀ (Q : S44 → Prop), (∀ r ∈ l, Q (setR id sz r)) → ∀ x ∈ setL id sz l, Q x := fun Q hq x hx => by
    obtain ⟨r, hr, rfl⟩ := List.mem_map.1 hx
    exact hq r hr
  refine ⟨?_, all _ (fun r hr => ?_), all _ (fun r hr q hq => ?_), all _ (fun r hr => ?_), all _ (fun r hr => all _ (fun s hs e => ?_)), all _ (fun r hr => ?_), all _ (fun r hr hm => ?_), all _ (fun r hr => ?_), h.next⟩
  · have := h.sorted
    unfold Sorted setL at *
    rw [List.pairwise_map]
    exact this.imp (fun hab => by rw [setR_pp, setR_pp]; exact hab)
  · rw [setR_pp, setR_f0]; exact h.clean r hr
  · rw [setR_pp] at hq
    obtain ⟨d, hd, h4⟩ := h.closed r hr q hq
    exact ⟨setR id sz d, by rw [look_set, hd]; rfl, by rw [setR_kind]; exact h4⟩
  · rw [setR_f1]; exact h.ids r hr
  · rw [setR_f1, setR_f1] at e
    have := h.same r hr s hs e
    refine ⟨setR_f2 e this.1, fun hne => ?_⟩
    rw [setR_kind] at hne
    rw [this.2 hne]
  · rw [setR_kind]; exact h.kind r hr
  · rw [setR_made] at hm; rw [setR_kind]; exact h.made r hr hm
  · unfold setR
    split
    · exact ⟨h0, h1⟩
    · exact h.size r hr
theorem set_use (h : Inv l n) (hl : l.length ≤ 1000000) (h0 : 0 ≤ sz) (h1 : sz ≤ 1048576) {r : S44} (hr : r ∈ l) (hk : r.f2.f0 = 1) :
    ofL (setL r.f1 sz l) = ((ofL l).1 + (sz - r.f2.f8.f1), (ofL l).2.1, (ofL l).2.2.1, (ofL l).2.2.2) := by
  rw [ofL_is h hl, ofL_is (set_inv h h0 h1) (by unfold setL; rw [List.length_map]; exact hl), dp_set, lg_set]
  have hid := h.ids r hr
  have hp := sum_point (f := fun j => wt (setL r.f1 sz l) j) (g := fun j => wt l j) (a := r.f1.toNat) n.toNat (by omega) (fun i hi hne => by
    unfold wt
    rw [byId_set]
    cases e : byId l (i : Int) with
    | none => rfl
    | some x =>
      have hx := byId_some e
      simp only [Option.map_some]
      rw [setR_not (fun hh => by have := hx.2; omega)])
  have e1 : ((r.f1.toNat : Nat) : Int) = r.f1 := Int.toNat_of_nonneg hid.1
  simp only [e1] at hp
  have e2 : wt (setL r.f1 sz l) r.f1 = sz := by
    unfold wt
    rw [byId_set]
    cases e : byId l r.f1 with
    | none => exact absurd rfl (byId_none.1 e r hr)
    | some x =>
      have hx := byId_some e
      have hs := (h.same x hx.1 r hr hx.2).1
      have hk2 : x.f2.f0 = 1 := by rw [hs]; exact hk
      show rowB (setR r.f1 sz x) = sz
      unfold rowB
      rw [if_pos (by rw [setR_kind]; exact hk2)]
      unfold setR
      rw [if_pos ⟨hx.2, hk2⟩]
  have e3 : wt l r.f1 = r.f2.f8.f1 := by rw [h.wt_of hr]; unfold rowB; rw [if_pos hk]
  rw [e2, e3] at hp
  have e4 : sumN (fun j => hs (setL r.f1 sz l) j) n.toNat = sumN (fun j => hs l j) n.toNat := sum_eq _ (fun i _ => by
    unfold hs
    rw [byId_set]
    cases byId l (i : Int) <;> rfl)
  rw [hp, e4]
end
section
variable {l : List S44} {n : Int}
theorem wt_cases {w : List S44} {m : Int} (h : Inv w m) (j : Int) : (∃ x ∈ w, x.f1 = j ∧ wt w j = rowB x ∧ hs w j = 1) ∨ (wt w j = 0 ∧ hs w j = 0) := by
  by_cases e : ∃ x ∈ w, x.f1 = j
  · obtain ⟨x, hx, rfl⟩ := e
    exact .inl ⟨x, hx, rfl, h.wt_of hx, hs_of hx⟩
  · have := hs_no (l := w) (i := j) (fun r hr h => e ⟨r, hr, h⟩)
    exact .inr ⟨this.2, this.1⟩
/-- One more name of a file. -/
theorem link_use (h : Inv l n) (hl : l.length ≤ 900000) {ps : Pth} (hc : ps = [] ∨ Cl ps) {r : S44} (hr : r ∈ l) (hk : r.f2.f0 = 1) (h0 : (linkP l n ps (pp r)).2.2 = 0) :
    (ofL (linkP l n ps (pp r)).1).1 ≤ (ofL l).1 ∧ (ofL (linkP l n ps (pp r)).1).2.1 ≤ (ofL l).2.1 + ((linkP l n ps (pp r)).1.length - l.length) ∧ l.length ≤ (linkP l n ps (pp r)).1.length ∧
    (lookR l ps = none → (linkP l n ps (pp r)).1.length = l.length + 1 → (ofL (linkP l n ps (pp r)).1).1 = (ofL l).1 ∧ (ofL (linkP l n ps (pp r)).1).2.1 = (ofL l).2.1) := by
  have hok := linkP_ok h (ps := ps) (qs := pp r) hc
  have hlk := look_of h.sorted hr
  unfold linkP at h0 hok ⊢
  rcases hc with rfl | hc
  · rw [if_pos rfl] at h0; simp at h0
  rw [if_neg hc.ne, hlk] at h0 hok ⊢
  simp only at h0 hok ⊢
  rw [if_pos hk] at h0 hok ⊢
  by_cases hd : dirAt l ps
  · rw [if_pos hd] at h0; simp at h0
  rw [if_neg hd] at h0 hok ⊢
  have ok := parP_ok h ps.length ps (Nat.le_refl _) (pref_cl hc)
  generalize parP l n ps.length ps = q at ok h0 hok ⊢
  by_cases e0 : q.2.2 = 0
  case neg => rw [if_neg e0] at h0; exact absurd h0 e0
  rw [if_pos e0] at hok ⊢
  simp only at hok ⊢
  obtain ⟨hI, hn1, hn2, hlen⟩ := hok
  have epp := pp_row hc r.f1 r.f2
  have hmem := fun x => mem_ins_iff (x := x) (r := rowOf ps r.f1 r.f2) ok.inv.sorted
  have hli := len_ins ok.inv.sorted (r := rowOf ps r.f1 r.f2)
  rw [epp] at hmem hli
  have hql := ok.len
  have hid := h.ids r hr
  have hn := h.next
  have hnew : ∀ x ∈ insR q.1 (rowOf ps r.f1 r.f2), (x.f1 = r.f1 ∧ x.f2 = r.f2) ∨ x ∈ l ∨ (n ≤ x.f1 ∧ rowB x = 0) := fun x hx => by
    rcases (hmem x).1 hx with rfl | ⟨hx, _⟩
    · exact .inl ⟨rfl, rfl⟩
    · rcases ok.new _ x (look_of ok.inv.sorted hx) with h1 | ⟨_, _, i, hx', h2, _⟩
      · exact .inr (.inl (look_mem h1).1)
      · exact .inr (.inr ⟨by rw [hx']; exact h2, by rw [hx']; rfl⟩)
  generalize hw : insR q.1 (rowOf ps r.f1 r.f2) = w at hI hlen hli hnew hmem ⊢
  have hqn : l.length ≤ w.length := by split at hli <;> omega
  rw [ofL_is h (by omega), ofL_is hI (by omega)]
  simp only
  have low : ∀ j : Nat, j < n.toNat → wt w j ≤ wt l j ∧ hs w j ≤ hs l j := fun j hj => by
    rcases wt_cases hI (j : Int) with ⟨x, hx, e, e1, e2⟩ | ⟨e1, e2⟩
    · rw [e1, e2]
      rcases hnew x hx with ⟨h1, h2⟩ | h1 | ⟨h1, h2⟩
      · have : rowB x = rowB r := by unfold rowB; rw [h2]
        rw [this, ← e, h1, h.wt_of hr, hs_of hr]
        exact ⟨Int.le_refl _, Int.le_refl _⟩
      · rw [← e, h.wt_of h1, hs_of h1]
        exact ⟨Int.le_refl _, Int.le_refl _⟩
      · omega
    · rw [e1, e2]
      exact ⟨h.wt_nonneg _, (hs_le l _).1⟩
  have high : ∀ j : Nat, n.toNat ≤ j → j < q.2.1.toNat → wt w j = 0 := fun j h1 h2 => by
    rcases wt_cases hI (j : Int) with ⟨x, hx, e, e1, _⟩ | ⟨e1, _⟩
    · rw [e1]
      rcases hnew x hx with ⟨h3, _⟩ | h3 | ⟨_, h3⟩
      · omega
      · have := h.ids x h3; omega
      · exact h3
    · exact e1
  have s1 := sum_more (f := fun j => wt w j) (n := n.toNat) q.2.1.toNat (by omega) high
  have s2 := sum_le (f := fun j => wt w j) (g := fun j => wt l j) n.toNat (fun i hi => (low i hi).1)
  have s3 := sum_le (f := fun j => hs w j) (g := fun j => hs l j) n.toNat (fun i hi => (low i hi).2)
  have s4 := sum_cap (f := fun j => hs w j) (n := n.toNat) q.2.1.toNat (by omega) (fun i _ _ => (hs_le w i).2)
  refine ⟨by omega, ?_, hqn, fun hno hone => ?_⟩
  · split at hli <;> omega
  · have hq0 : lookR q.1 ps = none := by
      cases hh : lookR q.1 ps with
      | none => rfl
      | some d =>
        rcases ok.new _ d hh with h1 | ⟨_, h2, _⟩
        · rw [hno] at h1; cases h1
        · exact absurd rfl (pref_ne h2)
    rw [hq0] at hli
    simp only [Option.isSome_none, Bool.false_eq_true, if_false] at hli
    have hnn : q.2.1 = n := by omega
    have low2 : ∀ j : Nat, j < n.toNat → wt l j ≤ wt w j ∧ hs l j ≤ hs w j := fun j hj => by
      rcases wt_cases h (j : Int) with ⟨x, hx, e, e1, e2⟩ | ⟨e1, e2⟩
      · have hx1 : x ∈ q.1 := (look_mem (ok.old _ _ (look_of h.sorted hx))).1
        have hxw : x ∈ w := (hmem x).2 (.inr ⟨hx1, fun e => by have := look_of h.sorted hx; rw [e, hno] at this; cases this⟩)
        rw [e1, e2, ← e, hI.wt_of hxw, hs_of hxw]
        exact ⟨Int.le_refl _, Int.le_refl _⟩
      · rw [e1, e2]
        exact ⟨hI.wt_nonneg _, (hs_le w _).1⟩
    have t1 := sum_le (f := fun j => wt l j) (g := fun j => wt w j) n.toNat (fun i hi => (low2 i hi).1)
    have t2 := sum_le (f := fun j => hs l j) (g := fun j => hs w j) n.toNat (fun i hi => (low2 i hi).2)
    rw [hnn] at s1 ⊢
    constructor <;> omega
/-! One thing more. -/
theorem sum_one {f : Nat → Int} {n a : Nat} {c : Int} (hc : 0 ≤ c) : ∀ m, n ≤ m → (∀ i, n ≤ i → i < m → i ≠ a → f i = 0) → f a ≤ c → sumN f m ≤ sumN f n + (if a < m then c else 0)
  | 0, h, _, _ => by have : n = 0 := by omega
                     subst this; split <;> omega
  | m + 1, h, hz, ha => by
    by_cases e : n = m + 1
    · subst e; split <;> omega
    · have ih := sum_one hc m (by omega) (fun i h1 h2 h3 => hz i h1 (by omega) h3) ha
      simp only [sumN]
      by_cases e2 : m = a
      · subst e2
        rw [if_neg (by omega)] at ih
        rw [if_pos (by omega)]; omega
      · have := hz m (by omega) (by omega) e2
        by_cases e3 : a < m
        · rw [if_pos e3] at ih; rw [if_pos (by omega)]; omega
        · rw [if_neg e3] at ih; rw [if_neg (by omega)]; omega
theorem dp_mono {w : List S44} (hs : ∀ r ∈ l, r ∈ w) : dp l 0 ≤ dp w 0 ∧ lg l 0 ≤ lg w 0 := by
  have h1 := dp_le.1 (Int.le_refl (dp w 0))
  have h2 := lg_le.1 (Int.le_refl (lg w 0))
  exact ⟨dp_le.2 ⟨h1.1, fun r hr => h1.2 r (hs r hr)⟩, lg_le.2 ⟨h2.1, fun r hr => h2.2 r (hs r hr)⟩⟩
theorem add_grow (h : Inv l n) (hl : l.length ≤ 900000) {ps : Pth} (hc : ps = [] ∨ Cl ps) {nd : S42} (hnd : Nd nd) (hno : lookR l ps = none) :
    (ofL l).1 ≤ (ofL (addP l n ps nd).1).1 ∧ (ofL l).2.1 ≤ (ofL (addP l n ps nd).1).2.1 ∧ (ofL l).2.2.1 ≤ (ofL (addP l n ps nd).1).2.2.1 ∧ (ofL l).2.2.2 ≤ (ofL (addP l n ps nd).1).2.2.2 ∧ (ofL (addP l n ps nd).1).1 - (ofL l).1 ≤ 1048576 := by
  have ok := addP_ok h hc hnd
  generalize addP l n ps nd = r at ok ⊢
  by_cases e0 : r.2.2 = 0
  case neg =>
    rcases ok.err with e | ⟨e, _⟩
    · exact absurd e e0
    · rw [e]; omega
  obtain ⟨i, h1, h2, h3⟩ := ok.look_ e0
  have hin : n ≤ i ∧ i < r.2.1 := by
    rcases h2 with h2 | ⟨_, o, ho, _⟩
    · exact h2
    · rw [hno] at ho; cases ho
  have hn := h.next
  have hlen := ok.len
  have hold : ∀ x ∈ l, x ∈ r.1 := fun x hx => by
    have hx1 := look_of h.sorted hx
    exact (look_mem ((h3 (pp x) x (fun e => by rw [e, hno] at hx1; cases hx1)).2 (.inl hx1))).1
  have hnew : ∀ x ∈ r.1, x ∈ l ∨ (x.f1 = i ∧ rowB x ≤ 1048576) ∨ (n ≤ x.f1 ∧ rowB x = 0) := fun x hx => by
    have hx1 := look_of ok.inv.sorted hx
    by_cases e : pp x = ps
    · rw [e, h1] at hx1
      cases hx1
      refine .inr (.inl ⟨rfl, ?_⟩)
      have := hnd.size
      unfold rowB rowOf
      simp only
      split <;> omega
    · rcases (h3 _ x e).1 hx1 with h4 | ⟨_, _, _, j, hx', h5, _⟩
      · exact .inl (look_mem h4).1
      · exact .inr (.inr ⟨by rw [hx']; exact h5, by rw [hx']; rfl⟩)
  rw [ofL_is h (by omega), ofL_is ok.inv (by omega)]
  simp only
  have hd := dp_mono hold
  have low : ∀ j : Nat, j < n.toNat → wt l j = wt r.1 j ∧ hs l j = hs r.1 j := fun j hj => by
    rcases wt_cases h (j : Int) with ⟨x, hx, e, e1, e2⟩ | ⟨e1, e2⟩
    · rw [e1, e2, ← e, ok.inv.wt_of (hold x hx), hs_of (hold x hx)]
      exact ⟨rfl, rfl⟩
    · rcases wt_cases ok.inv (j : Int) with ⟨x, hx, e, e3, e4⟩ | ⟨e3, e4⟩
      · rcases hnew x hx with h4 | ⟨h4, _⟩ | ⟨h4, _⟩
        · have := hs_of h4; rw [e, e2] at this; omega
        · omega
        · omega
      · rw [e1, e2, e3, e4]; exact ⟨rfl, rfl⟩
  have s1 := sum_eq (f := fun j => wt l j) (g := fun j => wt r.1 j) n.toNat (fun j hj => (low j hj).1)
  have s2 := sum_eq (f := fun j => hs l j) (g := fun j => hs r.1 j) n.toNat (fun j hj => (low j hj).2)
  have s3 := sum_grow (f := fun j => wt r.1 j) (n := n.toNat) r.2.1.toNat (by omega) (fun j _ _ => ok.inv.wt_nonneg _)
  have s4 := sum_grow (f := fun j => hs r.1 j) (n := n.toNat) r.2.1.toNat (by omega) (fun j _ _ => (hs_le _ _).1)
  have s5 := sum_one (f := fun j => wt r.1 j) (n := n.toNat) (a := i.toNat) (c := 1048576) (by omega) r.2.1.toNat (by omega) (fun j hj1 hj2 hne => by
    rcases wt_cases ok.inv (j : Int) with ⟨x, hx, e, e3, _⟩ | ⟨e3, _⟩
    · rw [e3]
      rcases hnew x hx with h4 | ⟨h4, _⟩ | ⟨_, h4⟩
      · have := h.ids x h4; omega
      · omega
      · exact h4
    · exact e3) (by
    rcases wt_cases ok.inv (i.toNat : Int) with ⟨x, hx, e, e3, _⟩ | ⟨e3, _⟩
    · rw [e3]
      rcases hnew x hx with h4 | ⟨_, h4⟩ | ⟨_, h4⟩
      · have := h.ids x h4; omega
      · exact h4
      · omega
    · rw [e3]; omega)
  rw [if_pos (by omega)] at s5
  refine ⟨by omega, by omega, hd.1, hd.2, by omega⟩
theorem use_bnd {l : List S44} {n : Int} (h : Inv l n) (hl : l.length ≤ 9060) (hn : n ≤ 9060) : 0 ≤ (ofL l).1 ∧ (ofL l).1 ≤ 9500098560 ∧ 0 ≤ (ofL l).2.1 ∧ (ofL l).2.1 ≤ 9060 := by
  have hn0 := h.next
  rw [ofL_is h (by omega)]
  simp only
  have hw : ∀ i, 0 ≤ wt l i ∧ wt l i ≤ 1048576 := fun i => by
    refine ⟨h.wt_nonneg i, ?_⟩
    unfold wt
    cases e : byId l i with
    | none => simp
    | some r =>
      have := h.size r (byId_some e).1
      simp only [rowB]; split <;> omega
  have h1 := sum_nonneg (f := fun j => wt l j) n.toNat (fun i _ => (hw i).1)
  have h2 : ∀ n : Nat, sumN (fun j => wt l j) n ≤ n * 1048576 := by
    intro n
    induction n with
    | zero => simp [sumN]
    | succ n ih => have := (hw n).2; simp only [sumN]; omega
  have h3 := sum_nonneg (f := fun j => hs l j) n.toNat (fun i _ => (hs_le l i).1)
  have h4 := sum_cap (f := fun j => hs l j) (n := 0) n.toNat (Nat.zero_le _) (fun i _ _ => (hs_le l i).2)
  have h5 := h2 n.toNat
  have h6 : sumN (fun j => hs l j) 0 = 0 := rfl
  refine ⟨h1, by omega, h3, by omega⟩
end
end Go.Proofs.YtolpamojbiipaaaDoor.Pure
