/- A tree laid over another one once more: what is the same then. -/
import Derived.Test.YtolpamojbiipaaaDoorUMerge
import Derived.Test.YtolpamojbiipaaaDoorUCon
import Derived.Test.YtolpamojbiipaaaDoorUUse
namespace Go.Proofs.YtolpamojbiipaaaDoor.Pure
open Go.RowKit Go.Proofs.YtolpamojbiipaaaDoor.XA Go.Proofs.YtolpamojbiipaaaDoorW.PrintWords Go.Proofs.YtolpamojbiipaaaDoorW.PrintLast Go.Proofs.YtolpamojbiipaaaDoorW.PrintMore
set_option linter.unusedSimpArgs false
set_option linter.unusedVariables false

theorem tot_split' (φ : Int → Int) (f : Int → Option Int) (n m : Nat) : tot φ f (n + m) = tot φ f n + tot φ (fun x => f (x + n)) m := by
  unfold tot
  rw [sum_split]
  congr 1
  refine sum_eq m (fun j _ => ?_)
  rw [show ((n + j : Nat) : Int) = (j : Int) + (n : Int) by omega]
theorem tot_one' {f g : Int → Option Int} {n : Nat} (h : ∀ j : Nat, j < n → ((f j).isSome = true ↔ (g j).isSome = true)) : tot one f n = tot one g n :=
  sum_eq n (fun j hj => by
    have := h j hj
    cases e : f j <;> cases e2 : g j <;> rw [e, e2] at this <;> simp at this ⊢)
theorem sorted_map {α : Type} (f : S44 → α) (hf : ∀ x y, f x = f y → pp x = pp y) : ∀ {l m : List S44}, Sorted l → Sorted m → (∀ p, (lookR l p).map f = (lookR m p).map f) → l.map f = m.map f
  | [], [], _, _, _ => rfl
  | [], y :: m, _, _, h => by have := h (pp y); rw [lookR, lookR, if_pos rfl] at this; cases this
  | x :: l, [], _, _, h => by have := h (pp x); rw [lookR, lookR, if_pos rfl] at this; cases this
  | x :: l, y :: m, h1, h2, h => by
    have k1 := List.pairwise_cons.1 h1
    have k2 := List.pairwise_cons.1 h2
    have hx : ∃ z, lookR (y :: m) (pp x) = some z ∧ f z = f x := by
      have := h (pp x)
      rw [look_of h1 List.mem_cons_self] at this
      cases e : lookR (y :: m) (pp x) with
      | none => rw [e] at this; cases this
      | some z => rw [e] at this; exact ⟨z, rfl, (Option.some.inj this).symm⟩
    have hy : ∃ z, lookR (x :: l) (pp y) = some z := by
      have := h (pp y)
      rw [look_of h2 List.mem_cons_self] at this
      cases e : lookR (x :: l) (pp y) with
      | none => rw [e] at this; cases this
      | some z => exact ⟨z, rfl⟩
    obtain ⟨z, hz, hfz⟩ := hx
    obtain ⟨z', hz'⟩ := hy
    have e : pp x = pp y := by
      have a := look_mem hz
      have b := look_mem hz'
      rcases List.mem_cons.1 a.1 with rfl | a1
      · exact a.2.symm
      rcases List.mem_cons.1 b.1 with rfl | b1
      · exact b.2
      have c1 := k2.1 z a1
      have c2 := k1.1 z' b1
      rw [a.2] at c1
      rw [b.2] at c2
      have := cmp_trans c1 c2
      rw [cmp_self] at this; omega
    have ez : z = y := by
      rw [e, look_of h2 List.mem_cons_self] at hz
      exact (Option.some.inj hz).symm
    subst ez
    rw [List.map_cons, List.map_cons, hfz]
    congr 1
    refine sorted_map f hf k1.2 k2.2 (fun p => ?_)
    by_cases ep : pp x = p
    · have a : lookR l p = none := look_none.2 (fun r hr e2 => by have := k1.1 r hr; rw [e2, ep, cmp_self] at this; omega)
      have b : lookR m p = none := look_none.2 (fun r hr e2 => by have := k2.1 r hr; rw [e2, ← e, ep, cmp_self] at this; omega)
      rw [a, b]
    · have := h p
      rw [lookR, lookR, if_neg ep, if_neg (fun h => ep (e.trans h))] at this
      exact this
def key (r : S44) : ByteArray × S42 := (r.f0, r.f2)
theorem dp_key : ∀ {l m : List S44} {d : Int}, l.map key = m.map key → dp l d = dp m d ∧ lg l d = lg m d
  | [], [], _, _ => ⟨rfl, rfl⟩
  | [], _ :: _, _, h => by cases h
  | _ :: _, [], _, h => by cases h
  | x :: l, y :: m, d, h => by
    rw [List.map_cons, List.map_cons, List.cons.injEq] at h
    have e : x.f0 = y.f0 := congrArg Prod.fst h.1
    have e2 : pp x = pp y := by unfold pp; rw [e]
    rw [dp, dp, lg, lg, e, e2]
    exact ⟨(dp_key h.2).1, (dp_key h.2).2⟩
def wf (ψ : S42 → Int) (l : List S44) (i : Int) : Int := match byId l i with | some r => ψ r.f2 | none => 0
theorem Inv.wf_of {ψ : S42 → Int} {l : List S44} {n : Int} (h : Inv l n) {r : S44} (hr : r ∈ l) {i : Int} (e : r.f1 = i) : wf ψ l i = ψ r.f2 := by
  subst e
  unfold wf
  cases e : byId l r.f1 with
  | none => exact absurd rfl (byId_none.1 e r hr)
  | some x =>
    have := byId_some e
    simp only [(h.same x this.1 r hr this.2).1]
theorem wf_no {ψ : S42 → Int} {l : List S44} {i : Int} (h : ∀ r ∈ l, r.f1 = i → False) : wf ψ l i = 0 := by
  unfold wf
  rw [byId_none.2 (fun r hr e => h r hr e)]
theorem wt_wf (l : List S44) (i : Int) : wt l i = wf (fun x => if x.f0 = 1 then x.f8.f1 else 0) l i := by
  unfold wt wf
  cases byId l i <;> rfl
theorem hs_wf (l : List S44) (i : Int) : hs l i = wf (fun _ => 1) l i := by
  unfold hs wf
  cases byId l i <;> rfl
section
variable {a b t u : List S44} {na nb : Int}
theorem OverOk.at (h : OverOk a b na nb t) (hb : Inv b nb) {s : S44} (hs : s ∈ b) : ∃ y, y ∈ t ∧ pp y = pp s ∧ lookR t (pp s) = some y ∧ (s.f2.f9 = false → y.f2 = s.f2 ∧ y.f0 = s.f0) ∧ (s.f2.f0 ≠ 4 → y = ⟨s.f0, s.f1 + na, s.f2⟩) ∧ (y.f2.f0 = 4 ↔ s.f2.f0 = 4) := by
  have e : lookR t (pp s) = some (mgR (lookR a (pp s)) s na) := by rw [h.look, look_of hb.sorted hs]; rfl
  have hm := look_mem e
  refine ⟨_, hm.1, hm.2, e, ?_⟩
  unfold mgR
  cases ea : lookR a (pp s) with
  | none => exact ⟨fun _ => ⟨rfl, rfl⟩, fun _ => rfl, Iff.rfl⟩
  | some o =>
    simp only
    by_cases hm : s.f2.f9 = true
    · rw [if_pos hm]
      have := hb.made s hs hm
      exact ⟨fun e => (by rw [hm] at e; cases e), fun e => absurd this e, good_of (h.good s hs) ea⟩
    · rw [if_neg hm]
      exact ⟨fun _ => ⟨rfl, rfl⟩, fun e => by rw [if_neg e], Iff.rfl⟩
theorem OverOk.fromb (h : OverOk a b na nb t) (ha : Inv a na) {x : S44} (hx : x ∈ t) (hi : na ≤ x.f1) : ∃ s, s ∈ b ∧ x = ⟨s.f0, s.f1 + na, s.f2⟩ ∧ (lookR a (pp s) = none ∨ s.f2.f0 ≠ 4) := by
  rcases h.src x hx with ⟨hxa, _⟩ | ⟨s, hs, e, hl⟩ | ⟨s, o, _, ho, _, rfl, _⟩
  · have := ha.ids x hxa; omega
  · exact ⟨s, hs, e, hl⟩
  · have := ha.ids o ho; simp only at hi; omega
theorem OverOk.low (h : OverOk a b na nb t) (hb : Inv b nb) {x : S44} (hx : x ∈ t) (hi : x.f1 < na) : (x ∈ a ∧ ∀ s ∈ b, pp s = pp x → s.f2.f9 = true) ∨ ∃ s o, s ∈ b ∧ o ∈ a ∧ pp s = pp o ∧ x = ⟨s.f0, o.f1, s.f2⟩ ∧ s.f2.f0 = 4 ∧ o.f2.f0 = 4 ∧ s.f2.f9 = false := by
  rcases h.src x hx with ⟨hxa, hm⟩ | ⟨s, hs, rfl, hl⟩ | ⟨s, o, hs, ho, e, rfl, h4, h4o, hm⟩
  · exact .inl ⟨hxa, hm⟩
  · have := hb.ids s hs; simp only at hi; omega
  · exact .inr ⟨s, o, hs, ho, e, rfl, h4, h4o, hm⟩
theorem twice_good (ha : Inv a na) (hb : Inv b nb) (h : OverOk a b na nb t) : ∃ u, overT t b (na + nb) nb = (u, na + nb + nb, 0) ∧ OverOk t b (na + nb) nb u := by
  rcases over_split h.inv hb with ⟨u, e, ok, _⟩ | ⟨_, hf⟩
  · exact ⟨u, e, ok⟩
  · obtain ⟨s, hs, o, ho, hn⟩ := clB_true.1 hf
    obtain ⟨y, _, _, hy, _, _, hk⟩ := h.at hb hs
    rw [hy] at ho
    cases ho
    refine absurd ?_ hn
    rw [Bool.eq_iff_iff, beq_iff_eq, beq_iff_eq]
    exact hk
theorem twice_key (ha : Inv a na) (hb : Inv b nb) (h : OverOk a b na nb t) (hu : OverOk t b (na + nb) nb u) : u.map key = t.map key ∧ u.length = t.length := by
  have e : u.map key = t.map key := sorted_map key (fun x y e => by have e : x.f0 = y.f0 := congrArg Prod.fst e; unfold pp; rw [e]) hu.inv.sorted h.inv.sorted (fun p => by
    rw [hu.look]
    unfold mgL
    cases eb : lookR b p with
    | none => rfl
    | some s =>
      have hs := look_mem eb
      obtain ⟨y, _, _, hy, h1, _, _⟩ := h.at hb hs.1
      rw [hs.2] at hy
      rw [hy]
      simp only [Option.map_some]
      unfold mgR
      simp only
      by_cases hm : s.f2.f9 = true
      · rw [if_pos hm]
      · rw [if_neg hm]
        have := h1 (by simpa using hm)
        unfold key
        rw [this.1, this.2])
  exact ⟨e, by have := congrArg List.length e; simpa using this⟩
theorem tw_low (ψ : S42 → Int) (ha : Inv a na) (hb : Inv b nb) (h : OverOk a b na nb t) (hu : OverOk t b (na + nb) nb u) {j : Int} (hj : j < na) : (∀ r ∈ t, r.f1 = j → ∃ x ∈ u, x.f1 = j ∧ x.f2 = r.f2) ∧ (∀ x ∈ u, x.f1 = j → ∃ r ∈ t, r.f1 = j) := by
  have hnb := hb.next
  constructor
  · intro r hr e
    cases eb : lookR b (pp r) with
    | none =>
      refine ⟨r, (look_mem (p := pp r) ?_).1, e, rfl⟩
      rw [hu.look, eb, look_of h.inv.sorted hr]; rfl
    | some s =>
      have hs := look_mem eb
      obtain ⟨y, _, _, hy, h1, h2, h3⟩ := h.at hb hs.1
      rw [hs.2, look_of h.inv.sorted hr] at hy
      cases hy
      have hx : lookR u (pp r) = some (mgR (some r) s (na + nb)) := by rw [hu.look, eb, look_of h.inv.sorted hr]; rfl
      unfold mgR at hx
      simp only at hx
      by_cases hm : s.f2.f9 = true
      · rw [if_pos hm] at hx
        exact ⟨r, (look_mem hx).1, e, rfl⟩
      · rw [if_neg hm] at hx
        by_cases h4 : s.f2.f0 = 4
        · rw [if_pos h4] at hx
          exact ⟨_, (look_mem hx).1, e, (h1 (by simpa using hm)).1.symm⟩
        · have := congrArg S44.f1 (h2 h4)
          have := hb.ids s hs.1
          simp only at *
          omega
  · intro x hx e
    rcases hu.low hb hx (by omega) with ⟨hxt, _⟩ | ⟨s, o, _, ho, _, rfl, _⟩
    · exact ⟨x, hxt, e⟩
    · exact ⟨o, ho, e⟩
/-- What becomes of the upper one's number k. -/
theorem tw_high (ha : Inv a na) (hb : Inv b nb) (h : OverOk a b na nb t) (hu : OverOk t b (na + nb) nb u) {k : Int} (hk : 0 ≤ k ∧ k < nb) :
    (∀ s ∈ b, s.f1 = k → s.f2.f0 ≠ 4 → (∃ x ∈ u, x.f1 = na + nb + k ∧ x.f2 = s.f2) ∧ (∃ r ∈ t, r.f1 = na + k ∧ r.f2 = s.f2) ∧ (∀ x ∈ u, x.f1 = na + k → False)) ∧
    (∀ r ∈ t, r.f1 = na + k → r.f2.f0 = 4 → (∃ x ∈ u, x.f1 = na + k ∧ x.f2 = r.f2) ∧ (∀ x ∈ u, x.f1 = na + nb + k → False)) ∧
    (∀ r ∈ t, r.f1 = na + k → r.f2.f0 ≠ 4 → ∃ s ∈ b, s.f1 = k ∧ s.f2 = r.f2) ∧
    ((∀ r ∈ t, r.f1 = na + k → False) → (∀ x ∈ u, x.f1 = na + k → False) ∧ (∀ x ∈ u, x.f1 = na + nb + k → False)) := by
  have hna := ha.next
  have lowu : ∀ x ∈ u, x.f1 = na + k → ∃ r ∈ t, r.f1 = na + k ∧ ((x = r ∧ ∀ s ∈ b, pp s = pp x → s.f2.f9 = true) ∨ r.f2.f0 = 4) := fun x hx e => by
    rcases hu.low hb hx (by omega) with ⟨hxt, hm⟩ | ⟨s, o, _, ho, _, rfl, _, h4, _⟩
    · exact ⟨x, hxt, e, .inl ⟨rfl, hm⟩⟩
    · exact ⟨o, ho, e, .inr h4⟩
  have highu : ∀ x ∈ u, x.f1 = na + nb + k → ∃ s ∈ b, s.f1 = k ∧ s.f2.f0 ≠ 4 := fun x hx e => by
    obtain ⟨s, hs, rfl, hl⟩ := hu.fromb h.inv hx (by omega)
    refine ⟨s, hs, by simp only at e; omega, ?_⟩
    rcases hl with hl | hl
    · obtain ⟨y, _, _, hy, _⟩ := h.at hb hs
      rw [hy] at hl; cases hl
    · exact hl
  have lowt : ∀ r ∈ t, r.f1 = na + k → ∃ s ∈ b, s.f1 = k ∧ s.f2 = r.f2 ∧ pp s = pp r := fun r hr e => by
    obtain ⟨s, hs, rfl, _⟩ := h.fromb ha hr (by omega)
    exact ⟨s, hs, by simp only at e; omega, rfl, rfl⟩
  refine ⟨fun s hs e h4 => ?_, fun r hr e h4 => ?_, fun r hr e h4 => ?_, fun hno => ⟨fun x hx e => ?_, fun x hx e => ?_⟩⟩
  · obtain ⟨y, hy, hyp, hyl, h1, h2, _⟩ := h.at hb hs
    have hey := h2 h4
    have hnm : ¬ s.f2.f9 = true := fun hm => h4 (hb.made s hs hm)
    have hx : lookR u (pp s) = some (mgR (some y) s (na + nb)) := by rw [hu.look, hyl, look_of hb.sorted hs]; rfl
    unfold mgR at hx
    simp only at hx
    rw [if_neg hnm, if_neg h4] at hx
    refine ⟨⟨_, (look_mem hx).1, by simp only; omega, rfl⟩, ⟨y, hy, by rw [hey]; simp only; omega, by rw [hey]⟩, fun x hx e2 => ?_⟩
    obtain ⟨r, hr, er, hh⟩ := lowu x hx e2
    obtain ⟨s', hs', es, ef, ep⟩ := lowt r hr er
    have hsame := hb.same s' hs' s hs (by omega)
    rcases hh with ⟨rfl, hm⟩ | hh
    · have := hb.made s' hs' (hm s' hs' ep)
      rw [hsame.1] at this
      exact h4 this
    · rw [← ef, hsame.1] at hh
      exact h4 hh
  · obtain ⟨s, hs, es, ef, ep⟩ := lowt r hr e
    have h4s : s.f2.f0 = 4 := by rw [ef]; exact h4
    have hrl := look_of h.inv.sorted hr
    have hx : lookR u (pp r) = some (mgR (some r) s (na + nb)) := by rw [hu.look, hrl, ← ep, look_of hb.sorted hs]; rfl
    unfold mgR at hx
    simp only at hx
    refine ⟨?_, fun x hx e2 => ?_⟩
    · split at hx
      · exact ⟨r, (look_mem hx).1, e, rfl⟩
      · first | rw [if_pos h4s] at hx | skip
        exact ⟨_, (look_mem hx).1, e, ef⟩
    · obtain ⟨s', hs', es', h4'⟩ := highu x hx e2
      have := (hb.same s' hs' s hs (by omega)).1
      rw [this] at h4'
      exact h4' h4s
  · obtain ⟨s, hs, es, ef, _⟩ := lowt r hr e
    exact ⟨s, hs, es, ef⟩
  · obtain ⟨r, hr, er, _⟩ := lowu x hx e
    exact hno r hr er
  · obtain ⟨s, hs, es, h4⟩ := highu x hx e
    obtain ⟨y, hy, _, _, _, h2, _⟩ := h.at hb hs
    exact hno y hy (by rw [h2 h4]; simp only; omega)
theorem twice_sum (ψ : S42 → Int) (ha : Inv a na) (hb : Inv b nb) (h : OverOk a b na nb t) (hu : OverOk t b (na + nb) nb u) :
    sumN (fun j => wf ψ u j) (na + nb + nb).toNat = sumN (fun j => wf ψ t j) (na + nb).toNat := by
  have hna := ha.next
  have hnb := hb.next
  rw [show (na + nb + nb).toNat = (na.toNat + nb.toNat) + nb.toNat by omega, show (na + nb).toNat = na.toNat + nb.toNat by omega, sum_split, sum_split, sum_split, Int.add_assoc, ← sum_add]
  congr 1
  · refine sum_eq _ (fun j hj => ?_)
    have hl := tw_low ψ ha hb h hu (j := j) (by omega)
    by_cases he : ∃ r ∈ t, r.f1 = j
    · obtain ⟨r, hr, e⟩ := he
      obtain ⟨x, hx, ex, ef⟩ := hl.1 r hr e
      rw [hu.inv.wf_of hx ex, h.inv.wf_of hr e, ef]
    · rw [wf_no (fun x hx e => he (hl.2 x hx e)), wf_no (fun r hr e => he ⟨r, hr, e⟩)]
  · refine sum_eq _ (fun k hk => ?_)
    have hh := tw_high ha hb h hu (k := k) (by omega)
    have c1 : ((na.toNat + k : Nat) : Int) = na + k := by omega
    have c2 : ((na.toNat + nb.toNat + k : Nat) : Int) = na + nb + k := by omega
    rw [c1, c2]
    by_cases he : ∃ r ∈ t, r.f1 = na + k
    · obtain ⟨r, hr, e⟩ := he
      rw [h.inv.wf_of hr e]
      by_cases h4 : r.f2.f0 = 4
      · obtain ⟨⟨x, hx, ex, ef⟩, hn⟩ := hh.2.1 r hr e h4
        rw [hu.inv.wf_of hx ex, ef, wf_no hn]; omega
      · obtain ⟨s, hs, es, ef⟩ := hh.2.2.1 r hr e h4
        obtain ⟨⟨x, hx, ex, ef2⟩, _, hn⟩ := hh.1 s hs es (by rw [ef]; exact h4)
        rw [hu.inv.wf_of hx ex, ef2, ef, wf_no hn]; omega
    · have hn := hh.2.2.2 (fun r hr e => he ⟨r, hr, e⟩)
      rw [wf_no hn.1, wf_no hn.2, wf_no (fun r hr e => he ⟨r, hr, e⟩)]; omega
theorem twice_gone (ha : Inv a na) (hb : Inv b nb) (h : OverOk a b na nb t) (hu : OverOk t b (na + nb) nb u) : (goneGo t (goneF t u)).length = (con b).2 := by
  have hna := ha.next
  have hnb := hb.next
  have e1 := gone_len (t := u) h.inv
  have e2 := files_is hb
  rw [show (na + nb).toNat = na.toNat + nb.toNat by omega, tot_split', tot_none (fun j hj => by
    have hl := tw_low (fun _ => 0) ha hb h hu (j := j) (by omega)
    cases e : goneF t u j with
    | none => rfl
    | some z =>
      obtain ⟨r, hr, e1, hk⟩ := goneF_sup (a := t) (t := u) (x := j) (by rw [e]; rfl)
      obtain ⟨x, hx, ex, ef⟩ := hl.1 r hr e1
      unfold goneF at e
      rw [if_pos (con_has.2 ⟨x, hx, ex, by rw [ef]; exact hk⟩)] at e
      cases e), tot_one' (g := (con b).1) (fun k hk => by
    have hh := tw_high ha hb h hu (k := k) (by omega)
    have c1 : (k : Int) + (na.toNat : Int) = na + k := by omega
    rw [c1, con_has]
    constructor
    · intro hs
      obtain ⟨r, hr, e1, hk⟩ := goneF_sup hs
      obtain ⟨s, hs, es, ef⟩ := hh.2.2.1 r hr e1 (by omega)
      exact ⟨s, hs, es, by rw [ef]; exact hk⟩
    · rintro ⟨s, hs, es, hk⟩
      obtain ⟨_, ⟨r, hr, er, ef⟩, hn⟩ := hh.1 s hs es (by omega)
      unfold goneF
      rw [if_neg (by rw [con_has]; rintro ⟨x, hx, ex, _⟩; exact hn x hx ex), con_has]
      exact ⟨r, hr, er, by rw [ef]; exact hk⟩), ← e2] at e1
  omega
theorem twice_use (ha : Inv a na) (hb : Inv b nb) (h : OverOk a b na nb t) (hu : OverOk t b (na + nb) nb u) (hl : t.length ≤ 9060) : ofL u = ofL t := by
  have hk := twice_key ha hb h hu
  rw [ofL_is hu.inv (by omega), ofL_is h.inv (by omega), (dp_key hk.1).1, (dp_key hk.1).2]
  simp only [wt_wf, hs_wf]
  rw [twice_sum _ ha hb h hu, twice_sum _ ha hb h hu]
end
end Go.Proofs.YtolpamojbiipaaaDoor.Pure
