/- Trees that have but directories together, laid one over the other. -/
import Derived.Test.YtolpamojbiipaaaDoorUMerge
import Derived.Test.YtolpamojbiipaaaDoorUCon
namespace Go.Proofs.YtolpamojbiipaaaDoor.Pure
open Go.RowKit Go.Proofs.YtolpamojbiipaaaDoor.XA Go.Proofs.YtolpamojbiipaaaDoorW.PrintWords Go.Proofs.YtolpamojbiipaaaDoorW.PrintLast Go.Proofs.YtolpamojbiipaaaDoorW.PrintMore
set_option linter.unusedSimpArgs false
set_option linter.unusedVariables false

theorem tot_split (φ : Int → Int) (f : Int → Option Int) (n m : Nat) : tot φ f (n + m) = tot φ f n + tot φ (fun x => f (x + n)) m := by
  unfold tot
  rw [sum_split]
  congr 1
  refine sum_eq m (fun j _ => ?_)
  rw [show ((n + j : Nat) : Int) = (j : Int) + (n : Int) by omega]
theorem tot_one {f g : Int → Option Int} {n : Nat} (h : ∀ j : Nat, j < n → ((f j).isSome = true ↔ (g j).isSome = true)) : tot one f n = tot one g n :=
  sum_eq n (fun j hj => by
    have := h j hj
    cases e : f j <;> cases e2 : g j <;> rw [e, e2] at this <;> simp at this ⊢)
theorem nat_add {na nb : Int} (h1 : 0 ≤ na) (h2 : 0 ≤ nb) : (na + nb).toNat = na.toNat + nb.toNat := by omega
def bothN (a l : List S44) : Nat := (l.filter (fun r => (lookR a (pp r)).isSome)).length
theorem both_new (a : List S44) : ∀ l, bothN a l + newN a l = l.length
  | [] => rfl
  | r :: l => by
    have := both_new a l
    unfold bothN newN at *
    rw [List.filter_cons, List.filter_cons]
    cases lookR a (pp r) <;> simp <;> omega
theorem both_succ (a l : List S44) (i : Nat) (h : i < l.length) : bothN a (l.take (i + 1)) = bothN a (l.take i) + if (lookR a (pp l[i])).isSome then 1 else 0 := by
  unfold bothN
  rw [List.take_succ_eq_append_getElem h, List.filter_append, List.length_append, List.filter_cons]
  split <;> simp
def dirsB (a l : List S44) : Prop := ∀ r ∈ l, ∀ x, lookR a (pp r) = some x → x.f2.f0 = 4 ∧ r.f2.f0 = 4
theorem dirs_good {a b : List S44} (h : dirsB a b) : clB a b = false := by
  rw [← Bool.not_eq_true, clB_true]
  rintro ⟨r, hr, o, ho, hn⟩
  have := h r hr o ho
  exact hn (by rw [this.1, this.2])
theorem dirs_succ {a l : List S44} {i : Nat} (h : i < l.length) (h1 : dirsB a (l.take i)) (h2 : ∀ x, lookR a (pp l[i]) = some x → x.f2.f0 = 4 ∧ l[i].f2.f0 = 4) : dirsB a (l.take (i + 1)) := by
  intro r hr x hx
  rw [List.take_succ_eq_append_getElem h] at hr
  rcases List.mem_append.1 hr with hr | hr
  · exact h1 r hr x hx
  · rw [List.mem_singleton.1 hr] at hx ⊢
    exact h2 x hx
theorem OverOk.keeps {a b t : List S44} {na nb : Int} (h : OverOk a b na nb t) (ha : Inv a na) (hb : Inv b nb) {r : S44} (hr : r ∈ a) (hn : ∀ s ∈ b, pp s = pp r → False) : r ∈ t := by
  have : lookR t (pp r) = some r := by
    rw [h.look, look_of ha.sorted hr, look_none.2 (fun s hs e => hn s hs e)]
    rfl
  exact (look_mem this).1
theorem tot_le (f : Int → Option Int) (n : Nat) : tot one f n ≤ (n : Int) := by
  unfold tot
  refine Int.le_trans (sum_cap (n := 0) n (Nat.zero_le _) (fun i _ _ => ?_)) (by simp [sumN])
  split <;> simp [one]
theorem files_le {l : List S44} {n : Int} (h : Inv l n) (hn : n ≤ 9060) : (con l).2 ≤ 9060 := by
  have h1 := files_is h
  have h2 := tot_le (con l).1 n.toNat
  omega
theorem wadd {x y : Nat} (hx : x ≤ 9060) (hy : y ≤ 9060) : wrap64 ((x : Int) + (y : Int)) = (x : Int) + (y : Int) := w64 (by omega) (by omega)
theorem wsub {x y k z : Nat} (hx : x ≤ 9060) (hy : y ≤ 9060) (h : z + k = x + y) : wrap64 ((x : Int) + (y : Int) - (k : Int)) = (z : Int) := by rw [w64 (by omega) (by omega)]; omega
theorem apart_files {a b t : List S44} {na nb : Int} (ha : Inv a na) (hb : Inv b nb) (h : OverOk a b na nb t) (hd : dirsB a b) : (con t).2 = (con a).2 + (con b).2 ∧ goneGo a (goneF a t) = [] := by
  have hna := ha.next
  have hnb := hb.next
  have keep : ∀ r ∈ a, r.f2.f0 = 1 → r ∈ t := fun r hr hk => h.keeps ha hb hr (fun s hs e => by
    have := hd s hs r (by rw [e]; exact look_of ha.sorted hr)
    omega)
  refine ⟨?_, gone_nil ha (fun r hr hk => ⟨r, keep r hr hk, rfl, hk⟩)⟩
  have e1 := files_is h.inv
  have e2 := files_is ha
  have e3 := files_is hb
  rw [nat_add hna hnb, tot_split] at e1
  have f1 : tot one (con t).1 na.toNat = tot one (con a).1 na.toNat := tot_one (fun j hj => by
    rw [con_has, con_has]
    constructor
    · rintro ⟨r, hr, e, hk⟩
      rcases h.src r hr with ⟨hra, _⟩ | ⟨s, hs, rfl, _⟩ | ⟨s, o, hs, ho, _, rfl, h4, _⟩
      · exact ⟨r, hra, e, hk⟩
      · have := hb.ids s hs; simp only at e; omega
      · simp only at hk; omega
    · rintro ⟨r, hr, e, hk⟩
      exact ⟨r, keep r hr hk, e, hk⟩)
  have f2 : tot one (fun x => (con t).1 (x + na.toNat)) nb.toNat = tot one (con b).1 nb.toNat := tot_one (fun j hj => by
    rw [con_has, con_has]
    constructor
    · rintro ⟨r, hr, e, hk⟩
      rcases h.src r hr with ⟨hra, _⟩ | ⟨s, hs, rfl, _⟩ | ⟨s, o, hs, ho, _, rfl, h4, _⟩
      · have := ha.ids r hra; omega
      · exact ⟨s, hs, by simp only at e; omega, hk⟩
      · simp only at hk; omega
    · rintro ⟨s, hs, e, hk⟩
      have hn : lookR a (pp s) = none := by
        cases e2 : lookR a (pp s) with
        | none => rfl
        | some x => have := hd s hs x e2; omega
      have : lookR t (pp s) = some ⟨s.f0, s.f1 + na, s.f2⟩ := by
        rw [h.look, hn, look_of hb.sorted hs]; rfl
      exact ⟨_, (look_mem this).1, by simp only; omega, hk⟩)
  rw [f1, f2, ← e2, ← e3] at e1
  omega
theorem apart_all {a b : List S44} {na nb : Int} (ha : Inv a na) (hb : Inv b nb) (hLa : a.length ≤ 4530) (hLb : b.length ≤ 4530) (hNa : na ≤ 4530) (hNb : nb ≤ 4530) (hd : dirsB a b) {k : Nat} (hk : k = bothN a b) :
    ∃ (t : List S44) (nt : Int), overT a b na nb = (t, nt, 0) ∧ Inv t nt ∧ t.length ≤ 9060 ∧ nt ≤ 9060 ∧ goneGo a (goneF a t) = [] ∧ wrap64 ((a.length : Int) + (b.length : Int)) = (a.length : Int) + (b.length : Int) ∧ wrap64 ((a.length : Int) + (b.length : Int) - (k : Int)) = (t.length : Int) ∧ wrap64 (((con a).2 : Int) + ((con b).2 : Int)) = ((con t).2 : Int) := by
  obtain ⟨t, ht, hok⟩ : ∃ t, overT a b na nb = (t, na + nb, 0) ∧ OverOk a b na nb t := by
    rcases over_split ha hb with ⟨t, ht, hok, _⟩ | ⟨_, hf⟩
    · exact ⟨t, ht, hok⟩
    · rw [dirs_good hd] at hf; cases hf
  have hbn := both_new a b
  have hlen := hok.len
  have hfi := apart_files ha hb hok hd
  refine ⟨t, _, ht, hok.inv, by omega, by omega, hfi.2, wadd (by omega) (by omega), wsub (by omega) (by omega) (by omega), ?_⟩
  rw [wadd (files_le ha (by omega)) (files_le hb (by omega)), hfi.1]
  omega
end Go.Proofs.YtolpamojbiipaaaDoor.Pure
