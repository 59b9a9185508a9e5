/- A region that draws its order, some of its operations apart: one obligation an operation, whatever the order. -/
import Derived.Test.YtolpamojbiipaaaDoorEMemRow
namespace Go.Proofs.YtolpamojbiipaaaDoor.Mem
open Go.RowKit Go.Proofs.YtolpamojbiipaaaDoorW.PrintWords Go.Proofs.YtolpamojbiipaaaDoorW.PrintLast Go.Proofs.YtolpamojbiipaaaDoorW.PrintMore
set_option linter.unusedVariables false
set_option linter.unusedSimpArgs false

/-- Each operation waits for earlier ones alone. -/
def lowB (T : List (List Nat × List Nat)) : Bool := (List.range T.length).all fun i => match T[i]? with | some r => r.1.all (fun j => decide (j < i)) | none => true
theorem all_done {T : List (List Nat × List Nat)} (hlow : lowB T = true) {l : List Bool} (hl : l.length = T.length) (h : readyT T l = []) : ∀ i, i < T.length → l.getD i false = true := by
  intro i
  induction i using Nat.strongRecOn with
  | _ i ih =>
    intro hi
    have hn : readyAt T l i = false := by
      have : i ∉ readyT T l := by rw [h]; simp
      unfold readyT at this
      rw [List.mem_filter, List.mem_range] at this
      simpa [hi] using this
    have hlow' := hlow
    unfold lowB at hlow'
    rw [List.all_eq_true] at hlow'
    have hi' := hlow' i (List.mem_range.2 hi)
    rw [List.getElem?_eq_getElem hi] at hi'
    unfold readyAt at hn
    rw [List.getElem?_eq_getElem hi] at hn
    simp only at hi' hn
    rw [List.all_eq_true] at hi'
    have hall : T[i].1.all (fun j => l.getD j false) = true := by
      rw [List.all_eq_true]
      intro j hj
      have hji : j < i := by simpa using hi' j hj
      exact ih j hji (by omega)
    rw [hall, Bool.and_true, Bool.not_eq_false'] at hn
    rw [List.getD_eq_getElem?_getD, List.getElem?_eq_getElem (by omega)] at hn ⊢
    exact hn
variable {w0 w : World} {P : Nat → Prop} {B : List Bx} {S0 : World → Prop}
theorem Mem.heldApp {X : List Bx} (h : Mem w0 P w (X ++ B) S0) : Held B w := fun y hy => (h.box y (List.mem_append_right _ hy)).1
theorem count_set : ∀ (l : List Bool) (i : Nat), l.getD i true = false → (l.set i true).count false + 1 = l.count false
  | [], i, h => by simp at h
  | b :: l, 0, h => by
    simp only [List.getD_cons_zero] at h
    subst h
    simp
  | b :: l, i + 1, h => by
    simp only [List.getD_cons_succ] at h
    have := count_set l i h
    simp only [List.set_cons_succ, List.count_cons]
    omega
section
variable {Pr : Program} {ops : Array Oper} {ds : List Nat} {a : Act} {Q : Exit → Act → World → Prop} {T : Bool × List (List Nat × List Nat)} {σ : Type}
theorem r_inv (hT : rtab .any ops = T) (hlow : lowB T.2 = true) {n : Nat} (hn : T.2.length = n) (hno : ops.size = n) (ns : List Bool → σ → List (Tmp × Value)) (nb : List Bool → σ → List Bx) (nf : List Bool → σ → World → Prop) (side : List Bool → σ → Prop)
    (hstep : ∀ (l : List Bool) (s : σ) (w' : World) (i : Nat) (o : Oper), l.length = n → ops[i]? = some o → readyAt T.2 l i = true → Mem w0 P w' (nb l s ++ B) (fun W => S0 W ∧ nf l s W) → side l s →
      ∀ K : Act → World → Prop, (∀ (s' : σ) (w'' : World) (a' : Act), Mem w0 P w'' (nb (l.set i true) s' ++ B) (fun W => S0 W ∧ nf (l.set i true) s' W) → side (l.set i true) s' → a' = fillAll a (ns (l.set i true) s') → K a' w'') →
      if Region.wanted o (yielded ops (fillAll a (ns l s)).tmps) = true then Oper.wp Pr o (fillAll a (ns l s)) w' K Q else K ((fillAll a (ns l s)).put o.dst undef) w')
    (hend : ∀ (s : σ) (w' : World), Mem w0 P w' (nb (List.replicate n true) s ++ B) (fun W => S0 W ∧ nf (List.replicate n true) s W) → side (List.replicate n true) s → Q .normal (fillAll a (ns (List.replicate n true) s)) w') :
    ∀ (fuel : Nat) (L : Array Bool) (s : σ) (w' : World), L.toList.length = n → L.toList.count false ≤ fuel → Mem w0 P w' (nb L.toList s ++ B) (fun W => S0 W ∧ nf L.toList s W) → side L.toList s → wpAnyLast Pr .any ops Q (Held B) ds fuel L (fillAll a (ns L.toList s)) w' := by
  have fin : ∀ (L : Array Bool) (s : σ) (w' : World), L.toList.length = n → Region.ready .any ops L = [] → Mem w0 P w' (nb L.toList s ++ B) (fun W => S0 W ∧ nf L.toList s W) → side L.toList s → Q .normal (fillAll a (ns L.toList s)) w' := by
    intro L s w' hL hr hM hs
    rw [ready_eq, hT] at hr
    have hd := all_done hlow (hL.trans hn.symm) hr
    have e : L.toList = List.replicate n true := by
      refine List.ext_getElem (by simp [hL]) (fun i h1 h2 => ?_)
      have := hd i (by omega)
      rw [List.getD_eq_getElem?_getD, List.getElem?_eq_getElem h1] at this
      simpa using this
    rw [e] at hM hs ⊢
    exact hend s w' hM hs
  intro fuel
  induction fuel with
  | zero =>
    intro L s w' hL hc hM hs
    have hr : Region.ready .any ops L = [] := by
      rw [ready_eq, hT]
      unfold readyT
      rw [List.filter_eq_nil_iff]
      intro i hi
      rw [List.mem_range] at hi
      have : L.toList.getD i true = true := by
        rcases Bool.eq_false_or_eq_true (L.toList.getD i true) with h | h
        · exact h
        · have := count_set _ _ h; omega
      unfold readyAt
      rw [this]; simp
    exact ⟨hr, fin L s w' hL hr hM hs⟩
  | succ fuel ih =>
    intro L s w' hL hc hM hs
    refine ⟨fun hr => fin L s w' hL hr hM hs, fun i hi => ?_⟩
    have hi' := hi
    rw [ready_eq, hT] at hi'
    unfold readyT at hi'
    rw [List.mem_filter, List.mem_range] at hi'
    have hin : i < n := by omega
    have hfalse : L.toList.getD i true = false := by
      have := hi'.2
      unfold readyAt at this
      rw [Bool.and_eq_true, Bool.not_eq_true'] at this
      exact this.1
    have hcs := count_set _ _ hfalse
    have hset : (L.setIfInBounds i true).toList = L.toList.set i true := by simp
    refine wpOp_step (o := ops[i]'(by omega)) (Array.getElem?_eq_getElem (by omega)) (fun K hK => ?_)
    refine hstep L.toList s w' i _ hL (Array.getElem?_eq_getElem (by omega)) hi'.2 hM hs K (fun s' w'' a' hM' hs' ha' => hK _ _ ⟨fun _ _ => hM'.heldApp, ?_⟩)
    subst ha'
    have := ih (L.setIfInBounds i true) s' w'' (by rw [hset]; simpa using hL) (by rw [hset]; omega) (by rw [hset]; exact hM') (by rw [hset]; exact hs')
    rw [hset] at this
    exact this
end
end Go.Proofs.YtolpamojbiipaaaDoor.Mem
