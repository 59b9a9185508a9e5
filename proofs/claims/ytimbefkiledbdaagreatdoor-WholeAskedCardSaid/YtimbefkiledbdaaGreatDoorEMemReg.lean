/- Regions that draw their order, over one fact on the own boxes (Mem): steps. -/
import Derived.Test.YtimbefkiledbdaaGreatDoorEMem
namespace Go.Proofs.YtimbefkiledbdaaGreatDoor.Mem
open Go.RowKit Go.Proofs.YtimbefkiledbdaaGreatDoorW.PrintWords Go.Proofs.YtimbefkiledbdaaGreatDoorW.PrintLast Go.Proofs.YtimbefkiledbdaaGreatDoorW.PrintMore
set_option linter.unusedVariables false
set_option linter.unusedSimpArgs false

/-- The boxes lie in w. -/
def Held (B : List Bx) (w : World) : Prop := ∀ x, x ∈ B → w.heap[x.1]? = some (.cells x.2.1.toArray x.2.2 (0, 0))
variable {w0 W W' W1 w : World} {P : Nat → Prop} {B : List Bx} {S0 : World → Prop} {g : Nat} {cs cs' : List Value} {t : TypeId}
theorem Mem.held (h : Mem w0 P W B S0) : Held B W := fun x hx => (h.box x hx).1
theorem Mem.heldTail {x : Bx} (h : Mem w0 P W (x :: B) S0) : Held B W := fun y hy => (h.box y (List.mem_cons_of_mem _ hy)).1
theorem Mem.heldTail2 {x x' : Bx} (h : Mem w0 P W (x :: x' :: B) S0) : Held B W := fun y hy => (h.box y (List.mem_cons_of_mem _ (List.mem_cons_of_mem _ hy))).1
theorem Mem.drew (h : Mem w0 P W B S0) : Mem w0 P W.drew B S0 := h.call (below_drew (Below.refl _ _))
theorem Mem.swap {x y : Bx} (h : Mem w0 P W (x :: y :: B) S0) : Mem w0 P W (y :: x :: B) S0 :=
  ⟨h.below, fun z hz => h.box z (by simp only [List.mem_cons] at hz ⊢; rcases hz with a | a | a <;> simp [a]), by
    have := h.apart
    simp only [List.map_cons, List.nodup_cons, List.mem_cons, not_or] at this ⊢
    exact ⟨⟨fun e => this.1.1 e.symm, this.2.1⟩, this.1.2, this.2.2⟩, fun W' hW => h.keep W' (fun k hk hn hp => hW k hk (by
      simp only [List.map_cons, List.mem_cons, not_or] at hn ⊢
      exact ⟨hn.2.1, hn.1, hn.2.2⟩) hp)⟩
def fillAll : Act → List (Tmp × Value) → Act
  | a, [] => a
  | a, (n, v) :: r => fillAll (a.put (some n) v) r
section
variable {Pr : Program} {md : Region.Mode} {ops : Array Oper} {ds : List Nat} {o : Oper} {a a' : Act} {Q : Exit → Act → World → Prop} {S : World → Prop} {x y : Operand} {ty : TypeId} {i j n fuel : Nat} {v : Value} {l l' : Array Bool} {N : Option Tmp} {T : Bool × List (List Nat × List Nat)}
theorem r_start {id : Nat} (HM : Mem w0 P W B S0) (l : Array Bool) (hm : Pr.follows .mixedOrders = true) (hn : ops.size = n) (hl : Array.replicate n false = l) (h : ∀ W1, Mem w0 P W1 B S0 → wpAnyLast Pr .any ops Q (Held B) ds n l a W1) : (Code.region id ops true).wp Pr Q a W :=
  start_ l hm hn hl HM.drew.held (fun _ => h _ HM.drew)
theorem ready_of {rs : List Nat} (hT : rtab md ops = T) (h : (readyT T.2 l.toList == rs) = true) : Region.ready md ops l = rs := by
  subst hT
  rw [ready_eq]
  exact beq_iff_eq.1 h
/-- A cell of a box, a whole box: read whenever. -/
theorem r_cell (l' : Array Bool) (hi : ops[i]? = some o) (hN : o.dst = N) (hc : takeB md ops ds l l' i = true) (hQ : ∀ c a w, Q (.panic c) (a.put o.dst v) w → Q (.panic c) a w) (hH : Held B w) (hw : Region.wanted o (yielded ops a.tmps) = true)
    (ho : o.op = .load ty x) (hx : a.eval x = .pointer (some ⟨g, j, none⟩)) (hm : (g, cs, t) ∈ B) (ha : aggB Pr ty = false) (hv : cs[j]? = some v) (hp : a.put N v = a')
    (h : wpAnyLast Pr md ops Q (Held B) ds fuel l' a' w) : wpAnyLast Pr md ops Q (Held B) ds (fuel + 1) l a w := by
  refine take_ (S := Held B) l' hi hN hc hQ (Or.inl ⟨hw, fun w' hh => ?_⟩) hH hp h
  have hc : w'.cell? ⟨g, j, none⟩ = some v := (blk_cell (hh _ hm) j).trans (by simpa using hv)
  unfold execOp
  simp only [ho, hx, Instr.loadAt, Instr.sureAddr, Sem.run_bind, Sem.run_pure, Result.andThen_ok, loadVar, run_agg_no ha, run_load, hc, Bool.false_eq_true, if_false]
theorem r_all (l' : Array Bool) (hi : ops[i]? = some o) (hN : o.dst = N) (hc : takeB md ops ds l l' i = true) (hQ : ∀ c a w, Q (.panic c) (a.put o.dst (.agg cs.toArray)) w → Q (.panic c) a w) (hH : Held B w) (hw : Region.wanted o (yielded ops a.tmps) = true)
    (ho : o.op = .load ty x) (hx : a.eval x = .pointer (some ⟨g, 0, none⟩)) (hm : (g, cs, t) ∈ B) (ha : aggN Pr ty n = true) (hl : cs.length = n) (hp : a.put N (.agg cs.toArray) = a')
    (h : wpAnyLast Pr md ops Q (Held B) ds fuel l' a' w) : wpAnyLast Pr md ops Q (Held B) ds (fuel + 1) l a w := by
  refine take_ (S := Held B) l' hi hN hc hQ (Or.inl ⟨hw, fun w' hh => ?_⟩) hH hp h
  have hr := run_agg_yes (W := w') ha
  have hcs : (loadCells ⟨g, 0, none⟩ cs.length).run Pr w' = .ok cs.toArray w' := run_loadCells_list (P := Pr) w' ⟨g, 0, none⟩ cs (fun j u hu => by
    have hadd : (⟨g, 0, none⟩ : Addr).add j = ⟨g, j, none⟩ := by unfold Addr.add; split <;> simp_all
    rw [hadd, blk_cell (hh _ hm) j]
    simpa using hu)
  rw [hl] at hcs
  unfold execOp
  simp only [ho, hx, Instr.loadAt, Instr.sureAddr, Sem.run_bind, Sem.run_pure, Result.andThen_ok, loadVar, hr.1, hr.2, hcs, if_true]
/-- A new box of noughts; a box written (the last store): as one step. -/
theorem r_zero {K : Act → World → Prop} (HM : Mem w0 P W B S0) (hw : Region.wanted o (yielded ops a.tmps) = true) (ho : o.op = .alloc ty) (hz : (Pr.info? ty).map (·.zero) = some (some v)) (hc : v.cells = cs.toArray)
    (h : ∀ g W1, Mem w0 P W1 ((g, cs, ty) :: B) S0 → K (a.put o.dst (.pointer (some ⟨g, 0, none⟩))) W1) : if Region.wanted o (yielded ops a.tmps) = true then Oper.wp Pr o a W K Q else K (a.put o.dst undef) W := by
  rw [if_pos hw]
  cases hq : Pr.info? ty with
  | none => rw [hq] at hz; simp at hz
  | some inf =>
    rw [hq] at hz
    have : inf.zero = some v := by simpa using hz
    have hr : (execOp a.eval o).run Pr W = .ok (.value (.pointer (some ⟨W.heap.size, 0, none⟩))) (W.alloc (.cells cs.toArray ty)) := by
      unfold execOp
      simp [ho, Instr.alloc, zeroValue, typeInfo, hq, this, newVar, newRow, hc]
    unfold Oper.wp
    rw [hr]
    exact h _ _ (HM.new rfl (blk_new W _) (below_alloc (Below.refl _ _) _))
theorem r_put {K : Act → World → Prop} {vs : List Value} {m : Nat} (HM : Mem w0 P W B S0) (hw : Region.wanted o (yielded ops a.tmps) = true) (hN : o.dst = none) (ho : o.op = .store ty x y) (hx : a.eval x = .pointer (some ⟨g, 0, none⟩)) (hm : B[m]? = some (g, cs, t)) (hy : a.eval y = .agg vs.toArray)
    (hs : (Pr.info? ty).map (·.size) = some vs.length) (h1 : ∀ u ∈ vs, u.oneCell' = true) (hi : cs.length = vs.length) (h : ∀ W1, Mem w0 P W1 (B.set m (g, vs, t)) S0 → K a W1) :
    if Region.wanted o (yielded ops a.tmps) = true then Oper.wp Pr o a W K Q else K (a.put none undef) W := by
  have hbx := (HM.box _ (List.mem_of_getElem? hm)).1
  have hst := run_storeCells_at (P := Pr) g 0 t vs 0 cs.toArray W hbx (by simp; omega) h1
  simp only [Nat.add_zero, Nat.zero_add] at hst
  have e : cs.toArray.toList.take 0 ++ vs ++ cs.toArray.toList.drop vs.length = vs := by
    rw [List.take_zero, List.nil_append, List.drop_of_length_le (by simp; omega), List.append_nil]
  rw [e] at hst
  cases hq : Pr.info? ty with
  | none => rw [hq] at hs; simp at hs
  | some inf =>
    rw [hq] at hs
    have : inf.size = vs.length := by simpa using hs
    refine skip_ (w1 := W.setRow g vs.toArray) hw hN ?_ (h _ (HM.set hm vs))
    unfold execOp
    simp [ho, hx, hy, Instr.storeAt, Instr.sureAddr, storeVar, sizeOf, typeInfo, hq, this, Value.cells, hst]
/-- What follows, once. -/
theorem r_join {σ : Type} (HM : Mem w0 P w B S0) (fuel' : Nat) (l' : Array Bool) (ns : σ → List (Tmp × Value)) (nb : σ → List Bx) (nf : σ → World → Prop) (side : σ → Prop)
    (hcont : ∀ s w', side s → Mem w0 P w' (nb s ++ B) (fun W => S0 W ∧ nf s W) → wpAnyLast Pr md ops Q S ds fuel' l' (fillAll a (ns s)) w')
    (h : (∀ s w', side s → Mem w0 P w' (nb s ++ B) (fun W => S0 W ∧ nf s W) → wpAnyLast Pr md ops Q S ds fuel' l' (fillAll a (ns s)) w') → wpAnyLast Pr md ops Q S ds fuel l a w) : wpAnyLast Pr md ops Q S ds fuel l a w := h hcont
theorem Mem.and (h : Mem w0 P W B S0) : Mem w0 P W B (fun w => S0 w ∧ True) := h.imp (fun _ h => ⟨h, trivial⟩)
end
end Go.Proofs.YtimbefkiledbdaaGreatDoor.Mem
