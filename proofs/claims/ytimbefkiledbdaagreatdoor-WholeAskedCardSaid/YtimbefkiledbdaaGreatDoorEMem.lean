/- The own boxes of a walk as one fact (Mem), and the steps that read and write them. -/
import Derived.Test.YtimbefkiledbdaaGreatDoorXA0
import Derived.WalkMore
import Derived.Laws.CopyRow
namespace Go.Proofs.YtimbefkiledbdaaGreatDoor.Mem
open Go.RowKit Go.Proofs.YtimbefkiledbdaaGreatDoorW.PrintWords Go.Proofs.YtimbefkiledbdaaGreatDoorW.PrintLast Go.Proofs.YtimbefkiledbdaaGreatDoorW.PrintMore
set_option linter.unusedVariables false
set_option linter.unusedSimpArgs false

abbrev Bx := Nat × List Value × TypeId
/-- Since w0: the own boxes B (block, cells, type); what is known, S, leans on blocks of P and new ones that are no boxes. -/
structure Mem (w0 : World) (P : Nat → Prop) (W : World) (B : List Bx) (S : World → Prop) : Prop where
  below : Below w0.heap.size w0 W
  box : ∀ x, x ∈ B → W.heap[x.1]? = some (.cells x.2.1.toArray x.2.2 (0, 0)) ∧ w0.heap.size ≤ x.1
  apart : (B.map (·.1)).Nodup
  keep : ∀ W' : World, (∀ k, k < W.heap.size → k ∉ B.map (·.1) → (P k ∨ w0.heap.size ≤ k) → W'.heap[k]? = W.heap[k]?) → S W'
variable {w0 W W' W1 : World} {P : Nat → Prop} {B : List Bx} {S S' : World → Prop} {g : Nat} {cs cs' : List Value} {t : TypeId}
theorem Mem.start (h : ∀ W' : World, (∀ k, k < W.heap.size → P k → W'.heap[k]? = W.heap[k]?) → S W') : Mem W P W [] S :=
  ⟨Below.refl _ _, (fun x hx => by cases hx), List.nodup_nil, fun W' h' => h W' (fun k hk hp => h' k hk (by simp) (.inl hp))⟩
theorem Mem.now (h : Mem w0 P W B S) : S W := h.keep W (fun _ _ _ _ => rfl)
theorem Mem.imp (h : Mem w0 P W B S) (hi : ∀ W, S W → S' W) : Mem w0 P W B S' := ⟨h.below, h.box, h.apart, fun W' hW => hi W' (h.keep W' hW)⟩
theorem Mem.call (h : Mem w0 P W B S) (hb : Below W.heap.size W W1) : Mem w0 P W1 B S :=
  ⟨h.below.trans (hb.mono h.below.size), fun x hx => ⟨(hb.block _ (blk_lt (h.box x hx).1)).trans (h.box x hx).1, (h.box x hx).2⟩, h.apart,
   fun W' hW => h.keep W' (fun k hk hn hp => (hW k (Nat.lt_of_lt_of_le hk hb.size) hn hp).trans (hb.block k hk))⟩
/-- A call's new knowledge, told by what it leans on. -/
theorem Mem.add (h : Mem w0 P W B S) (hb : Below W.heap.size W W1) (hs : ∀ W' : World, (∀ k, k < W1.heap.size → ((k ∉ B.map (·.1) ∧ (P k ∨ w0.heap.size ≤ k)) ∨ W.heap.size ≤ k) → W'.heap[k]? = W1.heap[k]?) → S' W') : Mem w0 P W1 B (fun w => S w ∧ S' w) :=
  ⟨(h.call hb).below, (h.call hb).box, h.apart, fun W' hW => ⟨(h.call hb).keep W' hW, hs W' (fun k hk hp => hW k hk (by
    rcases hp with hp | hp
    · exact hp.1
    · intro hm
      obtain ⟨x, hx, rfl⟩ := List.mem_map.1 hm
      have := blk_lt (h.box x hx).1
      omega) (by
    rcases hp with hp | hp
    · exact hp.2
    · exact .inr (Nat.le_trans h.below.size hp)))⟩⟩
theorem Mem.old (h : Mem w0 P W B S) : ∀ W' : World, (∀ k, k < W.heap.size → (k ∉ B.map (·.1) ∧ (P k ∨ w0.heap.size ≤ k)) → W'.heap[k]? = W.heap[k]?) → S W' := fun W' hW => h.keep W' (fun k hk h1 h2 => hW k hk ⟨h1, h2⟩)
theorem Mem.drop {x : Bx} (h : Mem w0 P W (x :: B) S) : Mem w0 P W B S :=
  ⟨h.below, fun y hy => h.box y (List.mem_cons_of_mem _ hy), (List.nodup_cons.1 (by simpa using h.apart)).2, fun W' hW => h.keep W' (fun k hk hn hp => hW k hk (fun hm => hn (by simp only [List.map_cons, List.mem_cons]; exact .inr hm)) hp)⟩
theorem Mem.bare (h : Mem w0 P W B S) : Mem w0 P W [] S := by
  induction B with
  | nil => exact h
  | cons x B ih => exact ih h.drop
/-- What is told of a result when the call ends. -/
theorem Mem.last (h : Mem w0 P W B S) : ∀ W' : World, (∀ k, (P k ∨ w0.heap.size ≤ k) → k < W.heap.size → W'.heap[k]? = W.heap[k]?) → S W' := fun W' hW => h.keep W' (fun k hk _ hp => hW k hp hk)
theorem Mem.new (h : Mem w0 P W B S) (hg : g = W.heap.size) (hc : W1.heap[g]? = some (.cells cs.toArray t (0, 0))) (hb : Below W.heap.size W W1) : Mem w0 P W1 ((g, cs, t) :: B) S := by
  have h1 := h.call hb
  refine ⟨h1.below, fun x hx => ?_, ?_, fun W' hW => ?_⟩
  · rcases List.mem_cons.1 hx with rfl | hx
    · exact ⟨hc, by rw [hg]; exact h.below.size⟩
    · exact h1.box x hx
  · simp only [List.map_cons, List.nodup_cons]
    refine ⟨fun hm => ?_, h.apart⟩
    obtain ⟨x, hx, e⟩ := List.mem_map.1 hm
    have := blk_lt (h.box x hx).1
    omega
  · refine h.keep W' (fun k hk hn hp => (hW k (Nat.lt_of_lt_of_le hk hb.size) ?_ hp).trans (hb.block k hk))
    simp only [List.map_cons, List.mem_cons, not_or]
    exact ⟨by omega, hn⟩
theorem set_fst {n : Nat} (hn : B[n]? = some (g, cs, t)) : (B.set n (g, cs', t)).map (·.1) = B.map (·.1) := by
  rw [List.map_set]
  apply List.ext_getElem?
  intro i
  rw [List.getElem?_set]
  split
  · rename_i e; subst e
    split
    · simp [hn]
    · rename_i hl; simp at hl; simp [List.getElem?_eq_none hl]
  · rfl
theorem Mem.put {n : Nat} (h : Mem w0 P W B S) (hn : B[n]? = some (g, cs, t)) (hc : W1.heap[g]? = some (.cells cs'.toArray t (0, 0))) (ho : ∀ k, k ≠ g → W1.heap[k]? = W.heap[k]?) (hz : W1.heap.size = W.heap.size)
    (hb : Below w0.heap.size w0 W1) : Mem w0 P W1 (B.set n (g, cs', t)) S := by
  have hmem : (g, cs, t) ∈ B := List.mem_of_getElem? hn
  have hnl : n < B.length := (List.getElem?_eq_some_iff.1 hn).1
  refine ⟨hb, fun x hx => ?_, by rw [set_fst hn]; exact h.apart, fun W' hW => ?_⟩
  · obtain ⟨i, hi, e⟩ := List.getElem_of_mem hx
    rw [List.getElem_set] at e
    split at e
    · subst e; exact ⟨hc, (h.box _ hmem).2⟩
    · rename_i hne
      have hi' : i < B.length := by simpa using hi
      have hx' : x ∈ B := e ▸ List.getElem_mem hi'
      have hne' : x.1 ≠ g := by
        intro e2
        have := List.pairwise_iff_getElem.1 h.apart
        have hg' : (B.map (·.1))[n]'(by simpa using hnl) = g := by simp [(List.getElem?_eq_some_iff.1 hn).2]
        have hx2 : (B.map (·.1))[i]'(by simpa using hi') = g := by simp [e, e2]
        rcases Nat.lt_or_gt_of_ne hne with hl | hl
        · exact this n i (by simpa using hnl) (by simpa using hi') hl (hg'.trans hx2.symm)
        · exact this i n (by simpa using hi') (by simpa using hnl) hl (hx2.trans hg'.symm)
      exact ⟨(ho _ hne').trans (h.box x hx').1, (h.box x hx').2⟩
  · rw [set_fst hn] at hW
    refine h.keep W' (fun k hk hn' hp => (hW k (by omega) hn' hp).trans (ho k (fun e => hn' ?_)))
    rw [e]
    exact List.mem_map.2 ⟨_, hmem, rfl⟩
theorem Mem.set {n : Nat} (h : Mem w0 P W B S) (hn : B[n]? = some (g, cs, t)) (cs' : List Value) : Mem w0 P (W.setRow g cs'.toArray) (B.set n (g, cs', t)) S := by
  have hm := h.box _ (List.mem_of_getElem? hn)
  refine h.put hn (setRow_heap _ _ _ _ _ _ hm.1) (fun k hk => setRow_other _ _ _ _ hk) (setRow_size _ _ _) ?_
  have hw := h.below
  exact ⟨hw.os, hw.tape, hw.output, by rw [setRow_size]; exact hw.size, fun k hk => (setRow_other _ _ _ _ (by have := hm.2; simp only at this; omega)).trans (hw.block k hk)⟩

section
variable {Pr : Program} {ty : TypeId} {n : Nat}
def aggB (Pr : Program) (ty : TypeId) : Bool := match Pr.underlying ty with | some (.struct _) => true | some (.array _ _) => true | none => true | _ => false
theorem run_agg_no (h : aggB Pr ty = false) : (isAgg ty).run Pr W = .ok false W := by
  unfold aggB at h
  cases hu : Pr.underlying ty with
  | none => rw [hu] at h; cases h
  | some d =>
    unfold isAgg
    rw [Sem.run_bind, run_underlying hu W]
    rw [hu] at h
    cases d <;> first | rfl | simp_all
/-- Of a type of so many cells that is a struct. -/
def aggN (Pr : Program) (ty : TypeId) (n : Nat) : Bool := match Pr.underlying ty with | some (.struct _) => (Pr.info? ty).map (·.size) == some n | some (.array _ _) => (Pr.info? ty).map (·.size) == some n | _ => false
theorem run_agg_yes (h : aggN Pr ty n = true) : (isAgg ty).run Pr W = .ok true W ∧ (sizeOf ty).run Pr W = .ok n W := by
  unfold aggN at h
  cases hu : Pr.underlying ty with
  | none => rw [hu] at h; cases h
  | some d =>
    rw [hu] at h
    have hi : (Pr.info? ty).map (·.size) = some n := by
      cases d <;> first | (exact beq_iff_eq.1 h) | exact absurd h (by simp)
    refine ⟨?_, ?_⟩
    · unfold isAgg
      rw [Sem.run_bind, run_underlying hu W]
      cases d <;> first | rfl | exact absurd h (by simp)
    · cases hq : Pr.info? ty with
      | none => rw [hq] at hi; simp at hi
      | some inf =>
        rw [hq] at hi
        have : inf.size = n := by simpa using hi
        simp [sizeOf, typeInfo, hq, this]
end
/-- The end of a call: a struct in a box, and a slot; a struct alone; two of them. -/
theorem loadVar_box {Pr : Program} {ty : TypeId} (HM : Mem w0 P W B S) (hm : (g, cs, t) ∈ B) (ha : aggN Pr ty cs.length = true) : (loadVar ty ⟨g, 0, none⟩).run Pr W = .ok (.agg cs.toArray) W := by
  have hr := run_agg_yes (W := W) ha
  have hcs : (loadCells ⟨g, 0, none⟩ cs.length).run Pr W = .ok cs.toArray W := run_loadCells_list (P := Pr) W ⟨g, 0, none⟩ cs (fun j u hu => by
    have hadd : (⟨g, 0, none⟩ : Addr).add j = ⟨g, j, none⟩ := by unfold Addr.add; split <;> simp_all
    rw [hadd, blk_cell (HM.box _ hm).1 j]
    simpa using hu)
  simp only [loadVar, Sem.run_bind, Result.andThen_ok, hr.1, hr.2, hcs, if_true, Sem.run_pure]
theorem ret_ct {Pr : Program} {fn : Func} {p u : Tmp} {ty : TypeId} {tmps : Array Value} (HM : Mem w0 P W B S) (h : fn.results = #[.cell p ty, .tmp u]) (hp : tmps.getD p undef = .pointer (some ⟨g, 0, none⟩)) (hm : (g, cs, t) ∈ B) (ha : aggN Pr ty cs.length = true) :
    (results fn tmps).run Pr W = .ok (.tuple #[.agg cs.toArray, tmps.getD u undef]) W := by
  have hp' : tmps[p]?.getD undef = .pointer (some ⟨g, 0, none⟩) := by simpa using hp
  simp [results, h, hp', asAddr, loadVar_box HM hm ha]
theorem ret_c {Pr : Program} {fn : Func} {p : Tmp} {ty : TypeId} {tmps : Array Value} (HM : Mem w0 P W B S) (h : fn.results = #[.cell p ty]) (hp : tmps.getD p undef = .pointer (some ⟨g, 0, none⟩)) (hm : (g, cs, t) ∈ B) (ha : aggN Pr ty cs.length = true) :
    (results fn tmps).run Pr W = .ok (.agg cs.toArray) W := by
  have hp' : tmps[p]?.getD undef = .pointer (some ⟨g, 0, none⟩) := by simpa using hp
  simp [results, h, hp', asAddr, loadVar_box HM hm ha]
theorem ret_cc {Pr : Program} {fn : Func} {p u : Tmp} {ty ty' : TypeId} {g' : Nat} {cs' : List Value} {t' : TypeId} {tmps : Array Value} (HM : Mem w0 P W B S) (h : fn.results = #[.cell p ty, .cell u ty']) (hp : tmps.getD p undef = .pointer (some ⟨g, 0, none⟩)) (hm : (g, cs, t) ∈ B) (ha : aggN Pr ty cs.length = true)
    (hp2 : tmps.getD u undef = .pointer (some ⟨g', 0, none⟩)) (hm' : (g', cs', t') ∈ B) (ha' : aggN Pr ty' cs'.length = true) :
    (results fn tmps).run Pr W = .ok (.tuple #[.agg cs.toArray, .agg cs'.toArray]) W := by
  have h1 : tmps[p]?.getD undef = .pointer (some ⟨g, 0, none⟩) := by simpa using hp
  have h2 : tmps[u]?.getD undef = .pointer (some ⟨g', 0, none⟩) := by simpa using hp2
  simp [results, h, h1, h2, asAddr, loadVar_box HM hm ha, loadVar_box HM hm' ha']

/-! The steps. -/
section
variable {Pr : Program} {ops : Array Oper} {rest : List Oper} {o : Oper} {a : Act} {Q : Exit → Act → World → Prop} {x y : Operand} {ty : TypeId} {i n : Nat} {v : Value}
theorem step_value (hw : Region.wanted o (yielded ops a.tmps) = true) (hr : (execOp a.eval o).run Pr W = .ok (.value v) W1) (h : wpList Pr ops Q rest (a.put o.dst v) W1) : wpList Pr ops Q (o :: rest) a W :=
  wpList_step fun K hK => by rw [if_pos hw]; unfold Oper.wp; rw [hr]; exact hK _ _ h
theorem step_skip (hw : Region.wanted o (yielded ops a.tmps) = true) (hr : (execOp a.eval o).run Pr W = .ok .skip W1) (h : wpList Pr ops Q rest (a.put o.dst undef) W1) : wpList Pr ops Q (o :: rest) a W :=
  wpList_step fun K hK => by rw [if_pos hw]; unfold Oper.wp; rw [hr]; exact hK _ _ h
/-- A cell of a box is read. -/
theorem load_cell (HM : Mem w0 P W B S) (hw : Region.wanted o (yielded ops a.tmps) = true) (ho : o.op = .load ty x) (hx : a.eval x = .pointer (some ⟨g, i, none⟩)) (hm : (g, cs, t) ∈ B) (ha : aggB Pr ty = false) (hv : cs[i]? = some v)
    (h : wpList Pr ops Q rest (a.put o.dst v) W) : wpList Pr ops Q (o :: rest) a W := by
  refine step_value hw ?_ h
  have hc : W.cell? ⟨g, i, none⟩ = some v := (blk_cell (HM.box _ hm).1 i).trans (by simpa using hv)
  unfold execOp
  simp only [ho, hx, Instr.loadAt, Instr.sureAddr, Sem.run_bind, Sem.run_pure, Result.andThen_ok, loadVar, run_agg_no ha, run_load, hc, Bool.false_eq_true, if_false]
/-- A struct within a box is read. -/
theorem load_part (HM : Mem w0 P W B S) (hw : Region.wanted o (yielded ops a.tmps) = true) (ho : o.op = .load ty x) (hx : a.eval x = .pointer (some ⟨g, i, none⟩)) (hm : (g, cs, t) ∈ B) (ha : aggN Pr ty n = true) (vs : List Value) (hv : (cs.drop i).take n = vs) (hl : vs.length = n)
    (h : wpList Pr ops Q rest (a.put o.dst (.agg vs.toArray)) W) : wpList Pr ops Q (o :: rest) a W := by
  refine step_value hw ?_ h
  have hr := run_agg_yes (W := W) ha
  have hcs : (loadCells ⟨g, i, none⟩ vs.length).run Pr W = .ok vs.toArray W := run_loadCells_list (P := Pr) W ⟨g, i, none⟩ vs (fun j u hu => by
    have hadd : (⟨g, i, none⟩ : Addr).add j = ⟨g, i + j, none⟩ := by unfold Addr.add; split <;> simp_all
    rw [hadd, blk_cell (HM.box _ hm).1 (i + j)]
    rw [← hv, List.getElem?_take] at hu
    split at hu
    · rw [List.getElem?_drop] at hu; simpa using hu
    · cases hu)
  unfold execOp
  rw [hl] at hcs
  simp only [ho, hx, Instr.loadAt, Instr.sureAddr, Sem.run_bind, Sem.run_pure, Result.andThen_ok, loadVar, hr.1, hr.2, hcs, if_true]
/-- Cells known one by one are read as a struct. -/
theorem load_at {p : Addr} (hw : Region.wanted o (yielded ops a.tmps) = true) (ho : o.op = .load ty x) (hx : a.eval x = .pointer (some p)) (ha : aggN Pr ty n = true) (vs : List Value) (hv : ∀ j u, vs[j]? = some u → W.cell? (p.add j) = some u) (hl : vs.length = n)
    (h : wpList Pr ops Q rest (a.put o.dst (.agg vs.toArray)) W) : wpList Pr ops Q (o :: rest) a W := by
  refine step_value hw ?_ h
  have hr := run_agg_yes (W := W) ha
  have hcs := run_loadCells_list (P := Pr) W p vs hv
  unfold execOp
  rw [hl] at hcs
  simp only [ho, hx, Instr.loadAt, Instr.sureAddr, Sem.run_bind, Sem.run_pure, Result.andThen_ok, loadVar, hr.1, hr.2, hcs, if_true]
/-- A cell of a box is written. -/
theorem store_cell (HM : Mem w0 P W B S) (hw : Region.wanted o (yielded ops a.tmps) = true) (ho : o.op = .store ty x y) (hx : a.eval x = .pointer (some ⟨g, i, none⟩)) (hm : B[n]? = some (g, cs, t)) (hy : a.eval y = v) (hs : (Pr.info? ty).map (·.size) = some 1)
    (h1 : v.cells = #[v] ∧ v.oneCell' = true) (hi : i < cs.length) (h : ∀ W1, Mem w0 P W1 (B.set n (g, cs.set i v, t)) S → wpList Pr ops Q rest (a.put o.dst undef) W1) : wpList Pr ops Q (o :: rest) a W := by
  have hbx := (HM.box _ (List.mem_of_getElem? hm)).1
  have hset : W.setCell ⟨g, i, none⟩ v = W.setRow g (cs.set i v).toArray := by
    rw [setCell_eq_setRow W g i cs.toArray t (0, 0) v hbx]
    congr 1
    simp
  refine step_skip hw ?_ (h _ (HM.set hm (cs.set i v)))
  have hc : W.cell? ⟨g, i, none⟩ = some cs[i] := (blk_cell hbx i).trans (by simp [hi])
  have hf : W.frozen? ⟨g, i, none⟩ = false := blk_frozen hbx i
  have hadd : (⟨g, i, none⟩ : Addr).add 0 = ⟨g, i, none⟩ := by unfold Addr.add; split <;> simp_all
  have hst : (store (⟨g, i, none⟩ : Addr) v).run Pr W = .ok () (W.setRow g (cs.set i v).toArray) := by
    rw [run_store Pr W _ v _ h1.2, hc]
    simp only [hf, Bool.false_eq_true, if_false]
    rw [hset]
  cases hq : Pr.info? ty with
  | none => rw [hq] at hs; simp at hs
  | some inf =>
    rw [hq] at hs
    have : inf.size = 1 := by simpa using hs
    unfold execOp
    simp [ho, hx, hy, Instr.storeAt, Instr.sureAddr, storeVar, sizeOf, typeInfo, hq, this, h1.1, storeCells, hadd, hst]
/-- A struct within a box is written. -/
theorem store_part (HM : Mem w0 P W B S) (hw : Region.wanted o (yielded ops a.tmps) = true) (ho : o.op = .store ty x y) (hx : a.eval x = .pointer (some ⟨g, i, none⟩)) (hm : B[n]? = some (g, cs, t)) (vs : List Value) (hy : a.eval y = .agg vs.toArray) (hs : (Pr.info? ty).map (·.size) = some vs.length)
    (h1 : ∀ u ∈ vs, u.oneCell' = true) (hi : i + vs.length ≤ cs.length) (h : ∀ W1, Mem w0 P W1 (B.set n (g, cs.take i ++ vs ++ cs.drop (i + vs.length), t)) S → wpList Pr ops Q rest (a.put o.dst undef) W1) : wpList Pr ops Q (o :: rest) a W := by
  have hbx := (HM.box _ (List.mem_of_getElem? hm)).1
  refine step_skip hw ?_ (h _ (HM.set hm _))
  have hst := run_storeCells_at (P := Pr) g i t vs 0 cs.toArray W hbx (by simpa using hi) h1
  simp only [Nat.add_zero] at hst
  cases hq : Pr.info? ty with
  | none => rw [hq] at hs; simp at hs
  | some inf =>
    rw [hq] at hs
    have : inf.size = vs.length := by simpa using hs
    unfold execOp
    simp [ho, hx, hy, Instr.storeAt, Instr.sureAddr, storeVar, sizeOf, typeInfo, hq, this, Value.cells, hst]
/-- A whole box is read; is written. -/
theorem load_all (HM : Mem w0 P W B S) (hw : Region.wanted o (yielded ops a.tmps) = true) (ho : o.op = .load ty x) (hx : a.eval x = .pointer (some ⟨g, 0, none⟩)) (hm : (g, cs, t) ∈ B) (ha : aggN Pr ty n = true) (hl : cs.length = n)
    (h : wpList Pr ops Q rest (a.put o.dst (.agg cs.toArray)) W) : wpList Pr ops Q (o :: rest) a W :=
  load_part HM hw ho hx hm ha cs (by rw [List.drop_zero, List.take_of_length_le (by omega)]) hl h
theorem store_all (HM : Mem w0 P W B S) (hw : Region.wanted o (yielded ops a.tmps) = true) (ho : o.op = .store ty x y) (hx : a.eval x = .pointer (some ⟨g, 0, none⟩)) (hm : B[n]? = some (g, cs, t)) (vs : List Value) (hy : a.eval y = .agg vs.toArray) (hs : (Pr.info? ty).map (·.size) = some vs.length)
    (h1 : ∀ u ∈ vs, u.oneCell' = true) (hi : cs.length = vs.length) (h : ∀ W1, Mem w0 P W1 (B.set n (g, vs, t)) S → wpList Pr ops Q rest (a.put o.dst undef) W1) : wpList Pr ops Q (o :: rest) a W :=
  store_part HM hw ho hx hm vs hy hs h1 (by omega) (fun W1 hM => h W1 (by
    rw [List.take_zero, List.nil_append, List.drop_of_length_le (by omega), List.append_nil] at hM
    exact hM))
theorem m0 {x : Bx} {B : List Bx} : x ∈ x :: B := .head _
theorem m1 {x0 x : Bx} {B : List Bx} : x ∈ x0 :: x :: B := .tail _ (.head _)
theorem m2 {x0 x1 x : Bx} {B : List Bx} : x ∈ x0 :: x1 :: x :: B := .tail _ (.tail _ (.head _))
theorem m3 {x0 x1 x2 x : Bx} {B : List Bx} : x ∈ x0 :: x1 :: x2 :: x :: B := .tail _ (.tail _ (.tail _ (.head _)))
theorem m4 {x0 x1 x2 x3 x : Bx} {B : List Bx} : x ∈ x0 :: x1 :: x2 :: x3 :: x :: B := .tail _ (.tail _ (.tail _ (.tail _ (.head _))))
theorem m5 {x0 x1 x2 x3 x4 x : Bx} {B : List Bx} : x ∈ x0 :: x1 :: x2 :: x3 :: x4 :: x :: B := .tail _ (.tail _ (.tail _ (.tail _ (.tail _ (.head _)))))
theorem m6 {x0 x1 x2 x3 x4 x5 x : Bx} {B : List Bx} : x ∈ x0 :: x1 :: x2 :: x3 :: x4 :: x5 :: x :: B := .tail _ (.tail _ (.tail _ (.tail _ (.tail _ (.tail _ (.head _))))))
theorem m7 {x0 x1 x2 x3 x4 x5 x6 x : Bx} {B : List Bx} : x ∈ x0 :: x1 :: x2 :: x3 :: x4 :: x5 :: x6 :: x :: B := .tail _ (.tail _ (.tail _ (.tail _ (.tail _ (.tail _ (.tail _ (.head _)))))))
theorem at0 {x : Bx} {B : List Bx} : (x :: B)[0]? = some x := rfl
theorem at1 {x0 x : Bx} {B : List Bx} : (x0 :: x :: B)[1]? = some x := rfl
theorem at2 {x0 x1 x : Bx} {B : List Bx} : (x0 :: x1 :: x :: B)[2]? = some x := rfl
theorem at3 {x0 x1 x2 x : Bx} {B : List Bx} : (x0 :: x1 :: x2 :: x :: B)[3]? = some x := rfl
theorem at4 {x0 x1 x2 x3 x : Bx} {B : List Bx} : (x0 :: x1 :: x2 :: x3 :: x :: B)[4]? = some x := rfl
theorem at5 {x0 x1 x2 x3 x4 x : Bx} {B : List Bx} : (x0 :: x1 :: x2 :: x3 :: x4 :: x :: B)[5]? = some x := rfl
theorem at6 {x0 x1 x2 x3 x4 x5 x : Bx} {B : List Bx} : (x0 :: x1 :: x2 :: x3 :: x4 :: x5 :: x :: B)[6]? = some x := rfl
theorem at7 {x0 x1 x2 x3 x4 x5 x6 x : Bx} {B : List Bx} : (x0 :: x1 :: x2 :: x3 :: x4 :: x5 :: x6 :: x :: B)[7]? = some x := rfl
/-- A struct is put into a new box. -/
theorem box_new (HM : Mem w0 P W B S) (hw : Region.wanted o (yielded ops a.tmps) = true) (ho : o.op = .box ty x) (cs : List Value) (hx : a.eval x = .agg cs.toArray)
    (h : ∀ g W1, Mem w0 P W1 ((g, cs, ty) :: B) S → wpList Pr ops Q rest (a.put o.dst (.pointer (some ⟨g, 0, none⟩))) W1) : wpList Pr ops Q (o :: rest) a W := by
  refine step_value (W1 := W.alloc (.cells cs.toArray ty)) hw ?_ (h _ _ (HM.new rfl (blk_new W _) (below_alloc (Below.refl _ _) _)))
  unfold execOp
  simp [ho, hx, Instr.box, newVar, newRow, Value.cells]
/-- A value of one cell is put into a new box. -/
theorem box_one (HM : Mem w0 P W B S) (hw : Region.wanted o (yielded ops a.tmps) = true) (ho : o.op = .box ty x) (hx : a.eval x = v) (h1 : v.cells = #[v])
    (h : ∀ g W1, Mem w0 P W1 ((g, [v], ty) :: B) S → wpList Pr ops Q rest (a.put o.dst (.pointer (some ⟨g, 0, none⟩))) W1) : wpList Pr ops Q (o :: rest) a W := by
  refine step_value (W1 := W.alloc (.cells #[v] ty)) hw ?_ (h _ _ (HM.new rfl (blk_new W _) (below_alloc (Below.refl _ _) _)))
  unfold execOp
  simp [ho, hx, Instr.box, newVar, newRow, h1]
/-- A new box of noughts. -/
theorem box_zero (HM : Mem w0 P W B S) (hw : Region.wanted o (yielded ops a.tmps) = true) (ho : o.op = .alloc ty) (hz : (Pr.info? ty).map (·.zero) = some (some v)) (cs : List Value) (hc : v.cells = cs.toArray)
    (h : ∀ g W1, Mem w0 P W1 ((g, cs, ty) :: B) S → wpList Pr ops Q rest (a.put o.dst (.pointer (some ⟨g, 0, none⟩))) W1) : wpList Pr ops Q (o :: rest) a W := by
  refine step_value (W1 := W.alloc (.cells cs.toArray ty)) hw ?_ (h _ _ (HM.new rfl (blk_new W _) (below_alloc (Below.refl _ _) _)))
  cases hq : Pr.info? ty with
  | none => rw [hq] at hz; simp at hz
  | some inf =>
    rw [hq] at hz
    have : inf.zero = some v := by simpa using hz
    unfold execOp
    simp [ho, Instr.alloc, zeroValue, typeInfo, hq, this, newVar, newRow, hc]
end
end Go.Proofs.YtimbefkiledbdaaGreatDoor.Mem
