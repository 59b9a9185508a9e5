/- joined by xlay.py: EMem, EMemReg, EMemRow -/
import Derived.Test.YtolpamojbiipaaaDoorXA0
import Derived.WalkMore
import Derived.Laws.CopyRow
import Derived.Maps.AppendAt
/- The own boxes of a walk as one fact (Mem), and the steps that read and write them. -/



namespace Go.Proofs.YtolpamojbiipaaaDoor.Mem
open Go.RowKit Go.Proofs.YtolpamojbiipaaaDoorW.PrintWords Go.Proofs.YtolpamojbiipaaaDoorW.PrintLast Go.Proofs.YtolpamojbiipaaaDoorW.PrintMore
set_option linter.unusedVariables false
set_option linter.unusedSimpArgs false

abbrev Bx := Nat × List Value × TypeId
/-- Since w0: the own boxes B (block, cells, type); what is known, S, leans on blocks of P and new ones that are no boxes. -/
structure Mem (w0 : World) (P : Nat → Prop) (W : World) (B : List Bx) (S : World → Prop) : Prop where
  below : Below w0.heap.size w0 W
  box : ∀ x, x ∈ B → W.heap[x.1]? = some (.cells x.2.1.toArray x.2.2 (0, 0)) ∧ w0.heap.size ≤ x.1
  apart : (B.map (·.1)).Nodup
  keep : ∀ W' : World, (∀ k, k < W.heap.size → k ∉ B.map (·.1) → (P k ∨ w0.heap.size ≤ k) → W'.heap[k]? = W.heap[k]?) → S W'
variable {w0 W W' W1 : World} {P : Nat → Prop} {B : List Bx} {S S' : World → Prop} {g : Nat} {cs cs' : List Value} {t : TypeId}
theorem Mem.start (h : ∀ W' : World, (∀ k, k < W.heap.size → P k → W'.heap[k]? = W.heap[k]?) → S W') : Mem W P W [] S :=
  ⟨Below.refl _ _, (fun x hx => by cases hx), List.nodup_nil, fun W' h' => h W' (fun k hk hp => h' k hk (by simp) (.inl hp))⟩
theorem Mem.now (h : Mem w0 P W B S) : S W := h.keep W (fun _ _ _ _ => rfl)
theorem Mem.imp (h : Mem w0 P W B S) (hi : ∀ W, S W → S' W) : Mem w0 P W B S' := ⟨h.below, h.box, h.apart, fun W' hW => hi W' (h.keep W' hW)⟩
theorem Mem.call (h : Mem w0 P W B S) (hb : Below W.heap.size W W1) : Mem w0 P W1 B S :=
  ⟨h.below.trans (hb.mono h.below.size), fun x hx => ⟨(hb.block _ (blk_lt (h.box x hx).1)).trans (h.box x hx).1, (h.box x hx).2⟩, h.apart,
   fun W' hW => h.keep W' (fun k hk hn hp => (hW k (Nat.lt_of_lt_of_le hk hb.size) hn hp).trans (hb.block k hk))⟩
/-- A call's new knowledge, told by what it leans on. -/
theorem Mem.add (h : Mem w0 P W B S) (hb : Below W.heap.size W W1) (hs : ∀ W' : World, (∀ k, k < W1.heap.size → ((k ∉ B.map (·.1) ∧ (P k ∨ w0.heap.size ≤ k)) ∨ W.heap.size ≤ k) → W'.heap[k]? = W1.heap[k]?) → S' W') : Mem w0 P W1 B (fun w => S w ∧ S' w) :=
  ⟨(h.call hb).below, (h.call hb).box, h.apart, fun W' hW => ⟨(h.call hb).keep W' hW, hs W' (fun k hk hp => hW k hk (by
    rcases hp with hp | hp
    · exact hp.1
    · intro hm
      obtain ⟨x, hx, rfl⟩ := List.mem_map.1 hm
      have := blk_lt (h.box x hx).1
      omega) (by
    rcases hp with hp | hp
    · exact hp.2
    · exact .inr (Nat.le_trans h.below.size hp)))⟩⟩
theorem Mem.old (h : Mem w0 P W B S) : ∀ W' : World, (∀ k, k < W.heap.size → (k ∉ B.map (·.1) ∧ (P k ∨ w0.heap.size ≤ k)) → W'.heap[k]? = W.heap[k]?) → S W' := fun W' hW => h.keep W' (fun k hk h1 h2 => hW k hk ⟨h1, h2⟩)
theorem Mem.drop {x : Bx} (h : Mem w0 P W (x :: B) S) : Mem w0 P W B S :=
  ⟨h.below, fun y hy => h.box y (List.mem_cons_of_mem _ hy), (List.nodup_cons.1 (by simpa using h.apart)).2, fun W' hW => h.keep W' (fun k hk hn hp => hW k hk (fun hm => hn (by simp only [List.map_cons, List.mem_cons]; exact .inr hm)) hp)⟩
theorem Mem.bare (h : Mem w0 P W B S) : Mem w0 P W [] S := by
  induction B with
  | nil => exact h
  | cons x B ih => exact ih h.drop
/-- What is told of a result when the call ends. -/
theorem Mem.last (h : Mem w0 P W B S) : ∀ W' : World, (∀ k, (P k ∨ w0.heap.size ≤ k) → k < W.heap.size → W'.heap[k]? = W.heap[k]?) → S W' := fun W' hW => h.keep W' (fun k hk _ hp => hW k hp hk)
theorem Mem.new (h : Mem w0 P W B S) (hg : g = W.heap.size) (hc : W1.heap[g]? = some (.cells cs.toArray t (0, 0))) (hb : Below W.heap.size W W1) : Mem w0 P W1 ((g, cs, t) :: B) S := by
  have h1 := h.call hb
  refine ⟨h1.below, fun x hx => ?_, ?_, fun W' hW => ?_⟩
  · rcases List.mem_cons.1 hx with rfl | hx
    · exact ⟨hc, by rw [hg]; exact h.below.size⟩
    · exact h1.box x hx
  · simp only [List.map_cons, List.nodup_cons]
    refine ⟨fun hm => ?_, h.apart⟩
    obtain ⟨x, hx, e⟩ := List.mem_map.1 hm
    have := blk_lt (h.box x hx).1
    omega
  · refine h.keep W' (fun k hk hn hp => (hW k (Nat.lt_of_lt_of_le hk hb.size) ?_ hp).trans (hb.block k hk))
    simp only [List.map_cons, List.mem_cons, not_or]
    exact ⟨by omega, hn⟩
theorem set_fst {n : Nat} (hn : B[n]? = some (g, cs, t)) : (B.set n (g, cs', t)).map (·.1) = B.map (·.1) := by
  rw [List.map_set]
  apply List.ext_getElem?
  intro i
  rw [List.getElem?_set]
  split
  · rename_i e; subst e
    split
    · simp [hn]
    · rename_i hl; simp at hl; simp [List.getElem?_eq_none hl]
  · rfl
theorem Mem.put {n : Nat} (h : Mem w0 P W B S) (hn : B[n]? = some (g, cs, t)) (hc : W1.heap[g]? = some (.cells cs'.toArray t (0, 0))) (ho : ∀ k, k ≠ g → W1.heap[k]? = W.heap[k]?) (hz : W1.heap.size = W.heap.size)
    (hb : Below w0.heap.size w0 W1) : Mem w0 P W1 (B.set n (g, cs', t)) S := by
  have hmem : (g, cs, t) ∈ B := List.mem_of_getElem? hn
  have hnl : n < B.length := (List.getElem?_eq_some_iff.1 hn).1
  refine ⟨hb, fun x hx => ?_, by rw [set_fst hn]; exact h.apart, fun W' hW => ?_⟩
  · obtain ⟨i, hi, e⟩ := List.getElem_of_mem hx
    rw [List.getElem_set] at e
    split at e
    · subst e; exact ⟨hc, (h.box _ hmem).2⟩
    · rename_i hne
      have hi' : i < B.length := by simpa using hi
      have hx' : x ∈ B := e ▸ List.getElem_mem hi'
      have hne' : x.1 ≠ g := by
        intro e2
        have := List.pairwise_iff_getElem.1 h.apart
        have hg' : (B.map (·.1))[n]'(by simpa using hnl) = g := by simp [(List.getElem?_eq_some_iff.1 hn).2]
        have hx2 : (B.map (·.1))[i]'(by simpa using hi') = g := by simp [e, e2]
        rcases Nat.lt_or_gt_of_ne hne with hl | hl
        · exact this n i (by simpa using hnl) (by simpa using hi') hl (hg'.trans hx2.symm)
        · exact this i n (by simpa using hi') (by simpa using hnl) hl (hx2.trans hg'.symm)
      exact ⟨(ho _ hne').trans (h.box x hx').1, (h.box x hx').2⟩
  · rw [set_fst hn] at hW
    refine h.keep W' (fun k hk hn' hp => (hW k (by omega) hn' hp).trans (ho k (fun e => hn' ?_)))
    rw [e]
    exact List.mem_map.2 ⟨_, hmem, rfl⟩
theorem Mem.set {n : Nat} (h : Mem w0 P W B S) (hn : B[n]? = some (g, cs, t)) (cs' : List Value) : Mem w0 P (W.setRow g cs'.toArray) (B.set n (g, cs', t)) S := by
  have hm := h.box _ (List.mem_of_getElem? hn)
  refine h.put hn (setRow_heap _ _ _ _ _ _ hm.1) (fun k hk => setRow_other _ _ _ _ hk) (setRow_size _ _ _) ?_
  have hw := h.below
  exact ⟨hw.os, hw.tape, hw.output, by rw [setRow_size]; exact hw.size, fun k hk => (setRow_other _ _ _ _ (by have := hm.2; simp only at this; omega)).trans (hw.block k hk)⟩

section
variable {Pr : Program} {ty : TypeId} {n : Nat}
def aggB (Pr : Program) (ty : TypeId) : Bool := match Pr.underlying ty with | some (.struct _) => true | some (.array _ _) => true | none => true | _ => false
theorem run_agg_no (h : aggB Pr ty = false) : (isAgg ty).run Pr W = .ok false W := by
  unfold aggB at h
  cases hu : Pr.underlying ty with
  | none => rw [hu] at h; cases h
  | some d =>
    unfold isAgg
    rw [Sem.run_bind, run_underlying hu W]
    rw [hu] at h
    cases d <;> first | rfl | simp_all
/-- Of a type of so many cells that is a struct. -/
def aggN (Pr : Program) (ty : TypeId) (n : Nat) : Bool := match Pr.underlying ty with | some (.struct _) => (Pr.info? ty).map (·.size) == some n | some (.array _ _) => (Pr.info? ty).map (·.size) == some n | _ => false
theorem run_agg_yes (h : aggN Pr ty n = true) : (isAgg ty).run Pr W = .ok true W ∧ (sizeOf ty).run Pr W = .ok n W := by
  unfold aggN at h
  cases hu : Pr.underlying ty with
  | none => rw [hu] at h; cases h
  | some d =>
    rw [hu] at h
    have hi : (Pr.info? ty).map (·.size) = some n := by
      cases d <;> first | (exact beq_iff_eq.1 h) | exact absurd h (by simp)
    refine ⟨?_, ?_⟩
    · unfold isAgg
      rw [Sem.run_bind, run_underlying hu W]
      cases d <;> first | rfl | exact absurd h (by simp)
    · cases hq : Pr.info? ty with
      | none => rw [hq] at hi; simp at hi
      | some inf =>
        rw [hq] at hi
        have : inf.size = n := by simpa using hi
        simp [sizeOf, typeInfo, hq, this]
end
/-- The end of a call: a struct in a box, and a slot; a struct alone; two of them. -/
theorem loadVar_box {Pr : Program} {ty : TypeId} (HM : Mem w0 P W B S) (hm : (g, cs, t) ∈ B) (ha : aggN Pr ty cs.length = true) : (loadVar ty ⟨g, 0, none⟩).run Pr W = .ok (.agg cs.toArray) W := by
  have hr := run_agg_yes (W := W) ha
  have hcs : (loadCells ⟨g, 0, none⟩ cs.length).run Pr W = .ok cs.toArray W := run_loadCells_list (P := Pr) W ⟨g, 0, none⟩ cs (fun j u hu => by
    have hadd : (⟨g, 0, none⟩ : Addr).add j = ⟨g, j, none⟩ := by unfold Addr.add; split <;> simp_all
    rw [hadd, blk_cell (HM.box _ hm).1 j]
    simpa using hu)
  simp only [loadVar, Sem.run_bind, Result.andThen_ok, hr.1, hr.2, hcs, if_true, Sem.run_pure]
theorem ret_ct {Pr : Program} {fn : Func} {p u : Tmp} {ty : TypeId} {tmps : Array Value} (HM : Mem w0 P W B S) (h : fn.results = #[.cell p ty, .tmp u]) (hp : tmps.getD p undef = .pointer (some ⟨g, 0, none⟩)) (hm : (g, cs, t) ∈ B) (ha : aggN Pr ty cs.length = true) :
    (results fn tmps).run Pr W = .ok (.tuple #[.agg cs.toArray, tmps.getD u undef]) W := by
  have hp' : tmps[p]?.getD undef = .pointer (some ⟨g, 0, none⟩) := by simpa using hp
  simp [results, h, hp', asAddr, loadVar_box HM hm ha]
theorem ret_c {Pr : Program} {fn : Func} {p : Tmp} {ty : TypeId} {tmps : Array Value} (HM : Mem w0 P W B S) (h : fn.results = #[.cell p ty]) (hp : tmps.getD p undef = .pointer (some ⟨g, 0, none⟩)) (hm : (g, cs, t) ∈ B) (ha : aggN Pr ty cs.length = true) :
    (results fn tmps).run Pr W = .ok (.agg cs.toArray) W := by
  have hp' : tmps[p]?.getD undef = .pointer (some ⟨g, 0, none⟩) := by simpa using hp
  simp [results, h, hp', asAddr, loadVar_box HM hm ha]
theorem ret_cc {Pr : Program} {fn : Func} {p u : Tmp} {ty ty' : TypeId} {g' : Nat} {cs' : List Value} {t' : TypeId} {tmps : Array Value} (HM : Mem w0 P W B S) (h : fn.results = #[.cell p ty, .cell u ty']) (hp : tmps.getD p undef = .pointer (some ⟨g, 0, none⟩)) (hm : (g, cs, t) ∈ B) (ha : aggN Pr ty cs.length = true)
    (hp2 : tmps.getD u undef = .pointer (some ⟨g', 0, none⟩)) (hm' : (g', cs', t') ∈ B) (ha' : aggN Pr ty' cs'.length = true) :
    (results fn tmps).run Pr W = .ok (.tuple #[.agg cs.toArray, .agg cs'.toArray]) W := by
  have h1 : tmps[p]?.getD undef = .pointer (some ⟨g, 0, none⟩) := by simpa using hp
  have h2 : tmps[u]?.getD undef = .pointer (some ⟨g', 0, none⟩) := by simpa using hp2
  simp [results, h, h1, h2, asAddr, loadVar_box HM hm ha, loadVar_box HM hm' ha']

/-! The steps. -/
section
variable {Pr : Program} {ops : Array Oper} {rest : List Oper} {o : Oper} {a : Act} {Q : Exit → Act → World → Prop} {x y : Operand} {ty : TypeId} {i n : Nat} {v : Value}
theorem step_value (hw : Region.wanted o (yielded ops a.tmps) = true) (hr : (execOp a.eval o).run Pr W = .ok (.value v) W1) (h : wpList Pr ops Q rest (a.put o.dst v) W1) : wpList Pr ops Q (o :: rest) a W :=
  wpList_step fun K hK => by rw [if_pos hw]; unfold Oper.wp; rw [hr]; exact hK _ _ h
theorem step_skip (hw : Region.wanted o (yielded ops a.tmps) = true) (hr : (execOp a.eval o).run Pr W = .ok .skip W1) (h : wpList Pr ops Q rest (a.put o.dst undef) W1) : wpList Pr ops Q (o :: rest) a W :=
  wpList_step fun K hK => by rw [if_pos hw]; unfold Oper.wp; rw [hr]; exact hK _ _ h
/-- A cell of a box is read. -/
theorem load_cell (HM : Mem w0 P W B S) (hw : Region.wanted o (yielded ops a.tmps) = true) (ho : o.op = .load ty x) (hx : a.eval x = .pointer (some ⟨g, i, none⟩)) (hm : (g, cs, t) ∈ B) (ha : aggB Pr ty = false) (hv : cs[i]? = some v)
    (h : wpList Pr ops Q rest (a.put o.dst v) W) : wpList Pr ops Q (o :: rest) a W := by
  refine step_value hw ?_ h
  have hc : W.cell? ⟨g, i, none⟩ = some v := (blk_cell (HM.box _ hm).1 i).trans (by simpa using hv)
  unfold execOp
  simp only [ho, hx, Instr.loadAt, Instr.sureAddr, Sem.run_bind, Sem.run_pure, Result.andThen_ok, loadVar, run_agg_no ha, run_load, hc, Bool.false_eq_true, if_false]
/-- A struct within a box is read. -/
theorem load_part (HM : Mem w0 P W B S) (hw : Region.wanted o (yielded ops a.tmps) = true) (ho : o.op = .load ty x) (hx : a.eval x = .pointer (some ⟨g, i, none⟩)) (hm : (g, cs, t) ∈ B) (ha : aggN Pr ty n = true) (vs : List Value) (hv : (cs.drop i).take n = vs) (hl : vs.length = n)
    (h : wpList Pr ops Q rest (a.put o.dst (.agg vs.toArray)) W) : wpList Pr ops Q (o :: rest) a W := by
  refine step_value hw ?_ h
  have hr := run_agg_yes (W := W) ha
  have hcs : (loadCells ⟨g, i, none⟩ vs.length).run Pr W = .ok vs.toArray W := run_loadCells_list (P := Pr) W ⟨g, i, none⟩ vs (fun j u hu => by
    have hadd : (⟨g, i, none⟩ : Addr).add j = ⟨g, i + j, none⟩ := by unfold Addr.add; split <;> simp_all
    rw [hadd, blk_cell (HM.box _ hm).1 (i + j)]
    rw [← hv, List.getElem?_take] at hu
    split at hu
    · rw [List.getElem?_drop] at hu; simpa using hu
    · cases hu)
  unfold execOp
  rw [hl] at hcs
  simp only [ho, hx, Instr.loadAt, Instr.sureAddr, Sem.run_bind, Sem.run_pure, Result.andThen_ok, loadVar, hr.1, hr.2, hcs, if_true]
/-- Cells known one by one are read as a struct. -/
theorem load_at {p : Addr} (hw : Region.wanted o (yielded ops a.tmps) = true) (ho : o.op = .load ty x) (hx : a.eval x = .pointer (some p)) (ha : aggN Pr ty n = true) (vs : List Value) (hv : ∀ j u, vs[j]? = some u → W.cell? (p.add j) = some u) (hl : vs.length = n)
    (h : wpList Pr ops Q rest (a.put o.dst (.agg vs.toArray)) W) : wpList Pr ops Q (o :: rest) a W := by
  refine step_value hw ?_ h
  have hr := run_agg_yes (W := W) ha
  have hcs := run_loadCells_list (P := Pr) W p vs hv
  unfold execOp
  rw [hl] at hcs
  simp only [ho, hx, Instr.loadAt, Instr.sureAddr, Sem.run_bind, Sem.run_pure, Result.andThen_ok, loadVar, hr.1, hr.2, hcs, if_true]
/-- A cell of a box is written. -/
theorem store_cell (HM : Mem w0 P W B S) (hw : Region.wanted o (yielded ops a.tmps) = true) (ho : o.op = .store ty x y) (hx : a.eval x = .pointer (some ⟨g, i, none⟩)) (hm : B[n]? = some (g, cs, t)) (hy : a.eval y = v) (hs : (Pr.info? ty).map (·.size) = some 1)
    (h1 : v.cells = #[v] ∧ v.oneCell' = true) (hi : i < cs.length) (h : ∀ W1, Mem w0 P W1 (B.set n (g, cs.set i v, t)) S → wpList Pr ops Q rest (a.put o.dst undef) W1) : wpList Pr ops Q (o :: rest) a W := by
  have hbx := (HM.box _ (List.mem_of_getElem? hm)).1
  have hset : W.setCell ⟨g, i, none⟩ v = W.setRow g (cs.set i v).toArray := by
    rw [setCell_eq_setRow W g i cs.toArray t (0, 0) v hbx]
    congr 1
    simp
  refine step_skip hw ?_ (h _ (HM.set hm (cs.set i v)))
  have hc : W.cell? ⟨g, i, none⟩ = some cs[i] := (blk_cell hbx i).trans (by simp [hi])
  have hf : W.frozen? ⟨g, i, none⟩ = false := blk_frozen hbx i
  have hadd : (⟨g, i, none⟩ : Addr).add 0 = ⟨g, i, none⟩ := by unfold Addr.add; split <;> simp_all
  have hst : (store (⟨g, i, none⟩ : Addr) v).run Pr W = .ok () (W.setRow g (cs.set i v).toArray) := by
    rw [run_store Pr W _ v _ h1.2, hc]
    simp only [hf, Bool.false_eq_true, if_false]
    rw [hset]
  cases hq : Pr.info? ty with
  | none => rw [hq] at hs; simp at hs
  | some inf =>
    rw [hq] at hs
    have : inf.size = 1 := by simpa using hs
    unfold execOp
    simp [ho, hx, hy, Instr.storeAt, Instr.sureAddr, storeVar, sizeOf, typeInfo, hq, this, h1.1, storeCells, hadd, hst]
/-- A struct within a box is written. -/
theorem store_part (HM : Mem w0 P W B S) (hw : Region.wanted o (yielded ops a.tmps) = true) (ho : o.op = .store ty x y) (hx : a.eval x = .pointer (some ⟨g, i, none⟩)) (hm : B[n]? = some (g, cs, t)) (vs : List Value) (hy : a.eval y = .agg vs.toArray) (hs : (Pr.info? ty).map (·.size) = some vs.length)
    (h1 : ∀ u ∈ vs, u.oneCell' = true) (hi : i + vs.length ≤ cs.length) (h : ∀ W1, Mem w0 P W1 (B.set n (g, cs.take i ++ vs ++ cs.drop (i + vs.length), t)) S → wpList Pr ops Q rest (a.put o.dst undef) W1) : wpList Pr ops Q (o :: rest) a W := by
  have hbx := (HM.box _ (List.mem_of_getElem? hm)).1
  refine step_skip hw ?_ (h _ (HM.set hm _))
  have hst := run_storeCells_at (P := Pr) g i t vs 0 cs.toArray W hbx (by simpa using hi) h1
  simp only [Nat.add_zero] at hst
  cases hq : Pr.info? ty with
  | none => rw [hq] at hs; simp at hs
  | some inf =>
    rw [hq] at hs
    have : inf.size = vs.length := by simpa using hs
    unfold execOp
    simp [ho, hx, hy, Instr.storeAt, Instr.sureAddr, storeVar, sizeOf, typeInfo, hq, this, Value.cells, hst]
/-- A whole box is read; is written. -/
theorem load_all (HM : Mem w0 P W B S) (hw : Region.wanted o (yielded ops a.tmps) = true) (ho : o.op = .load ty x) (hx : a.eval x = .pointer (some ⟨g, 0, none⟩)) (hm : (g, cs, t) ∈ B) (ha : aggN Pr ty n = true) (hl : cs.length = n)
    (h : wpList Pr ops Q rest (a.put o.dst (.agg cs.toArray)) W) : wpList Pr ops Q (o :: rest) a W :=
  load_part HM hw ho hx hm ha cs (by rw [List.drop_zero, List.take_of_length_le (by omega)]) hl h
theorem store_all (HM : Mem w0 P W B S) (hw : Region.wanted o (yielded ops a.tmps) = true) (ho : o.op = .store ty x y) (hx : a.eval x = .pointer (some ⟨g, 0, none⟩)) (hm : B[n]? = some (g, cs, t)) (vs : List Value) (hy : a.eval y = .agg vs.toArray) (hs : (Pr.info? ty).map (·.size) = some vs.length)
    (h1 : ∀ u ∈ vs, u.oneCell' = true) (hi : cs.length = vs.length) (h : ∀ W1, Mem w0 P W1 (B.set n (g, vs, t)) S → wpList Pr ops Q rest (a.put o.dst undef) W1) : wpList Pr ops Q (o :: rest) a W :=
  store_part HM hw ho hx hm vs hy hs h1 (by omega) (fun W1 hM => h W1 (by
    rw [List.take_zero, List.nil_append, List.drop_of_length_le (by omega), List.append_nil] at hM
    exact hM))
theorem m0 {x : Bx} {B : List Bx} : x ∈ x :: B := .head _
theorem m1 {x0 x : Bx} {B : List Bx} : x ∈ x0 :: x :: B := .tail _ (.head _)
theorem m2 {x0 x1 x : Bx} {B : List Bx} : x ∈ x0 :: x1 :: x :: B := .tail _ (.tail _ (.head _))
theorem m3 {x0 x1 x2 x : Bx} {B : List Bx} : x ∈ x0 :: x1 :: x2 :: x :: B := .tail _ (.tail _ (.tail _ (.head _)))
theorem m4 {x0 x1 x2 x3 x : Bx} {B : List Bx} : x ∈ x0 :: x1 :: x2 :: x3 :: x :: B := .tail _ (.tail _ (.tail _ (.tail _ (.head _))))
theorem m5 {x0 x1 x2 x3 x4 x : Bx} {B : List Bx} : x ∈ x0 :: x1 :: x2 :: x3 :: x4 :: x :: B := .tail _ (.tail _ (.tail _ (.tail _ (.tail _ (.head _)))))
theorem m6 {x0 x1 x2 x3 x4 x5 x : Bx} {B : List Bx} : x ∈ x0 :: x1 :: x2 :: x3 :: x4 :: x5 :: x :: B := .tail _ (.tail _ (.tail _ (.tail _ (.tail _ (.tail _ (.head _))))))
theorem m7 {x0 x1 x2 x3 x4 x5 x6 x : Bx} {B : List Bx} : x ∈ x0 :: x1 :: x2 :: x3 :: x4 :: x5 :: x6 :: x :: B := .tail _ (.tail _ (.tail _ (.tail _ (.tail _ (.tail _ (.tail _ (.head _)))))))
theorem at0 {x : Bx} {B : List Bx} : (x :: B)[0]? = some x := rfl
theorem at1 {x0 x : Bx} {B : List Bx} : (x0 :: x :: B)[1]? = some x := rfl
theorem at2 {x0 x1 x : Bx} {B : List Bx} : (x0 :: x1 :: x :: B)[2]? = some x := rfl
theorem at3 {x0 x1 x2 x : Bx} {B : List Bx} : (x0 :: x1 :: x2 :: x :: B)[3]? = some x := rfl
theorem at4 {x0 x1 x2 x3 x : Bx} {B : List Bx} : (x0 :: x1 :: x2 :: x3 :: x :: B)[4]? = some x := rfl
theorem at5 {x0 x1 x2 x3 x4 x : Bx} {B : List Bx} : (x0 :: x1 :: x2 :: x3 :: x4 :: x :: B)[5]? = some x := rfl
theorem at6 {x0 x1 x2 x3 x4 x5 x : Bx} {B : List Bx} : (x0 :: x1 :: x2 :: x3 :: x4 :: x5 :: x :: B)[6]? = some x := rfl
theorem at7 {x0 x1 x2 x3 x4 x5 x6 x : Bx} {B : List Bx} : (x0 :: x1 :: x2 :: x3 :: x4 :: x5 :: x6 :: x :: B)[7]? = some x := rfl
/-- A struct is put into a new box. -/
theorem box_new (HM : Mem w0 P W B S) (hw : Region.wanted o (yielded ops a.tmps) = true) (ho : o.op = .box ty x) (cs : List Value) (hx : a.eval x = .agg cs.toArray)
    (h : ∀ g W1, Mem w0 P W1 ((g, cs, ty) :: B) S → wpList Pr ops Q rest (a.put o.dst (.pointer (some ⟨g, 0, none⟩))) W1) : wpList Pr ops Q (o :: rest) a W := by
  refine step_value (W1 := W.alloc (.cells cs.toArray ty)) hw ?_ (h _ _ (HM.new rfl (blk_new W _) (below_alloc (Below.refl _ _) _)))
  unfold execOp
  simp [ho, hx, Instr.box, newVar, newRow, Value.cells]
/-- A value of one cell is put into a new box. -/
theorem box_one (HM : Mem w0 P W B S) (hw : Region.wanted o (yielded ops a.tmps) = true) (ho : o.op = .box ty x) (hx : a.eval x = v) (h1 : v.cells = #[v])
    (h : ∀ g W1, Mem w0 P W1 ((g, [v], ty) :: B) S → wpList Pr ops Q rest (a.put o.dst (.pointer (some ⟨g, 0, none⟩))) W1) : wpList Pr ops Q (o :: rest) a W := by
  refine step_value (W1 := W.alloc (.cells #[v] ty)) hw ?_ (h _ _ (HM.new rfl (blk_new W _) (below_alloc (Below.refl _ _) _)))
  unfold execOp
  simp [ho, hx, Instr.box, newVar, newRow, h1]
/-- A new box of noughts. -/
theorem box_zero (HM : Mem w0 P W B S) (hw : Region.wanted o (yielded ops a.tmps) = true) (ho : o.op = .alloc ty) (hz : (Pr.info? ty).map (·.zero) = some (some v)) (cs : List Value) (hc : v.cells = cs.toArray)
    (h : ∀ g W1, Mem w0 P W1 ((g, cs, ty) :: B) S → wpList Pr ops Q rest (a.put o.dst (.pointer (some ⟨g, 0, none⟩))) W1) : wpList Pr ops Q (o :: rest) a W := by
  refine step_value (W1 := W.alloc (.cells cs.toArray ty)) hw ?_ (h _ _ (HM.new rfl (blk_new W _) (below_alloc (Below.refl _ _) _)))
  cases hq : Pr.info? ty with
  | none => rw [hq] at hz; simp at hz
  | some inf =>
    rw [hq] at hz
    have : inf.zero = some v := by simpa using hz
    unfold execOp
    simp [ho, Instr.alloc, zeroValue, typeInfo, hq, this, newVar, newRow, hc]
end
end Go.Proofs.YtolpamojbiipaaaDoor.Mem
/- Regions that draw their order, over one fact on the own boxes (Mem): steps. -/

namespace Go.Proofs.YtolpamojbiipaaaDoor.Mem
open Go.RowKit Go.Proofs.YtolpamojbiipaaaDoorW.PrintWords Go.Proofs.YtolpamojbiipaaaDoorW.PrintLast Go.Proofs.YtolpamojbiipaaaDoorW.PrintMore
set_option linter.unusedVariables false
set_option linter.unusedSimpArgs false

/-- The boxes lie in w. -/
def Held (B : List Bx) (w : World) : Prop := ∀ x, x ∈ B → w.heap[x.1]? = some (.cells x.2.1.toArray x.2.2 (0, 0))
variable {w0 W W' W1 w : World} {P : Nat → Prop} {B : List Bx} {S0 : World → Prop} {g : Nat} {cs cs' : List Value} {t : TypeId}
theorem Mem.held (h : Mem w0 P W B S0) : Held B W := fun x hx => (h.box x hx).1
theorem Mem.heldTail {x : Bx} (h : Mem w0 P W (x :: B) S0) : Held B W := fun y hy => (h.box y (List.mem_cons_of_mem _ hy)).1
theorem Mem.heldTail2 {x x' : Bx} (h : Mem w0 P W (x :: x' :: B) S0) : Held B W := fun y hy => (h.box y (List.mem_cons_of_mem _ (List.mem_cons_of_mem _ hy))).1
theorem Mem.drew (h : Mem w0 P W B S0) : Mem w0 P W.drew B S0 := h.call (below_drew (Below.refl _ _))
theorem Mem.swap {x y : Bx} (h : Mem w0 P W (x :: y :: B) S0) : Mem w0 P W (y :: x :: B) S0 :=
  ⟨h.below, fun z hz => h.box z (by simp only [List.mem_cons] at hz ⊢; rcases hz with a | a | a <;> simp [a]), by
    have := h.apart
    simp only [List.map_cons, List.nodup_cons, List.mem_cons, not_or] at this ⊢
    exact ⟨⟨fun e => this.1.1 e.symm, this.2.1⟩, this.1.2, this.2.2⟩, fun W' hW => h.keep W' (fun k hk hn hp => hW k hk (by
      simp only [List.map_cons, List.mem_cons, not_or] at hn ⊢
      exact ⟨hn.2.1, hn.1, hn.2.2⟩) hp)⟩
def fillAll : Act → List (Tmp × Value) → Act
  | a, [] => a
  | a, (n, v) :: r => fillAll (a.put (some n) v) r
section
variable {Pr : Program} {md : Region.Mode} {ops : Array Oper} {ds : List Nat} {o : Oper} {a a' : Act} {Q : Exit → Act → World → Prop} {S : World → Prop} {x y : Operand} {ty : TypeId} {i j n fuel : Nat} {v : Value} {l l' : Array Bool} {N : Option Tmp} {T : Bool × List (List Nat × List Nat)}
theorem r_start {id : Nat} (HM : Mem w0 P W B S0) (l : Array Bool) (hm : Pr.follows .mixedOrders = true) (hn : ops.size = n) (hl : Array.replicate n false = l) (h : ∀ W1, Mem w0 P W1 B S0 → wpAnyLast Pr .any ops Q (Held B) ds n l a W1) : (Code.region id ops true).wp Pr Q a W :=
  start_ l hm hn hl HM.drew.held (fun _ => h _ HM.drew)
theorem ready_of {rs : List Nat} (hT : rtab md ops = T) (h : (readyT T.2 l.toList == rs) = true) : Region.ready md ops l = rs := by
  subst hT
  rw [ready_eq]
  exact beq_iff_eq.1 h
/-- A cell of a box, a whole box: read whenever. -/
theorem r_cell (l' : Array Bool) (hi : ops[i]? = some o) (hN : o.dst = N) (hc : takeB md ops ds l l' i = true) (hQ : ∀ c a w, Q (.panic c) (a.put o.dst v) w → Q (.panic c) a w) (hH : Held B w) (hw : Region.wanted o (yielded ops a.tmps) = true)
    (ho : o.op = .load ty x) (hx : a.eval x = .pointer (some ⟨g, j, none⟩)) (hm : (g, cs, t) ∈ B) (ha : aggB Pr ty = false) (hv : cs[j]? = some v) (hp : a.put N v = a')
    (h : wpAnyLast Pr md ops Q (Held B) ds fuel l' a' w) : wpAnyLast Pr md ops Q (Held B) ds (fuel + 1) l a w := by
  refine take_ (S := Held B) l' hi hN hc hQ (Or.inl ⟨hw, fun w' hh => ?_⟩) hH hp h
  have hc : w'.cell? ⟨g, j, none⟩ = some v := (blk_cell (hh _ hm) j).trans (by simpa using hv)
  unfold execOp
  simp only [ho, hx, Instr.loadAt, Instr.sureAddr, Sem.run_bind, Sem.run_pure, Result.andThen_ok, loadVar, run_agg_no ha, run_load, hc, Bool.false_eq_true, if_false]
theorem r_all (l' : Array Bool) (hi : ops[i]? = some o) (hN : o.dst = N) (hc : takeB md ops ds l l' i = true) (hQ : ∀ c a w, Q (.panic c) (a.put o.dst (.agg cs.toArray)) w → Q (.panic c) a w) (hH : Held B w) (hw : Region.wanted o (yielded ops a.tmps) = true)
    (ho : o.op = .load ty x) (hx : a.eval x = .pointer (some ⟨g, 0, none⟩)) (hm : (g, cs, t) ∈ B) (ha : aggN Pr ty n = true) (hl : cs.length = n) (hp : a.put N (.agg cs.toArray) = a')
    (h : wpAnyLast Pr md ops Q (Held B) ds fuel l' a' w) : wpAnyLast Pr md ops Q (Held B) ds (fuel + 1) l a w := by
  refine take_ (S := Held B) l' hi hN hc hQ (Or.inl ⟨hw, fun w' hh => ?_⟩) hH hp h
  have hr := run_agg_yes (W := w') ha
  have hcs : (loadCells ⟨g, 0, none⟩ cs.length).run Pr w' = .ok cs.toArray w' := run_loadCells_list (P := Pr) w' ⟨g, 0, none⟩ cs (fun j u hu => by
    have hadd : (⟨g, 0, none⟩ : Addr).add j = ⟨g, j, none⟩ := by unfold Addr.add; split <;> simp_all
    rw [hadd, blk_cell (hh _ hm) j]
    simpa using hu)
  rw [hl] at hcs
  unfold execOp
  simp only [ho, hx, Instr.loadAt, Instr.sureAddr, Sem.run_bind, Sem.run_pure, Result.andThen_ok, loadVar, hr.1, hr.2, hcs, if_true]
/-- A new box of noughts; a box written (the last store): as one step. -/
theorem r_zero {K : Act → World → Prop} (HM : Mem w0 P W B S0) (hw : Region.wanted o (yielded ops a.tmps) = true) (ho : o.op = .alloc ty) (hz : (Pr.info? ty).map (·.zero) = some (some v)) (hc : v.cells = cs.toArray)
    (h : ∀ g W1, Mem w0 P W1 ((g, cs, ty) :: B) S0 → K (a.put o.dst (.pointer (some ⟨g, 0, none⟩))) W1) : if Region.wanted o (yielded ops a.tmps) = true then Oper.wp Pr o a W K Q else K (a.put o.dst undef) W := by
  rw [if_pos hw]
  cases hq : Pr.info? ty with
  | none => rw [hq] at hz; simp at hz
  | some inf =>
    rw [hq] at hz
    have : inf.zero = some v := by simpa using hz
    have hr : (execOp a.eval o).run Pr W = .ok (.value (.pointer (some ⟨W.heap.size, 0, none⟩))) (W.alloc (.cells cs.toArray ty)) := by
      unfold execOp
      simp [ho, Instr.alloc, zeroValue, typeInfo, hq, this, newVar, newRow, hc]
    unfold Oper.wp
    rw [hr]
    exact h _ _ (HM.new rfl (blk_new W _) (below_alloc (Below.refl _ _) _))
theorem r_put {K : Act → World → Prop} {vs : List Value} {m : Nat} (HM : Mem w0 P W B S0) (hw : Region.wanted o (yielded ops a.tmps) = true) (hN : o.dst = none) (ho : o.op = .store ty x y) (hx : a.eval x = .pointer (some ⟨g, 0, none⟩)) (hm : B[m]? = some (g, cs, t)) (hy : a.eval y = .agg vs.toArray)
    (hs : (Pr.info? ty).map (·.size) = some vs.length) (h1 : ∀ u ∈ vs, u.oneCell' = true) (hi : cs.length = vs.length) (h : ∀ W1, Mem w0 P W1 (B.set m (g, vs, t)) S0 → K a W1) :
    if Region.wanted o (yielded ops a.tmps) = true then Oper.wp Pr o a W K Q else K (a.put none undef) W := by
  have hbx := (HM.box _ (List.mem_of_getElem? hm)).1
  have hst := run_storeCells_at (P := Pr) g 0 t vs 0 cs.toArray W hbx (by simp; omega) h1
  simp only [Nat.add_zero, Nat.zero_add] at hst
  have e : cs.toArray.toList.take 0 ++ vs ++ cs.toArray.toList.drop vs.length = vs := by
    rw [List.take_zero, List.nil_append, List.drop_of_length_le (by simp; omega), List.append_nil]
  rw [e] at hst
  cases hq : Pr.info? ty with
  | none => rw [hq] at hs; simp at hs
  | some inf =>
    rw [hq] at hs
    have : inf.size = vs.length := by simpa using hs
    refine skip_ (w1 := W.setRow g vs.toArray) hw hN ?_ (h _ (HM.set hm vs))
    unfold execOp
    simp [ho, hx, hy, Instr.storeAt, Instr.sureAddr, storeVar, sizeOf, typeInfo, hq, this, Value.cells, hst]
/-- What follows, once. -/
theorem r_join {σ : Type} (HM : Mem w0 P w B S0) (fuel' : Nat) (l' : Array Bool) (ns : σ → List (Tmp × Value)) (nb : σ → List Bx) (nf : σ → World → Prop) (side : σ → Prop)
    (hcont : ∀ s w', side s → Mem w0 P w' (nb s ++ B) (fun W => S0 W ∧ nf s W) → wpAnyLast Pr md ops Q S ds fuel' l' (fillAll a (ns s)) w')
    (h : (∀ s w', side s → Mem w0 P w' (nb s ++ B) (fun W => S0 W ∧ nf s W) → wpAnyLast Pr md ops Q S ds fuel' l' (fillAll a (ns s)) w') → wpAnyLast Pr md ops Q S ds fuel l a w) : wpAnyLast Pr md ops Q S ds fuel l a w := h hcont
theorem Mem.and (h : Mem w0 P W B S0) : Mem w0 P W B (fun w => S0 w ∧ True) := h.imp (fun _ h => ⟨h, trivial⟩)
end
end Go.Proofs.YtolpamojbiipaaaDoor.Mem
/- A row of the call's own among own boxes: none yet, or a box; appended to. -/


namespace Go.Proofs.YtolpamojbiipaaaDoor.Mem
open Go.RowKit Go.Proofs.YtolpamojbiipaaaDoorW.PrintWords Go.Proofs.YtolpamojbiipaaaDoorW.PrintLast Go.Proofs.YtolpamojbiipaaaDoorW.PrintMore
set_option linter.unusedVariables false
set_option linter.unusedSimpArgs false

/-- v is a row of n elements whose cells are xs; its box is X. -/
def OwnB (e : TypeId) (size : Nat) (v : Value) (n : Nat) (xs : List Value) (X : List Bx) : Prop :=
  (v = .slice none 0 0 ∧ n = 0 ∧ xs = [] ∧ X = []) ∨ ∃ g cap sp, v = .slice (some ⟨g, 0, none⟩) n cap ∧ X = [(g, xs ++ sp, e)] ∧ xs.length = n * size ∧ (xs ++ sp).length = cap * size ∧ n ≤ cap ∧ cap ≤ maxLen
theorem OwnB.nil (e : TypeId) (size : Nat) : OwnB e size (.slice none 0 0) 0 [] [] := .inl ⟨rfl, rfl, rfl, rfl⟩
variable {w0 W W' W1 w : World} {P : Nat → Prop} {B X L : List Bx} {S : World → Prop} {g n m c : Nat} {cs cs' xs news : List Value} {t e : TypeId} {size : Nat} {v : Value}
theorem OwnB.slice (h : OwnB e size v n xs X) : ∃ A c, v = .slice A n c := by
  rcases h with ⟨rfl, rfl, _⟩ | ⟨g, cap, sp, rfl, _⟩
  · exact ⟨none, 0, rfl⟩
  · exact ⟨_, cap, rfl⟩
theorem Mem.tail (h : Mem w0 P W (B ++ X) S) {row : Option Nat} (hg : W.grownBy W1 row) (hr : ∀ k, row = some k → k ∈ X.map (·.1)) (hc : W1.heap[g]? = some (.cells cs'.toArray t (0, 0))) (hat : g ∈ X.map (·.1) ∨ W.heap.size ≤ g) :
    Mem w0 P W1 (B ++ [(g, cs', t)]) S := by
  have hap := h.apart
  rw [List.map_append, List.nodup_append] at hap
  have hX : ∀ k, k ∈ X.map (·.1) → w0.heap.size ≤ k ∧ k < W.heap.size := fun k hk => by
    obtain ⟨x, hx, rfl⟩ := List.mem_map.1 hk
    have := h.box x (List.mem_append_right _ hx)
    exact ⟨this.2, blk_lt this.1⟩
  have hB : ∀ x ∈ B, x.1 < W.heap.size ∧ some x.1 ≠ row ∧ x.1 ≠ g := fun x hx => by
    have h1 := blk_lt (h.box x (List.mem_append_left _ hx)).1
    have hn : x.1 ∉ X.map (·.1) := fun hk => hap.2.2 _ (List.mem_map.2 ⟨x, hx, rfl⟩) _ hk rfl
    refine ⟨h1, fun e => hn (hr _ e.symm), fun e => ?_⟩
    rcases hat with hat | hat
    · exact hn (e ▸ hat)
    · omega
  refine ⟨h.below.grown hg h.below.size (fun k hk => (hX k (hr k hk)).1), fun x hx => ?_, ?_, fun W' hW => ?_⟩
  · rcases List.mem_append.1 hx with hx | hx
    · have h1 := h.box x (List.mem_append_left _ hx)
      exact ⟨(hg.block _ (hB x hx).1 (hB x hx).2.1).trans h1.1, h1.2⟩
    · rw [List.mem_singleton.1 hx]
      exact ⟨hc, by rcases hat with hat | hat; exact (hX _ hat).1; exact Nat.le_trans h.below.size hat⟩
  · rw [List.map_append, List.nodup_append]
    refine ⟨hap.1, by simp, fun a ha b hb e => ?_⟩
    obtain ⟨x, hx, rfl⟩ := List.mem_map.1 ha
    simp only [List.map_cons, List.map_nil, List.mem_singleton] at hb
    exact (hB x hx).2.2 (e.trans hb)
  · refine h.keep W' (fun k hk hn hp => ?_)
    rw [List.map_append, List.mem_append, not_or] at hn
    have hkg : k ≠ g := fun e => by
      rcases hat with hat | hat
      · exact hn.2 (e ▸ hat)
      · omega
    refine (hW k (Nat.lt_of_lt_of_le hk hg.size) ?_ hp).trans (hg.block k hk (fun e => hn.2 (hr k e.symm)))
    rw [List.map_append, List.mem_append, not_or]
    exact ⟨hn.1, by simpa using hkg⟩
section
variable {Pr : Program} {ops : Array Oper} {rest : List Oper} {o : Oper} {a : Act} {Q : Exit → Act → World → Prop} {s x : Operand} {i0 : TypeInfo} {z : Value} {bytes : Nat}
/-- An append to an own row that is the last of the boxes. -/
theorem append_tail (HM : Mem w0 P W L S) (hL : L = B ++ X) (hgd : o.guard = none)
    (ho : o.op = .call { callee := .builtin .append, args := #[s, x], argTypes := #[t, t] }) (ht : Pr.underlying t = some (.slice e)) (hi : Pr.info? e = some i0) (hz : i0.zero = some z)
    (hsize : i0.size = size) (hby : i0.bytes = bytes) (hzs : z.cells.size = size) (hsz : 0 < size) (hO : OwnB e size v n xs X) (hs : a.eval s = v)
    (ad : Addr) (hx : a.eval x = .slice (some ad) m c) (hl : news.length = m * size) (hnews : ∀ j u, news[j]? = some u → W.cell? (ad.add j) = some u) (h1 : ∀ u ∈ news, u.oneCell' = true) (hm : 0 < m)
    (h63 : n + m ≤ maxLen) (hbytes : (n + m) * bytes ≤ 140737488355328)
    (h : ∀ v' X' W1, OwnB e size v' (n + m) (xs ++ news) X' → Mem w0 P W1 (B ++ X') S → wpList Pr ops Q rest (a.put o.dst v') W1) : wpList Pr ops Q (o :: rest) a W := by
  subst hL
  have hown : W.ownsRow w0.heap.size e size v n xs := by
    rcases hO with ⟨rfl, rfl, rfl, _⟩ | ⟨g, cap, sp, rfl, rfl, h1, h2, h3, h4⟩
    · exact World.ownsRow_nil _ _ _ _
    · have hb := HM.box (g, xs ++ sp, e) (List.mem_append_right _ (List.mem_singleton.2 rfl))
      exact ⟨h1, .inr ⟨g, cap, _, rfl, hb.2, hb.1, h3, h4, by simpa using h2, by rw [← h1]; simp⟩⟩
  obtain ⟨v1, w1, hr, h2, h3, _, h5⟩ := run_append_own_at (P := Pr) W w0.heap.size t o.type e i0 z size bytes ht hi hz hsize hby hzs hsz v n xs hown ad m c news hl hnews h1 h63 hbytes HM.below.size
  refine wpList_plain hgd fun K hK => ?_
  unfold Oper.wp execOp
  simp only [ho, resolve, invoke, builtin, Sem.run_bind, Sem.run_pure, Result.andThen_ok, List.map_toArray, List.map_cons, List.map_nil, hs, hx, hr]
  have hrow : ∀ k, v.ownBlock = some k → k ∈ X.map (·.1) := fun k hk => by
    rcases hO with ⟨rfl, _⟩ | ⟨g, cap, sp, rfl, rfl, _⟩
    · simp [Value.ownBlock] at hk
    · simp only [Value.ownBlock, Option.some.injEq] at hk
      simp [hk]
  rcases h2 with ⟨hlen, ⟨_, hn⟩ | ⟨g, cap, cur, rfl, hg, hh, hn, hc, hcs, htk⟩⟩
  · omega
  have e1 : cur = (xs ++ news ++ cur.toList.drop ((n + m) * size)).toArray := by
    rw [← htk, List.take_append_drop]
  refine hK _ _ (h _ _ _ (.inr ⟨g, cap, cur.toList.drop ((n + m) * size), rfl, rfl, hlen, ?_, hn, hc⟩) (HM.tail h3 hrow (hh.trans (congrArg (fun q => some (Obj.cells q e (0, 0))) e1)) ?_))
  · rw [← htk, List.take_append_drop]; simpa using hcs
  · rcases h5 with h5 | h5
    · exact .inl (hrow g (by rw [← h5]; rfl))
    · simp only [Value.ownBlock, Option.some.injEq] at h5
      exact .inr (by omega)
end
end Go.Proofs.YtolpamojbiipaaaDoor.Mem
