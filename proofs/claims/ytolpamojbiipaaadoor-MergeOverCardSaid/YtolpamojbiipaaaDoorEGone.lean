/- joined by xlay.py: EMemMap, EMemRange, EContents, EGone -/
import Derived.Test.YtolpamojbiipaaaDoorEMemTree
import Derived.Test.YtolpamojbiipaaaDoorETreePut2
import Derived.Maps.RangeWalk
import Derived.Test.YtolpamojbiipaaaDoorEMemS
import Derived.Test.YtolpamojbiipaaaDoorEMemRow
/- A map of the call's own (numbers to contents) beside own boxes: made, written, read, struck. -/



namespace Go.Proofs.YtolpamojbiipaaaDoor.XA
open Go.RowKit Go.Proofs.YtolpamojbiipaaaDoorW.PrintWords Go.Proofs.YtolpamojbiipaaaDoorW.PrintLast Go.Proofs.YtolpamojbiipaaaDoorW.PrintMore Go.Proofs.YtolpamojbiipaaaDoor.Mem Go.Proofs.YtolpamojbiipaaaDoor.Pure
set_option linter.unusedVariables false
set_option linter.unusedSimpArgs false

/-- How a content reads: by its size. -/
def cR : Value → Option (DataW Unit × List MemPlace)
  | .agg cs => match cs.toList with | [.slice none 0 0, .int .i64 z] => some (.lit (.int .i64 z), []) | _ => none
  | _ => none
theorem cR_mk (z : Int) : cR (.agg #[.slice none 0 0, .int .i64 z]) = some (.lit (.int .i64 z), []) := rfl
theorem cR_inv {v : Value} {y : DataW Unit × List MemPlace} (h : cR v = some y) : ∃ z, v = .agg #[.slice none 0 0, .int .i64 z] ∧ y = (.lit (.int .i64 z), []) := by
  unfold cR at h
  split at h
  · rename_i cs
    split at h
    · rename_i z e
      cases h
      refine ⟨z, ?_, rfl⟩
      congr 1
      exact Array.toList_inj.1 e
    · cases h
  · cases h
theorem hu78 : Tryd.prog.underlying 78 = some (.map 3 40) := by kernel_rfl
theorem hk3 : Tryd.prog.underlying 3 = some (.int .i64) := by kernel_rfl
theorem law3 : Maps.Keyed Tryd.prog 3 := Maps.int_keyed hk3
theorem zero40_run (w : World) : (zeroValue 40).run Tryd.prog w = .ok (.agg #[.slice none 0 0, .int .i64 0]) w := by kernel_rfl
/-- Block b is the map f of m entries. -/
def MapC (w : World) (b n : Nat) (f : Int → Option Int) (m : Nat) : Prop := ∃ (k : Nat) (D : DataW Unit), w.ownsMap Tryd.prog 3 cR b k D ∧ k ≤ n ∧ Maps.size D = m ∧
  ∀ x, (Lit.int .i64 x).wf = true → Maps.has D (.int .i64 x) = (f x).isSome ∧ ∀ z, f x = some z → ∀ zd, D.atKey (.int .i64 x) zd = .lit (.int .i64 z)
def putF (f : Int → Option Int) (i z : Int) : Int → Option Int := fun x => if x = i then some z else f x
def putN (f : Int → Option Int) (m : Nat) (i : Int) : Nat := if (f i).isSome then m else m + 1
def delF (f : Int → Option Int) (i : Int) : Int → Option Int := fun x => if x = i then none else f x
def delN (f : Int → Option Int) (m : Nat) (i : Int) : Nat := if (f i).isSome then m - 1 else m
theorem MapC.same {w w' : World} {b n m : Nat} {f : Int → Option Int} (h : MapC w b n f m) (he : w'.heap[b]? = w.heap[b]?) : MapC w' b n f m := by
  obtain ⟨k, D, ⟨es, clock, hb, F, hs, hD⟩, r⟩ := h
  exact ⟨k, D, ⟨es, clock, he.trans hb, F, hs, hD⟩, r⟩
theorem MapC.made (w : World) : MapC (w.alloc (.map #[] 0)) w.heap.size 0 (fun _ => none) 0 :=
  ⟨0, .map [], World.ownsMap_made w _ _ _, Nat.le_refl _, rfl, fun x _ => ⟨rfl, fun z h => by cases h⟩⟩
variable {w0 W w' : World} {P : Nat → Prop} {B : List Bx} {S S0 Φ Ψ Ψ' : World → Prop} {b n m : Nat} {f : Int → Option Int} {i z : Int}
theorem MapC.apart (h : MapC W b n f m) (HM : Mem w0 P W B S) : b ∉ B.map (·.1) := by
  intro hm
  obtain ⟨x, hx, rfl⟩ := List.mem_map.1 hm
  obtain ⟨k, D, ⟨es, clock, hb, _⟩, _⟩ := h
  rw [(HM.box x hx).1] at hb
  cases hb
theorem MapC.lt (h : MapC W b n f m) : b < W.heap.size := by
  obtain ⟨k, D, h, _⟩ := h
  exact h.lt
/-- Some blocks that are no boxes have turned: what leans on old blocks alone stays, what leans on those blocks is told anew. -/
theorem Mem.turn {K : List Nat} {row : Option Nat} (HM : Mem w0 P W B (fun w => S0 w ∧ Ψ w)) (hS0 : ∀ W', (∀ k, k < w0.heap.size → P k → W'.heap[k]? = w0.heap[k]?) → S0 W')
    (hg : W.grownBy w' row) (hr : ∀ k, row = some k → k ∈ K) (hK : ∀ k ∈ K, w0.heap.size ≤ k ∧ k ∉ B.map (·.1) ∧ k < w'.heap.size)
    (hΨ : ∀ W', (∀ k ∈ K, W'.heap[k]? = w'.heap[k]?) → Ψ' W') : Mem w0 P w' B (fun w => S0 w ∧ Ψ' w) := by
  have hbl : Below w0.heap.size w0 w' := HM.below.grown hg HM.below.size (fun k hk => (hK k (hr k hk)).1)
  refine ⟨hbl, fun x hx => ?_, HM.apart, fun W' hW => ⟨hS0 W' (fun k hk hp => ?_), hΨ W' (fun k hk => hW k (hK k hk).2.2 (hK k hk).2.1 (.inr (hK k hk).1))⟩⟩
  · have h1 := HM.box x hx
    refine ⟨(hg.block _ (blk_lt h1.1) (fun e => (hK _ (hr _ e.symm)).2.1 (List.mem_map.2 ⟨x, hx, rfl⟩))).trans h1.1, h1.2⟩
  · have hkB : k ∉ B.map (·.1) := fun hm => by
      obtain ⟨x, hx, rfl⟩ := List.mem_map.1 hm
      have := (HM.box x hx).2
      omega
    exact (hW k (Nat.lt_of_lt_of_le hk hbl.size) hkB (.inl hp)).trans (hbl.block k hk)
theorem MapC.put (ho : ∃ (k : Nat) (D : DataW Unit), W.ownsMap Tryd.prog 3 cR b k D ∧ w'.ownsMap Tryd.prog 3 cR b (k + 1) (D.put (.int .i64 i) (.lit (.int .i64 z))) ∧ k ≤ n ∧ Maps.size D = m ∧
    ∀ x, (Lit.int .i64 x).wf = true → Maps.has D (.int .i64 x) = (f x).isSome ∧ ∀ z, f x = some z → ∀ zd, D.atKey (.int .i64 x) zd = .lit (.int .i64 z)) (hi : (Lit.int .i64 i).wf = true) : MapC w' b (n + 1) (putF f i z) (putN f m i) := by
  obtain ⟨k, D, h0, h1, hk, hs, hf⟩ := ho
  refine ⟨k + 1, _, h1, by omega, ?_, fun x hx => ?_⟩
  · rw [Maps.size_put (h0.tidy law3), hs, (hf i hi).1]
    rfl
  · unfold putF
    by_cases e : x = i
    · subst e
      rw [if_pos rfl]
      refine ⟨Maps.has_put_same h0.isMap (by trivial) _, fun z' hz zd => ?_⟩
      cases hz
      exact Maps.atKey_put_same h0.isMap (by trivial) _ _
    · have hne : Lit.int .i64 x ≠ Lit.int .i64 i := fun h => by injection h with _ h; exact e h
      rw [if_neg e]
      refine ⟨(Maps.has_put_other hne _).trans (hf x hx).1, fun z' hz zd => ?_⟩
      rw [Maps.atKey_put_other hne]
      exact (hf x hx).2 z' hz zd
theorem MapC.del (ho : ∃ (k : Nat) (D : DataW Unit), W.ownsMap Tryd.prog 3 cR b k D ∧ w'.ownsMap Tryd.prog 3 cR b k (D.del (.int .i64 i)) ∧ k ≤ n ∧ Maps.size D = m ∧
    ∀ x, (Lit.int .i64 x).wf = true → Maps.has D (.int .i64 x) = (f x).isSome ∧ ∀ z, f x = some z → ∀ zd, D.atKey (.int .i64 x) zd = .lit (.int .i64 z)) (hi : (Lit.int .i64 i).wf = true) : MapC w' b n (delF f i) (delN f m i) := by
  obtain ⟨k, D, h0, h1, hk, hs, hf⟩ := ho
  refine ⟨k, _, h1, hk, ?_, fun x hx => ?_⟩
  · have := Maps.size_del (k := .int .i64 i) (h0.tidy law3)
    rw [hs, (hf i hi).1] at this
    unfold delN
    split at this <;> simp_all <;> omega
  · unfold delF
    by_cases e : x = i
    · subst e
      rw [if_pos rfl]
      exact ⟨Maps.has_del_same, fun z' hz => by cases hz⟩
    · have hne : Lit.int .i64 x ≠ Lit.int .i64 i := fun h => by injection h with _ h; exact e h
      rw [if_neg e]
      refine ⟨(Maps.has_del_other hne).trans (hf x hx).1, fun z' hz zd => ?_⟩
      rw [Maps.atKey_del_other hne]
      exact (hf x hx).2 z' hz zd
section
variable {ops : Array Oper} {rest : List Oper} {o : Oper} {a : Act} {Q : Exit → Act → World → Prop} {mo x v : Operand}
/-- A map is made. -/
theorem make_map (HM : Mem w0 P W B S) (hw : Region.wanted o (yielded ops a.tmps) = true) (ho : o.op = .makeMap 78 none)
    (h : ∀ b W1, w0.heap.size ≤ b → Mem w0 P W1 B (fun w => S w ∧ MapC w b 0 (fun _ => none) 0) → wpList Tryd.prog ops Q rest (a.put o.dst (.map (some b))) W1) : wpList Tryd.prog ops Q (o :: rest) a W := by
  refine step_value (W1 := W.alloc (.map #[] 0)) hw ?_ (h W.heap.size _ HM.below.size (HM.add (below_alloc (Below.refl _ _) _) (fun W' hW => (MapC.made W).same (hW _ (MapC.made W).lt (.inr (Nat.le_refl _))))))
  unfold execOp
  simp [ho, run_makeMap]
/-- An entry is written. -/
theorem update_map {K : List Nat} (HM : Mem w0 P W B (fun w => S0 w ∧ Φ w ∧ MapC w b n f m)) (hS0 : ∀ W', (∀ k, k < w0.heap.size → P k → W'.heap[k]? = w0.heap[k]?) → S0 W')
    (hΦ : ∀ W W', (∀ k ∈ K, W'.heap[k]? = W.heap[k]?) → Φ W → Φ W') (hK : ∀ k ∈ K, w0.heap.size ≤ k ∧ k ∉ B.map (·.1) ∧ k < W.heap.size ∧ k ≠ b) (hb : w0.heap.size ≤ b) (hn : n ≤ 1000000)
    (hg : o.guard = none) (ho : o.op = .mapUpdate 78 mo x v) (hm : a.eval mo = .map (some b)) (hx : a.eval x = .int .i64 i) (hi : (Lit.int .i64 i).wf = true) (hv : a.eval v = .agg #[.slice none 0 0, .int .i64 z])
    (h : ∀ W1, Mem w0 P W1 B (fun w => S0 w ∧ Φ w ∧ MapC w b (n + 1) (putF f i z) (putN f m i)) → wpList Tryd.prog ops Q rest (a.put o.dst undef) W1) : wpList Tryd.prog ops Q (o :: rest) a W := by
  obtain ⟨hs0, hph, hmap⟩ := HM.now
  have hap := hmap.apart HM
  have hlt := hmap.lt
  obtain ⟨k, D, h0, hk, hs, hf⟩ := hmap
  refine wpList_mapUpdate_own W hg mo x v 78 ho 3 40 law3 hu78 cR b k D hm h0 (by unfold maxLen; omega) _ _ (.int .i64 i) hx hv (key3 hi) (.lit (.int .i64 z)) [] (cR_mk z) (fun W1 h1 hg1 => ?_)
  have hmap1 : MapC W1 b (n + 1) (putF f i z) (putN f m i) := MapC.put ⟨k, D, h0, h1, hk, hs, hf⟩ hi
  refine h W1 (Mem.turn (K := b :: K) (Ψ' := fun w => Φ w ∧ MapC w b (n + 1) (putF f i z) (putN f m i)) HM hS0 hg1 (fun k e => by cases e; exact List.mem_cons_self) (fun k hk => ?_) (fun W' hW => ⟨hΦ W W' (fun k hk => (hW k (List.mem_cons_of_mem _ hk)).trans (hg1.block k (hK k hk).2.2.1 (fun e => (hK k hk).2.2.2 (Option.some.inj e)))) hph, hmap1.same (hW b List.mem_cons_self)⟩))
  rcases List.mem_cons.1 hk with rfl | hk
  · exact ⟨hb, hap, Nat.lt_of_lt_of_le hlt hg1.size⟩
  · exact ⟨(hK k hk).1, (hK k hk).2.1, Nat.lt_of_lt_of_le (hK k hk).2.2.1 hg1.size⟩
/-- An entry is struck. -/
theorem delete_map {K : List Nat} (HM : Mem w0 P W B (fun w => S0 w ∧ Φ w ∧ MapC w b n f m)) (hS0 : ∀ W', (∀ k, k < w0.heap.size → P k → W'.heap[k]? = w0.heap[k]?) → S0 W')
    (hΦ : ∀ W W', (∀ k ∈ K, W'.heap[k]? = W.heap[k]?) → Φ W → Φ W') (hK : ∀ k ∈ K, w0.heap.size ≤ k ∧ k ∉ B.map (·.1) ∧ k < W.heap.size ∧ k ≠ b) (hb : w0.heap.size ≤ b)
    (hg : o.guard = none) (ho : o.op = .call { callee := .builtin .delete, args := #[mo, x], argTypes := #[78, 3] }) (hm : a.eval mo = .map (some b)) (hx : a.eval x = .int .i64 i) (hi : (Lit.int .i64 i).wf = true)
    (h : ∀ W1, Mem w0 P W1 B (fun w => S0 w ∧ Φ w ∧ MapC w b n (delF f i) (delN f m i)) → wpList Tryd.prog ops Q rest (a.put o.dst (.tuple #[])) W1) : wpList Tryd.prog ops Q (o :: rest) a W := by
  obtain ⟨hs0, hph, hmap⟩ := HM.now
  have hap := hmap.apart HM
  have hlt := hmap.lt
  obtain ⟨k, D, h0, hk, hs, hf⟩ := hmap
  refine wpList_delete_own W hg mo x 78 3 ho 40 law3 hu78 cR b k D hm h0 _ (.int .i64 i) hx (key3 hi) (fun W1 h1 ht => ?_)
  have hg1 := ht.grown
  have hmap1 : MapC W1 b n (delF f i) (delN f m i) := MapC.del ⟨k, D, h0, h1, hk, hs, hf⟩ hi
  refine h W1 (Mem.turn (K := b :: K) (Ψ' := fun w => Φ w ∧ MapC w b n (delF f i) (delN f m i)) HM hS0 hg1 (fun k e => by cases e; exact List.mem_cons_self) (fun k hk => ?_) (fun W' hW => ⟨hΦ W W' (fun k hk => (hW k (List.mem_cons_of_mem _ hk)).trans (hg1.block k (hK k hk).2.2.1 (fun e => (hK k hk).2.2.2 (Option.some.inj e)))) hph, hmap1.same (hW b List.mem_cons_self)⟩))
  rcases List.mem_cons.1 hk with rfl | hk
  · exact ⟨hb, hap, Nat.lt_of_lt_of_le hlt hg1.size⟩
  · exact ⟨(hK k hk).1, (hK k hk).2.1, Nat.lt_of_lt_of_le (hK k hk).2.2.1 hg1.size⟩
/-- An entry is looked up. -/
theorem lookup_map (hmap : MapC W b n f m) (hg : o.guard = none) (ho : o.op = .lookup 78 mo x true) (hm : a.eval mo = .map (some b)) (hx : a.eval x = .int .i64 i) (hi : (Lit.int .i64 i).wf = true)
    (h : ∀ z, (∀ z', f i = some z' → z = z') → wpList Tryd.prog ops Q rest (a.put o.dst (.tuple #[.agg #[.slice none 0 0, .int .i64 z], .bool (f i).isSome])) W) : wpList Tryd.prog ops Q (o :: rest) a W := by
  obtain ⟨k, D, h0, hk, hs, hf⟩ := hmap
  refine wpList_lookup_own_ok W hg mo x 78 ho 3 40 law3 hu78 cR (zero40_run W) (.lit (.int .i64 0)) [] (cR_mk 0) b k D hm h0 _ (.int .i64 i) hx (key3 hi) (fun v ps hv => ?_)
  obtain ⟨z, rfl, e⟩ := cR_inv hv
  rw [(hf i hi).1]
  refine h z (fun z' hz => ?_)
  have h2 := (hf i hi).2 z' hz (.lit (.int .i64 0))
  injection e with e1 _
  rw [h2] at e1
  injection e1 with e1
  injection e1 with _ e1
  exact e1.symm
theorem len_map (hmap : MapC W b n f m) (hg : o.guard = none) (ho : o.op = .call { callee := .builtin .len, args := #[mo], argTypes := #[78] }) (hm : a.eval mo = .map (some b))
    (h : wpList Tryd.prog ops Q rest (a.put o.dst (.int .i64 m)) W) : wpList Tryd.prog ops Q (o :: rest) a W := by
  obtain ⟨k, D, h0, hk, hs, hf⟩ := hmap
  refine wpList_len_own W hg mo 78 ho 3 40 hu78 cR b k D hm h0 ?_
  rw [hs]
  exact h
end
end Go.Proofs.YtolpamojbiipaaaDoor.XA
/- A range over a map of the call's own (Mem). -/

namespace Go.Proofs.YtolpamojbiipaaaDoor.XA
open Go.RowKit Go.Proofs.YtolpamojbiipaaaDoorW.PrintWords Go.Proofs.YtolpamojbiipaaaDoorW.PrintLast Go.Proofs.YtolpamojbiipaaaDoorW.PrintMore Go.Proofs.YtolpamojbiipaaaDoor.Mem Go.Proofs.YtolpamojbiipaaaDoor.Pure
set_option linter.unusedVariables false
set_option linter.unusedSimpArgs false

/-- A range over block b's map is under way at block r: the numbers of fl are still to come. -/
def Rg (w : World) (b r : Nat) (fl : Int → Bool) (cnt : Nat) : Prop := ∃ (k : Nat) (D : DataW Unit) (left : Lit → Bool), w.ranges Tryd.prog 3 cR b r k D left cnt ∧ ∀ x, (Lit.int .i64 x).wf = true → left (.int .i64 x) = fl x
variable {w0 W w' : World} {P : Nat → Prop} {B : List Bx} {S S0 Φ : World → Prop} {b r n m cnt : Nat} {f : Int → Option Int} {fl : Int → Bool}
theorem Rg.same (h : Rg W b r fl cnt) (h1 : w'.heap[b]? = W.heap[b]?) (h2 : w'.heap[r]? = W.heap[r]?) : Rg w' b r fl cnt := by
  obtain ⟨k, D, left, ⟨es, clock, since, seen, c0, hb, a1, a2, a3, hr, a4⟩, hf⟩ := h
  exact ⟨k, D, left, ⟨es, clock, since, seen, c0, h1.trans hb, a1, a2, a3, h2.trans hr, a4⟩, hf⟩
theorem Rg.apart (h : Rg W b r fl cnt) (HM : Mem w0 P W B S) : b ∉ B.map (·.1) ∧ r ∉ B.map (·.1) := by
  obtain ⟨k, D, left, ⟨es, clock, since, seen, c0, hb, a1, a2, a3, hr, a4⟩, hf⟩ := h
  constructor
  · intro hm
    obtain ⟨x, hx, rfl⟩ := List.mem_map.1 hm
    rw [(HM.box x hx).1] at hb
    cases hb
  · intro hm
    obtain ⟨x, hx, rfl⟩ := List.mem_map.1 hm
    rw [(HM.box x hx).1] at hr
    cases hr
theorem Rg.lt (h : Rg W b r fl cnt) : b < W.heap.size ∧ r < W.heap.size := by
  obtain ⟨k, D, left, h, _⟩ := h
  exact ⟨h.owns.lt, h.lt⟩
theorem Rg.left (h : Rg W b r fl cnt) : W.rangeLeft b r = cnt := by
  obtain ⟨k, D, left, h, _⟩ := h
  exact h.left_eq
section
variable {ops : Array Oper} {rest : List Oper} {o : Oper} {a : Act} {Q : Exit → Act → World → Prop} {mo it : Operand}
theorem range_map (HM : Mem w0 P W B (fun w => S w ∧ MapC w b n f m)) (hb : w0.heap.size ≤ b) (hg : o.guard = none) (ho : o.op = .range 78 mo) (hm : a.eval mo = .map (some b))
    (h : ∀ r cnt W1, w0.heap.size ≤ r → b < r → W.heap.size ≤ r → Mem w0 P W1 B (fun w => S w ∧ Rg w b r (fun x => (f x).isSome) cnt) → wpList Tryd.prog ops Q rest (a.put o.dst (.pointer (some ⟨r, 0, none⟩))) W1) : wpList Tryd.prog ops Q (o :: rest) a W := by
  have hmap := HM.now.2
  have hap := hmap.apart HM
  have hlt := hmap.lt
  obtain ⟨k, D, h0, hk, hs, hf⟩ := hmap
  refine wpList_range_own W hg mo 78 ho 3 40 law3 hu78 cR b k D hm h0 (fun W1 h1 hg1 hz => ?_)
  have hbl : Below W.heap.size W W1 := ⟨hg1.os, hg1.tape, hg1.output, hg1.size, fun k hk => hg1.block k hk (by simp)⟩
  have hrg : Rg W1 b W.heap.size (fun x => (f x).isSome) (Maps.size D) := ⟨k, D, _, h1, fun x hx => (hf x hx).1⟩
  refine h W.heap.size _ W1 HM.below.size hlt (Nat.le_refl _) ((HM.add hbl (fun W' hW => hrg.same (hW b hrg.lt.1 (.inl ⟨hap, .inr hb⟩)) (hW _ hrg.lt.2 (.inr (Nat.le_refl _))))).imp (fun w h => ⟨h.1.1, h.2⟩))
theorem next_map {K : List Nat} (HM : Mem w0 P W B (fun w => S0 w ∧ Φ w ∧ Rg w b r fl cnt)) (hS0 : ∀ W', (∀ k, k < w0.heap.size → P k → W'.heap[k]? = w0.heap[k]?) → S0 W')
    (hΦ : ∀ W W', (∀ k ∈ K, W'.heap[k]? = W.heap[k]?) → Φ W → Φ W') (hK : ∀ k ∈ K, w0.heap.size ≤ k ∧ k ∉ B.map (·.1) ∧ k < W.heap.size ∧ k ≠ r) (hb : w0.heap.size ≤ b) (hr : w0.heap.size ≤ r)
    (hg : o.guard = none) (ho : o.op = .next it false) (hit : a.eval it = .pointer (some ⟨r, 0, none⟩))
    (hDone : (∀ x, (Lit.int .i64 x).wf = true → fl x = false) → wpList Tryd.prog ops Q rest (a.put o.dst (.tuple #[.bool false])) W)
    (hMore : ∀ x z W1 cnt', (Lit.int .i64 x).wf = true → fl x = true → cnt' < cnt → Mem w0 P W1 B (fun w => S0 w ∧ Φ w ∧ Rg w b r (fun y => fl y && !(y == x)) cnt') →
      (Instr.entry (.pointer (some ⟨r, 0, none⟩))).run Tryd.prog W1 = .ok (.tuple #[.int .i64 x, .agg #[.slice none 0 0, .int .i64 z]]) W1 → wpList Tryd.prog ops Q rest (a.put o.dst (.tuple #[.bool true, .int .i64 x, .agg #[.slice none 0 0, .int .i64 z]])) W1) : wpList Tryd.prog ops Q (o :: rest) a W := by
  obtain ⟨hs0, hph, hrg⟩ := HM.now
  have hap := hrg.apart HM
  have hlt := hrg.lt
  obtain ⟨k, D, left, h0, hf⟩ := hrg
  have hne := h0.ne
  refine wpList_next_ranges W hg it ho 3 law3 cR (Value.int .i64) (fun z => .agg #[.slice none 0 0, .int .i64 z]) (fun key kl hkey => by obtain ⟨x, rfl, _⟩ := Maps.keyOf_int_inv hk3 hkey; exact ⟨x, rfl⟩) (fun v y hv => by obtain ⟨z, rfl, _⟩ := cR_inv hv; exact ⟨z, rfl⟩)
    b r k D left cnt hit h0 (fun _ hl => hDone (fun x hx => by rw [← hf x hx]; exact hl _)) (fun x z kl y W1 cnt' hkey hlk hv hat h1 hlt1 hg1 hz hen => ?_)
  obtain ⟨x', ex, rfl, hwx⟩ := Maps.keyOf_int_inv hk3 hkey
  cases ex
  have hrg1 : Rg W1 b r (fun y => fl y && !(y == x)) cnt' := ⟨k, D, _, h1, fun y hy => by
    have hsk : (Lit.int .i64 y).sameKey (.int .i64 x) = (y == x) := by rw [Bool.eq_iff_iff]; simp [Lit.sameKey]
    show (left (.int .i64 y) && !(Lit.int .i64 y).sameKey (.int .i64 x)) = _
    rw [hf y hy, hsk]⟩
  refine hMore x z W1 cnt' hwx (by rw [← hf x hwx]; exact hlk) hlt1 (Mem.turn (K := r :: b :: K) (Ψ' := fun w => Φ w ∧ Rg w b r (fun y => fl y && !(y == x)) cnt') HM hS0 hg1 (fun k e => by cases e; exact List.mem_cons_self) (fun k hk => ?_) (fun W' hW => ⟨hΦ W W' (fun k hk => (hW k (List.mem_cons_of_mem _ (List.mem_cons_of_mem _ hk))).trans (hg1.block k (hK k hk).2.2.1 (fun e => (hK k hk).2.2.2 (Option.some.inj e)))) hph, hrg1.same (hW b (List.mem_cons_of_mem _ List.mem_cons_self)) (hW r List.mem_cons_self)⟩)) hen
  rcases List.mem_cons.1 hk with rfl | hk
  · exact ⟨hr, hap.2, by omega⟩
  · rcases List.mem_cons.1 hk with rfl | hk
    · exact ⟨hb, hap.1, by omega⟩
    · exact ⟨(hK k hk).1, (hK k hk).2.1, by have := (hK k hk).2.2.1; omega⟩
end
end Go.Proofs.YtolpamojbiipaaaDoor.XA
/- tree.Contents, walked by hand over Mem. Printed by wip/tools/gen_contents.py. -/


namespace Go.Proofs.YtolpamojbiipaaaDoor.XA
open Go.RowKit Go.Proofs.YtolpamojbiipaaaDoorW.PrintWords Go.Proofs.YtolpamojbiipaaaDoorW.PrintLast Go.Proofs.YtolpamojbiipaaaDoorW.PrintMore Go.Proofs.YtolpamojbiipaaaDoor.Mem Go.Proofs.YtolpamojbiipaaaDoor.Pure
set_option linter.unusedVariables false
set_option linter.unusedSimpArgs false

theorem cont_of (r : S44) : ((rowL r).drop 10).take 2 = [.slice none 0 0, .int .i64 r.f2.f8.f1] := rfl
/-- The contents of the files of some rows: by numbers; how many. -/
def conGo (q : (Int → Option Int) × Nat) (r : S44) : (Int → Option Int) × Nat := if r.f2.f0 = 1 then (putF q.1 r.f1 r.f2.f8.f1, putN q.1 q.2 r.f1) else q
def con (l : List S44) : (Int → Option Int) × Nat := l.foldl conGo (fun _ => none, 0)
set_option maxHeartbeats 8000000 in
set_option maxRecDepth 100000 in
theorem contents_walk (w : World) (P : Nat → Prop) (A : Option Addr) (c : Nat) (l : List S44) (n : Int) (hF : ∀ W', (∀ k, k < w.heap.size → P k → W'.heap[k]? = w.heap[k]?) → Tr A l W') (hl : l.length ≤ 900000) (hids : ∀ r ∈ l, (Lit.int .i64 r.f1).wf = true) :
    Calls Tryd.prog 35 #[.agg #[.slice A l.length c, .int .i64 n]] w fun e w' => ∃ b, e = .returned (.map (some b)) ∧ w.heap.size ≤ b ∧ MapC w' b 900000 (con l).1 (con l).2 ∧ Below w.heap.size w w' := by
  have HM : Aside0 (Mem w P w [] (Tr A l)) := ⟨Mem.start hF⟩
  have HS := Aside0.mk hF
  have HI := Aside0.mk hids
  have hlz0 : (l.length : Int) ≤ 900000 := by omega
  clear hF hids
  go_enter Tryd.func35, Tryd.ntmps35
  go_wp2_with (first|go_skip|((with_reducible refine gate_dst (N := 1) rfl ?_);(with_reducible refine' bn HM ?qw rfl _ ?qx ?_);(case qw|qx=>rfl);clear HM;intro g1 _ HM)|((with_reducible refine' lc HM ?qw rfl ?qx ?qm ?qa ?qv ?_);(case qw|qx|qa=>rfl);(case qm=>repeat constructor);(case qv=>rfl))|((with_reducible refine' la HM ?qw rfl ?qx ?qm ?qa ?_);(case qw|qx=>rfl);(case qm=>repeat constructor);(case qa=>rfl))|((with_reducible refine' load_part (ty := 40) HM.out ?hw rfl ?hx ?hm agg40 _ (cont_of _) rfl ?_); (case hw => rfl); (case hx => rfl); (case hm => first | exact m0 | exact m1 | exact m2))|((with_reducible refine' pa HM ?qw rfl ?qx _ ?qy ?qm ?qa ?_);(case qw|qx|qy=>rfl);(case qm=>repeat constructor);(case qa=>rfl);clear HM;intro _ HM)|((with_reducible refine' bz HM ?qw rfl ?qa ?qc ?_);(case qw|qa|qc=>rfl);clear HM;intro _ _ HM)|((with_reducible refine' make_map HM.out ?hw rfl ?_); (case hw => rfl); intro b _ hb hM; clear HM;have HM:=Aside0.mk hM;clear hM; have HB := Aside0.mk hb; clear hb))
  go_loopw [10] (fun v10 wr => ∃ (i k : Nat), v10 = .int .i64 i ∧ Aside0 (i ≤ l.length) ∧ Aside0 (k ≤ i) ∧
    Aside0 (Mem w P wr [(g1, [.slice A l.length c, .int .i64 n], 35)] (fun w => Tr A l w ∧ True ∧ MapC w b k (con (l.take i)).1 (con (l.take i)).2))) (fun v10 _ => l.length - (intOf v10).toNat)
  case atStart => exact ⟨0, 0, rfl, ⟨Nat.zero_le _⟩, ⟨Nat.le_refl _⟩, ⟨HM.out.imp (fun w h => ⟨h.1, trivial, h.2⟩)⟩⟩
  case round =>
    clear HM
    obtain ⟨i, k, rfl, HIX, HK, HM⟩ := hrel
    have hib : (i : Int) ≤ 900000 := by have := HIX.out; omega
    have HNB := Aside0.mk (show k ≤ 1000000 by have := HK.out; have := HIX.out; omega)
    by_cases hlt : i < l.length
    · have hlz : (i : Int) < (l.length : Int) := by omega
      obtain ⟨ad, ea, hx0, hx1, hx2, hx3, hx4, hx5, hx6, hx7, hx8, hx9, hx10, hx11, hx12⟩ := at_T44 HM.out.now.1 (i : Int) (by omega) (by omega)
      have hrd : rd_T44 l (i : Int) = l[i] := by unfold rd_T44; rw [Int.toNat_natCast, List.getD_eq_getElem?_getD, List.getElem?_eq_getElem hlt]; rfl
      have hsucc : con (l.take (i + 1)) = conGo (con (l.take i)) l[i] := by unfold con; rw [List.take_succ_eq_append_getElem hlt, List.foldl_append]; rfl
      have HWF := Aside0.mk (HI.out _ (List.getElem_mem hlt))
      rw [Int.toNat_natCast, hrd] at hx0 hx1 hx2 hx3 hx4 hx5 hx6 hx7 hx8 hx9 hx11 hx12
      rw [Int.toNat_natCast] at hx10
      generalize l[i] = y at hx0 hx1 hx2 hx3 hx4 hx5 hx6 hx7 hx8 hx9 hx11 hx12 hsucc HWF
      have HSU := Aside0.mk hsucc
      clear hrd hsucc
      subst ea
      go_upto_region 5 with (first|go_skip|((with_reducible refine gate_dst (N := 1) rfl ?_);(with_reducible refine' bn HM ?qw rfl _ ?qx ?_);(case qw|qx=>rfl);clear HM;intro g1 _ HM)|((with_reducible refine' lc HM ?qw rfl ?qx ?qm ?qa ?qv ?_);(case qw|qx|qa=>rfl);(case qm=>repeat constructor);(case qv=>rfl))|((with_reducible refine' la HM ?qw rfl ?qx ?qm ?qa ?_);(case qw|qx=>rfl);(case qm=>repeat constructor);(case qa=>rfl))|((with_reducible refine' load_part (ty := 40) HM.out ?hw rfl ?hx ?hm agg40 _ (cont_of _) rfl ?_); (case hw => rfl); (case hx => rfl); (case hm => first | exact m0 | exact m1 | exact m2))|((with_reducible refine' pa HM ?qw rfl ?qx _ ?qy ?qm ?qa ?_);(case qw|qx|qy=>rfl);(case qm=>repeat constructor);(case qa=>rfl);clear HM;intro _ HM)|((with_reducible refine' bz HM ?qw rfl ?qa ?qc ?_);(case qw|qa|qc=>rfl);clear HM;intro _ _ HM))
      clear hx0 hx1 hx2 hx3 hx4 hx5 hx6 hx7 hx8 hx9 hx10 hx11 hx12
      have hrow : ∀ (q : S44), [Value.string q.f0, .int .i64 q.f1, .int .i64 q.f2.f0, .int .i64 q.f2.f1, .int .i64 q.f2.f2, .int .i64 q.f2.f3, .int .i64 q.f2.f4, .string q.f2.f5, .string q.f2.f6, .string q.f2.f7, .slice none 0 0, .int .i64 q.f2.f8.f1, .bool q.f2.f9] = rowL q := fun _ => rfl
      rw [hrow] at HM
      clear hrow
      by_cases h1 : y.f2.f0 = 1
      · have b1 : (y.f2.f0 == 1) = true := beq_iff_eq.2 h1
        have hco : conGo (con (l.take i)) y = (putF (con (l.take i)).1 y.f1 y.f2.f8.f1, putN (con (l.take i)).1 (con (l.take i)).2 y.f1) := if_pos h1
        rw [hco] at HSU
        clear hco h1
        go_wp2_with (first|go_skip|((with_reducible refine gate_dst (N := 1) rfl ?_);(with_reducible refine' bn HM ?qw rfl _ ?qx ?_);(case qw|qx=>rfl);clear HM;intro g1 _ HM)|((with_reducible refine' lc HM ?qw rfl ?qx ?qm ?qa ?qv ?_);(case qw|qx|qa=>rfl);(case qm=>repeat constructor);(case qv=>rfl))|((with_reducible refine' la HM ?qw rfl ?qx ?qm ?qa ?_);(case qw|qx=>rfl);(case qm=>repeat constructor);(case qa=>rfl))|((with_reducible refine' load_part (ty := 40) HM.out ?hw rfl ?hx ?hm agg40 _ (cont_of _) rfl ?_); (case hw => rfl); (case hx => rfl); (case hm => first | exact m0 | exact m1 | exact m2))|((with_reducible refine' pa HM ?qw rfl ?qx _ ?qy ?qm ?qa ?_);(case qw|qx|qy=>rfl);(case qm=>repeat constructor);(case qa=>rfl);clear HM;intro _ HM)|((with_reducible refine' bz HM ?qw rfl ?qa ?qc ?_);(case qw|qa|qc=>rfl);clear HM;intro _ _ HM)|(at_mapUpdate; ((with_reducible refine' update_map (K := []) (Φ := fun _ => True) HM.out HS.out (fun _ _ _ h => h) (fun k hk => absurd hk List.not_mem_nil) HB.out HNB.out rfl rfl ?hm ?hx HWF.out ?hv ?_); (case hm => rfl); (case hx => rfl); (case hv => rfl); intro _ hM; clear HM;have HM:=Aside0.mk hM;clear hM)))
        go_roundw
        case rel => exact ⟨i + 1, k + 1, by go_num, ⟨by omega⟩, ⟨by have := HK.out; omega⟩, ⟨by rw [HSU.out]; exact HM.out.drop⟩⟩
        case measure => simp [intOf]; omega
      · have b1 : (y.f2.f0 == 1) = false := beq_eq_false_iff_ne.2 h1
        have hco : conGo (con (l.take i)) y = con (l.take i) := if_neg h1
        rw [hco] at HSU
        clear hco h1
        go_wp2_with (first|go_skip|((with_reducible refine gate_dst (N := 1) rfl ?_);(with_reducible refine' bn HM ?qw rfl _ ?qx ?_);(case qw|qx=>rfl);clear HM;intro g1 _ HM)|((with_reducible refine' lc HM ?qw rfl ?qx ?qm ?qa ?qv ?_);(case qw|qx|qa=>rfl);(case qm=>repeat constructor);(case qv=>rfl))|((with_reducible refine' la HM ?qw rfl ?qx ?qm ?qa ?_);(case qw|qx=>rfl);(case qm=>repeat constructor);(case qa=>rfl))|((with_reducible refine' load_part (ty := 40) HM.out ?hw rfl ?hx ?hm agg40 _ (cont_of _) rfl ?_); (case hw => rfl); (case hx => rfl); (case hm => first | exact m0 | exact m1 | exact m2))|((with_reducible refine' pa HM ?qw rfl ?qx _ ?qy ?qm ?qa ?_);(case qw|qx|qy=>rfl);(case qm=>repeat constructor);(case qa=>rfl);clear HM;intro _ HM)|((with_reducible refine' bz HM ?qw rfl ?qa ?qc ?_);(case qw|qa|qc=>rfl);clear HM;intro _ _ HM))
        go_roundw
        case rel => exact ⟨i + 1, k, by go_num, ⟨by omega⟩, ⟨by have := HK.out; omega⟩, ⟨by rw [HSU.out]; exact HM.out.drop⟩⟩
        case measure => simp [intOf]; omega
    · have hil : i = l.length := by have := HIX.out; omega
      have hlz : ¬ ((i : Int) < (l.length : Int)) := by omega
      go_wp2_with (first|go_skip|((with_reducible refine gate_dst (N := 1) rfl ?_);(with_reducible refine' bn HM ?qw rfl _ ?qx ?_);(case qw|qx=>rfl);clear HM;intro g1 _ HM)|((with_reducible refine' lc HM ?qw rfl ?qx ?qm ?qa ?qv ?_);(case qw|qx|qa=>rfl);(case qm=>repeat constructor);(case qv=>rfl))|((with_reducible refine' la HM ?qw rfl ?qx ?qm ?qa ?_);(case qw|qx=>rfl);(case qm=>repeat constructor);(case qa=>rfl))|((with_reducible refine' load_part (ty := 40) HM.out ?hw rfl ?hx ?hm agg40 _ (cont_of _) rfl ?_); (case hw => rfl); (case hx => rfl); (case hm => first | exact m0 | exact m1 | exact m2))|((with_reducible refine' pa HM ?qw rfl ?qx _ ?qy ?qm ?qa ?_);(case qw|qx|qy=>rfl);(case qm=>repeat constructor);(case qa=>rfl);clear HM;intro _ HM)|((with_reducible refine' bz HM ?qw rfl ?qa ?qc ?_);(case qw|qa|qc=>rfl);clear HM;intro _ _ HM))
      go_ret
      subst hil
      rw [List.take_length] at HM
      obtain ⟨_, _, k0, D, h0, h1, h2, h3⟩ := HM.out.now
      exact ⟨b, rfl, HB.out, ⟨k0, D, h0, by have := HK.out; omega, h2, h3⟩, HM.out.below⟩
theorem contents_M {w0 W : World} {P : Nat → Prop} {B : List Bx} {S : World → Prop} {A : Option Addr} {c : Nat} {l : List S44} {n m : Int} (HM : Mem w0 P W B S) (hS : ∀ w, S w → Tr A l w) (hI : ∀ r ∈ l, 0 ≤ r.f1 ∧ r.f1 < m) (hl : l.length ≤ 900000) (hm : m ≤ 900000) :
    Calls Tryd.prog 35 #[.agg #[.slice A l.length c, .int .i64 n]] W fun e w' => ∃ b, e = .returned (.map (some b)) ∧ W.heap.size ≤ b ∧ w0.heap.size ≤ b ∧ Mem w0 P w' B (fun w => S w ∧ MapC w b 900000 (con l).1 (con l).2) := by
  refine (contents_walk W (fun k => k ∉ B.map (·.1) ∧ (P k ∨ w0.heap.size ≤ k)) A c l n (fun W' hW => hS _ (HM.old W' (fun k hk hp => hW k hk hp))) hl (fun r hr => by
    have h2 := hI r hr
    simp only [Lit.wf, IntKind.min, IntKind.max, IntKind.signed, IntKind.bits, Bool.and_eq_true, decide_eq_true_eq]
    simp
    omega)).mono ?_
  rintro e w' ⟨b, rfl, hb, hmap, hbl⟩
  exact ⟨b, rfl, hb, Nat.le_trans HM.below.size hb, HM.add hbl (fun W' h => hmap.same (h b hmap.lt (.inr hb)))⟩
set_option maxHeartbeats 4000000 in
set_option maxRecDepth 100000 in
theorem files_M {w0 W : World} {P : Nat → Prop} {B : List Bx} {S : World → Prop} {A : Option Addr} {c : Nat} {l : List S44} {n m : Int} (hM : Mem w0 P W B S) (hS : ∀ w, S w → Tr A l w) (hI : ∀ r ∈ l, 0 ≤ r.f1 ∧ r.f1 < m) (hl : l.length ≤ 900000) (hm : m ≤ 900000) :
    Calls Tryd.prog 33 #[.agg #[.slice A l.length c, .int .i64 n]] W fun e w' => e = .returned (.int .i64 (con l).2) ∧ Mem w0 P w' B S := by
  have HM := Aside0.mk hM
  have HS := Aside0.mk hS
  have HI := Aside0.mk hI
  have HL := Aside0.mk hl
  have HN := Aside0.mk hm
  clear hM hS hI hl hm
  go_enter Tryd.func33, Tryd.ntmps33
  go_wp2_with (first|go_skip|((with_reducible refine gate_dst (N := 1) rfl ?_);(with_reducible refine' bn HM ?qw rfl _ ?qx ?_);(case qw|qx=>rfl);clear HM;intro g1 _ HM)|((with_reducible refine' la HM ?qw rfl ?qx ?qm ?qa ?_);(case qw|qx=>rfl);(case qm=>repeat constructor);(case qa=>rfl))|(go_at_call 35;refine (contents_M HM.out HS.out HI.out HL.out HN.out).mono ?_;rintro e _ ⟨b, rfl, hb, _, hM⟩;have HB := Aside0.mk hb; clear hb; clear HM;have HM:=Aside0.mk hM;clear hM)|(at_len; ((with_reducible refine' len_map HM.out.now.2 rfl rfl ?hm ?_); (case hm => rfl))))
  go_ret
  exact ⟨rfl, HM.out.drop.imp (fun w h => h.1)⟩
end Go.Proofs.YtolpamojbiipaaaDoor.XA
/- merge.Gone, walked by hand over Mem. Printed by wip/tools/gen_gone.py. -/




namespace Go.Proofs.YtolpamojbiipaaaDoor.XA
open Go.RowKit Go.Proofs.YtolpamojbiipaaaDoorW.PrintWords Go.Proofs.YtolpamojbiipaaaDoorW.PrintLast Go.Proofs.YtolpamojbiipaaaDoorW.PrintMore Go.Proofs.YtolpamojbiipaaaDoor.Mem Go.Proofs.YtolpamojbiipaaaDoor.Pure
set_option linter.unusedVariables false
set_option linter.unusedSimpArgs false

/-- The sizes of what is in g, by rows, each number once. -/
def goneGo : List S44 → (Int → Option Int) → List Int
  | [], _ => []
  | r :: t, g => match g r.f1 with | some z => z :: goneGo t (delF g r.f1) | none => goneGo t g
def goneF (l l2 : List S44) : Int → Option Int := fun x => if ((con l2).1 x).isSome then none else (con l).1 x
def contsL (xs : List Int) : List Value := (xs.map (fun z => [Value.slice none 0 0, Value.int .i64 z])).flatten
theorem contsL_app (xs : List Int) (z : Int) : contsL (xs ++ [z]) = contsL xs ++ [.slice none 0 0, .int .i64 z] := by simp [contsL]
/-- A row of contents that lies in w. -/
def Ct (A : Option Addr) (xs : List Int) (w : World) : Prop := xs = [] ∨ ∃ g sp, A = some ⟨g, 0, none⟩ ∧ w.heap[g]? = some (.cells (contsL xs ++ sp).toArray 40 (0, 0))
theorem info40 : (Tryd.prog.info? 40).map (fun i => (i.zero, i.size, i.bytes)) = some (some (.agg #[.slice none 0 0, .int .i64 0]), 2, 32) := by kernel_rfl
theorem lookup_some {W : World} {b n m : Nat} {f : Int → Option Int} {i z : Int} {ops : Array Oper} {rest : List Oper} {o : Oper} {a : Act} {Q : Exit → Act → World → Prop} {mo x : Operand} (hmap : MapC W b n f m) (hg : o.guard = none) (ho : o.op = .lookup 78 mo x true) (hm : a.eval mo = .map (some b)) (hx : a.eval x = .int .i64 i) (hi : (Lit.int .i64 i).wf = true) (hf : f i = some z)
    (h : wpList Tryd.prog ops Q rest (a.put o.dst (.tuple #[.agg #[.slice none 0 0, .int .i64 z], .bool true])) W) : wpList Tryd.prog ops Q (o :: rest) a W :=
  lookup_map hmap hg ho hm hx hi (fun z' hz => by rw [hz z hf, hf]; exact h)
theorem lookup_none {W : World} {b n m : Nat} {f : Int → Option Int} {i : Int} {ops : Array Oper} {rest : List Oper} {o : Oper} {a : Act} {Q : Exit → Act → World → Prop} {mo x : Operand} (hmap : MapC W b n f m) (hg : o.guard = none) (ho : o.op = .lookup 78 mo x true) (hm : a.eval mo = .map (some b)) (hx : a.eval x = .int .i64 i) (hi : (Lit.int .i64 i).wf = true) (hf : f i = none)
    (h : ∀ z, wpList Tryd.prog ops Q rest (a.put o.dst (.tuple #[.agg #[.slice none 0 0, .int .i64 z], .bool false])) W) : wpList Tryd.prog ops Q (o :: rest) a W :=
  lookup_map hmap hg ho hm hx hi (fun z' hz => by rw [hf]; exact h z')
theorem kk {w0 W : World} {P : Nat → Prop} {B : List Bx} {S : World → Prop} {b1 b2 r cnt : Nat} {fl : Int → Bool} (HM : Mem w0 P W B S) (h : Rg W b2 r fl cnt) (h2 : w0.heap.size ≤ b2) (hr : w0.heap.size ≤ r) (hbb : b1 < b2) (hbr : b2 < r) : ∀ k ∈ [b2, r], w0.heap.size ≤ k ∧ k ∉ B.map (·.1) ∧ k < W.heap.size ∧ k ≠ b1 := by
  intro k hk
  have ha := h.apart HM
  have hl := h.lt
  simp only [List.mem_cons, List.not_mem_nil, or_false] at hk
  rcases hk with rfl | rfl
  · exact ⟨h2, ha.1, hl.1, by omega⟩
  · exact ⟨hr, ha.2, hl.2, by omega⟩
theorem goneGo_congr : ∀ (l : List S44) (f g : Int → Option Int), (∀ r ∈ l, f r.f1 = g r.f1) → goneGo l f = goneGo l g
  | [], _, _, _ => rfl
  | r :: t, f, g, h => by
    rw [goneGo, goneGo, h r List.mem_cons_self]
    cases g r.f1 with
    | none => exact goneGo_congr t f g (fun x hx => h x (List.mem_cons_of_mem _ hx))
    | some z =>
      simp only
      rw [goneGo_congr t (delF f r.f1) (delF g r.f1) (fun x hx => by unfold delF; rw [h x (List.mem_cons_of_mem _ hx)])]
set_option maxHeartbeats 8000000 in
set_option maxRecDepth 100000 in
theorem gone_walk (w : World) (P : Nat → Prop) (A A2 : Option Addr) (c c2 : Nat) (l l2 : List S44) (n n2 m m2 : Int) (hF : ∀ W', (∀ k, k < w.heap.size → P k → W'.heap[k]? = w.heap[k]?) → Tr A l W' ∧ Tr A2 l2 W') (hI : ∀ r ∈ l, 0 ≤ r.f1 ∧ r.f1 < m) (hI2 : ∀ r ∈ l2, 0 ≤ r.f1 ∧ r.f1 < m2) (hl : l.length ≤ 900000) (hl2 : l2.length ≤ 900000) (hm : m ≤ 900000) (hm2 : m2 ≤ 900000) :
    Calls Tryd.prog 34 #[.agg #[.slice A l.length c, .int .i64 n], .agg #[.slice A2 l2.length c2, .int .i64 n2]] w fun e w' => ∃ Ao co, e = .returned (.slice Ao (goneGo l (goneF l l2)).length co) ∧ Mem w P w' [] (Ct Ao (goneGo l (goneF l l2))) := by
  have HM : Aside0 (Mem w P w [] (fun w => Tr A l w ∧ Tr A2 l2 w)) := ⟨Mem.start hF⟩
  have HS := Aside0.mk hF
  have HI := Aside0.mk hI
  have HI2 := Aside0.mk hI2
  have HL := Aside0.mk hl
  have HL2 := Aside0.mk hl2
  have HN := Aside0.mk hm
  have HN2 := Aside0.mk hm2
  have hlz0 : (l.length : Int) ≤ 900000 := by omega
  clear hF hI hI2 hl hl2 hm hm2
  go_enter Tryd.func34, Tryd.ntmps34
  go_upto_region 2 with (first|go_skip|((with_reducible refine gate_dst (N := 2) rfl ?_);(with_reducible refine' bn HM ?qw rfl _ ?qx ?_);(case qw|qx=>rfl);clear HM;intro g2 _ HM)|((with_reducible refine gate_dst (N := 3) rfl ?_);(with_reducible refine' bn HM ?qw rfl _ ?qx ?_);(case qw|qx=>rfl);clear HM;intro g3 _ HM)|((with_reducible refine' lc HM ?qw rfl ?qx ?qm ?qa ?qv ?_);(case qw|qx|qa=>rfl);(case qm=>repeat constructor);(case qv=>rfl))|((with_reducible refine' la HM ?qw rfl ?qx ?qm ?qa ?_);(case qw|qx=>rfl);(case qm=>repeat constructor);(case qa=>rfl))|((with_reducible refine' pa HM ?qw rfl ?qx _ ?qy ?qm ?qa ?_);(case qw|qx|qy=>rfl);(case qm=>repeat constructor);(case qa=>rfl);clear HM;intro _ HM)|((with_reducible refine' bz HM ?qw rfl ?qa ?qc ?_);(case qw|qa|qc=>rfl);clear HM;intro _ _ HM)|(go_at_call 35; (refine (contents_M HM.out ?hS HI.out HL.out HN.out).mono ?_); (case hS => exact fun _ h => h.1); rintro e _ ⟨b1, rfl, _, h1, hM⟩; have HB1 := Aside0.mk h1; clear h1; clear HM;have HM:=Aside0.mk hM;clear hM))
  go_wp2_with (first|go_skip|((with_reducible refine gate_dst (N := 2) rfl ?_);(with_reducible refine' bn HM ?qw rfl _ ?qx ?_);(case qw|qx=>rfl);clear HM;intro g2 _ HM)|((with_reducible refine gate_dst (N := 3) rfl ?_);(with_reducible refine' bn HM ?qw rfl _ ?qx ?_);(case qw|qx=>rfl);clear HM;intro g3 _ HM)|((with_reducible refine' lc HM ?qw rfl ?qx ?qm ?qa ?qv ?_);(case qw|qx|qa=>rfl);(case qm=>repeat constructor);(case qv=>rfl))|((with_reducible refine' la HM ?qw rfl ?qx ?qm ?qa ?_);(case qw|qx=>rfl);(case qm=>repeat constructor);(case qa=>rfl))|((with_reducible refine' pa HM ?qw rfl ?qx _ ?qy ?qm ?qa ?_);(case qw|qx|qy=>rfl);(case qm=>repeat constructor);(case qa=>rfl);clear HM;intro _ HM)|((with_reducible refine' bz HM ?qw rfl ?qa ?qc ?_);(case qw|qa|qc=>rfl);clear HM;intro _ _ HM)|(go_at_call 35; (refine (contents_M HM.out ?hS HI2.out HL2.out HN2.out).mono ?_); (case hS => exact fun _ h => h.1.2); rintro e _ ⟨b2, rfl, h3, h2, hM⟩; have HB2 := Aside0.mk h2; have HBB := Aside0.mk (Nat.lt_of_lt_of_le HM.out.now.2.lt h3); clear h2 h3; clear HM;have HM:=Aside0.mk hM;clear hM)|(at_range; (with_reducible refine' range_map HM.out HB2.out rfl rfl ?hm ?_); (case hm => rfl); intro r cnt0 _ hr hbr hnr hM; clear HM;have HM:=Aside0.mk hM;clear hM; have HR := Aside0.mk hr; have HBR := Aside0.mk hbr; clear hr hbr hnr))
  go_frame
  go_loopw [6] (fun v6 wr => ∃ (cnt : Nat) (fl : Int → Bool) (g : Int → Option Int) (mm : Nat) (v : Value), v6 = v ∧ Aside0 (∀ x, (Lit.int .i64 x).wf = true → g x = if ((con l2).1 x).isSome = true ∧ fl x = false then none else (con l).1 x) ∧ Aside0 (∀ x, fl x = true → ((con l2).1 x).isSome = true) ∧
    Aside0 (Mem w P wr [(g3, [.slice A2 l2.length c2, .int .i64 n2], 35), (g2, [.slice A l.length c, .int .i64 n], 35)] (fun w => (Tr A l w ∧ Tr A2 l2 w) ∧ MapC w b1 900000 g mm ∧ Rg w b2 r fl cnt))) (fun _ wr => wr.rangeLeft b2 r)
  case atStart => exact ⟨cnt0, _, (con l).1, (con l).2, _, rfl, ⟨fun x _ => by rw [if_neg]; rintro ⟨h1, h2⟩; rw [h1] at h2; cases h2⟩, ⟨fun x h => h⟩, ⟨HM.out.imp (fun w h => ⟨h.1.1, h.1.2, h.2⟩)⟩⟩
  case round =>
    clear HM
    obtain ⟨cnt, fl, g, mm, v, rfl, HG, HFL, HM⟩ := hrel
    have HLE := Aside0.mk (Rg.left HM.out.now.2.2)
    have HK1 : Aside0 (∀ k ∈ [b1], w.heap.size ≤ k ∧ k ∉ List.map (·.1) [(g3, [Value.slice A2 l2.length c2, .int .i64 n2], 35), (g2, [.slice A l.length c, .int .i64 n], 35)] ∧ k < _ ∧ k ≠ r) := ⟨fun k hk => by
      rw [List.mem_singleton.1 hk]
      exact ⟨HB1.out, HM.out.now.2.1.apart HM.out, HM.out.now.2.1.lt, by have := HBB.out; have := HBR.out; omega⟩⟩
    go_wp2_with (first|go_skip|((with_reducible refine gate_dst (N := 2) rfl ?_);(with_reducible refine' bn HM ?qw rfl _ ?qx ?_);(case qw|qx=>rfl);clear HM;intro g2 _ HM)|((with_reducible refine gate_dst (N := 3) rfl ?_);(with_reducible refine' bn HM ?qw rfl _ ?qx ?_);(case qw|qx=>rfl);clear HM;intro g3 _ HM)|((with_reducible refine' lc HM ?qw rfl ?qx ?qm ?qa ?qv ?_);(case qw|qx|qa=>rfl);(case qm=>repeat constructor);(case qv=>rfl))|((with_reducible refine' la HM ?qw rfl ?qx ?qm ?qa ?_);(case qw|qx=>rfl);(case qm=>repeat constructor);(case qa=>rfl))|((with_reducible refine' pa HM ?qw rfl ?qx _ ?qy ?qm ?qa ?_);(case qw|qx|qy=>rfl);(case qm=>repeat constructor);(case qa=>rfl);clear HM;intro _ HM)|((with_reducible refine' bz HM ?qw rfl ?qa ?qc ?_);(case qw|qa|qc=>rfl);clear HM;intro _ _ HM)|(at_next; (with_reducible refine' next_map (K := [b1]) (Φ := fun w => MapC w b1 900000 g mm) HM.out HS.out ?hΦ ?hK HB2.out HR.out rfl rfl ?hit ?hd ?hmo); (case hΦ => exact fun W W' h hm => hm.same (h b1 List.mem_cons_self)); (case hK => exact HK1.out); (case hit => rfl); intro hd; have HD := Aside0.mk hd; clear hd; rotate_left; intro x z _ cnt1 hwx hfx hlt1 hM hen; have HX := Aside0.mk (And.intro hwx hfx); have HLT := Aside0.mk hlt1; clear hwx hfx hlt1; clear HM;have HM:=Aside0.mk hM;clear hM; rotate_left)|(at_delete; (with_reducible refine' delete_map (K := [b2, r]) (Φ := fun w => Rg w b2 r (fun y => fl y && !(y == x)) cnt1) (HM.out.imp (fun w h => ⟨h.1, h.2.2, h.2.1⟩)) HS.out ?hΦ ?hK HB1.out rfl rfl ?hm ?hx HX.out.1 ?_); (case hΦ => exact fun W W' h hm => hm.same (h b2 List.mem_cons_self) (h r (List.mem_cons_of_mem _ List.mem_cons_self))); (case hK => exact kk HM.out HM.out.now.2.2 HB2.out HR.out HBB.out HBR.out); (case hm => rfl); (case hx => rfl); intro _ hM; clear HM;have HM:=Aside0.mk hM;clear hM))
    rotate_left
    · go_roundw
      case rel => exact ⟨_, _, _, _, _, _, _, ⟨cnt1, _, _, _, _, rfl, ⟨fun y hy => by
          unfold delF
          by_cases e : y = x
          · subst e
            rw [if_pos rfl, if_pos ⟨HFL.out _ HX.out.2, by simp⟩]
          · rw [if_neg e, HG.out y hy]
            simp [e]⟩, ⟨fun y h => HFL.out y (by simp only [Bool.and_eq_true] at h; exact h.1)⟩, ⟨HM.out.imp (fun w h => ⟨h.1, h.2.2, h.2.1⟩)⟩⟩, rfl⟩
      case measure =>
        have e1 := Rg.left HM.out.now.2.1
        rw [e1, HLE.out]
        exact HLT.out
    have hgg : goneGo l g = goneGo l (goneF l l2) := goneGo_congr l g (goneF l l2) (fun y hy => by
      have hwf : (Lit.int .i64 y.f1).wf = true := by
        have h2 := HI.out y hy
        have := HN.out
        simp only [Lit.wf, IntKind.min, IntKind.max, IntKind.signed, IntKind.bits, Bool.and_eq_true, decide_eq_true_eq]
        simp
        omega
      rw [HG.out _ hwf, HD.out _ hwf]
      unfold goneF
      simp)
    have HGG := Aside0.mk hgg
    clear hgg HG HFL HD HLE HK1
    go_loopw [7, 26] (fun v7 v26 wr => ∃ (i : Nat) (g' : Int → Option Int) (m' : Nat) (out : List Int) (v : Value) (X : List Bx), v26 = .int .i64 i ∧ v7 = v ∧ Aside0 (i ≤ l.length) ∧ Aside0 (out.length ≤ i) ∧ Aside0 (out ++ goneGo (l.drop i) g' = goneGo l g) ∧ Aside0 (OwnB 40 2 v out.length (contsL out) X) ∧
      Aside0 (Mem w P wr ((g3, [.slice A2 l2.length c2, .int .i64 n2], 35) :: (g2, [.slice A l.length c, .int .i64 n], 35) :: X) (fun w => (Tr A l w ∧ Tr A2 l2 w) ∧ True ∧ MapC w b1 900000 g' m'))) (fun _ v26 _ => l.length - (intOf v26).toNat)
    case atStart => exact ⟨0, g, mm, [], _, [], rfl, rfl, ⟨Nat.zero_le _⟩, ⟨Nat.le_refl _⟩, ⟨rfl⟩, ⟨OwnB.nil _ _⟩, ⟨HM.out.imp (fun w h => ⟨h.1, trivial, h.2.1⟩)⟩⟩
    case round =>
      clear HM
      obtain ⟨i, g', m', out, v, X, rfl, rfl, HIX, HNI, HO, HOW, HM⟩ := hrel
      have hib : (i : Int) ≤ 900000 := by have := HIX.out; omega
      have HNS := Aside0.mk (show out.length ≤ 900000 by have := HNI.out; omega)
      by_cases hlt : i < l.length
      · have hlz : (i : Int) < (l.length : Int) := by omega
        obtain ⟨ad, ea, hx0, hx1, hx2, hx3, hx4, hx5, hx6, hx7, hx8, hx9, hx10, hx11, hx12⟩ := at_T44 HM.out.now.1.1 (i : Int) (by omega) (by omega)
        have hrd : rd_T44 l (i : Int) = l[i] := by unfold rd_T44; rw [Int.toNat_natCast, List.getD_eq_getElem?_getD, List.getElem?_eq_getElem hlt]; rfl
        have ho := HO.out
        rw [List.drop_eq_getElem_cons hlt, goneGo] at ho
        have HWF := Aside0.mk (show (Lit.int .i64 l[i].f1).wf = true by
          have h2 := HI.out _ (List.getElem_mem hlt)
          have := HN.out
          simp only [Lit.wf, IntKind.min, IntKind.max, IntKind.signed, IntKind.bits, Bool.and_eq_true, decide_eq_true_eq]
          simp
          omega)
        rw [Int.toNat_natCast, hrd] at hx0 hx1 hx2 hx3 hx4 hx5 hx6 hx7 hx8 hx9 hx11 hx12
        rw [Int.toNat_natCast] at hx10
        generalize l[i] = y at hx0 hx1 hx2 hx3 hx4 hx5 hx6 hx7 hx8 hx9 hx11 hx12 ho HWF
        clear hrd HO
        subst ea
        obtain ⟨Ao, co, rfl⟩ := HOW.out.slice
        have hnn : (out.length : Int) ≤ 900000 := by have := HNS.out; omega
        go_upto_region 10 with (first|go_skip|((with_reducible refine gate_dst (N := 2) rfl ?_);(with_reducible refine' bn HM ?qw rfl _ ?qx ?_);(case qw|qx=>rfl);clear HM;intro g2 _ HM)|((with_reducible refine gate_dst (N := 3) rfl ?_);(with_reducible refine' bn HM ?qw rfl _ ?qx ?_);(case qw|qx=>rfl);clear HM;intro g3 _ HM)|((with_reducible refine' lc HM ?qw rfl ?qx ?qm ?qa ?qv ?_);(case qw|qx|qa=>rfl);(case qm=>repeat constructor);(case qv=>rfl))|((with_reducible refine' la HM ?qw rfl ?qx ?qm ?qa ?_);(case qw|qx=>rfl);(case qm=>repeat constructor);(case qa=>rfl))|((with_reducible refine' pa HM ?qw rfl ?qx _ ?qy ?qm ?qa ?_);(case qw|qx|qy=>rfl);(case qm=>repeat constructor);(case qa=>rfl);clear HM;intro _ HM)|((with_reducible refine' bz HM ?qw rfl ?qa ?qc ?_);(case qw|qa|qc=>rfl);clear HM;intro _ _ HM))
        clear hx0 hx1 hx2 hx3 hx4 hx5 hx6 hx7 hx8 hx9 hx10 hx11 hx12
        have hrow : ∀ (q : S44), [Value.string q.f0, .int .i64 q.f1, .int .i64 q.f2.f0, .int .i64 q.f2.f1, .int .i64 q.f2.f2, .int .i64 q.f2.f3, .int .i64 q.f2.f4, .string q.f2.f5, .string q.f2.f6, .string q.f2.f7, .slice none 0 0, .int .i64 q.f2.f8.f1, .bool q.f2.f9] = rowL q := fun _ => rfl
        rw [hrow] at HM
        clear hrow
        cases hq : g' y.f1 with
        | none =>
          rw [hq] at ho
          have HO := Aside0.mk ho
          have HQ := Aside0.mk hq
          have HOW2 := Aside0.mk HOW.out
          clear ho hq
          go_wp2_with (first|go_skip|((with_reducible refine gate_dst (N := 2) rfl ?_);(with_reducible refine' bn HM ?qw rfl _ ?qx ?_);(case qw|qx=>rfl);clear HM;intro g2 _ HM)|((with_reducible refine gate_dst (N := 3) rfl ?_);(with_reducible refine' bn HM ?qw rfl _ ?qx ?_);(case qw|qx=>rfl);clear HM;intro g3 _ HM)|((with_reducible refine' lc HM ?qw rfl ?qx ?qm ?qa ?qv ?_);(case qw|qx|qa=>rfl);(case qm=>repeat constructor);(case qv=>rfl))|((with_reducible refine' la HM ?qw rfl ?qx ?qm ?qa ?_);(case qw|qx=>rfl);(case qm=>repeat constructor);(case qa=>rfl))|((with_reducible refine' pa HM ?qw rfl ?qx _ ?qy ?qm ?qa ?_);(case qw|qx|qy=>rfl);(case qm=>repeat constructor);(case qa=>rfl);clear HM;intro _ HM)|((with_reducible refine' bz HM ?qw rfl ?qa ?qc ?_);(case qw|qa|qc=>rfl);clear HM;intro _ _ HM)|(at_lookup; (with_reducible refine' lookup_none HM.out.now.2.2 rfl rfl ?hm ?hx HWF.out HQ.out ?_); (case hm => rfl); (case hx => rfl); intro z0))
          go_roundw
          case rel => exact ⟨i + 1, g', m', out, _, X, by go_num, rfl, ⟨by omega⟩, ⟨by have := HNI.out; omega⟩, HO, HOW2, ⟨HM.out.drop.drop⟩⟩
          case measure => simp [intOf]; omega
        | some z =>
          rw [hq] at ho
          have HO : Aside0 ((out ++ [z]) ++ goneGo (l.drop (i + 1)) (delF g' y.f1) = goneGo l g) := ⟨by rw [List.append_assoc]; exact ho⟩
          have HQ := Aside0.mk hq
          obtain ⟨i0, hi0, hz0, hz1, hz2⟩ := info_parts info40
          clear ho hq
          go_wp2_with (first|go_skip|((with_reducible refine gate_dst (N := 2) rfl ?_);(with_reducible refine' bn HM ?qw rfl _ ?qx ?_);(case qw|qx=>rfl);clear HM;intro g2 _ HM)|((with_reducible refine gate_dst (N := 3) rfl ?_);(with_reducible refine' bn HM ?qw rfl _ ?qx ?_);(case qw|qx=>rfl);clear HM;intro g3 _ HM)|((with_reducible refine' lc HM ?qw rfl ?qx ?qm ?qa ?qv ?_);(case qw|qx|qa=>rfl);(case qm=>repeat constructor);(case qv=>rfl))|((with_reducible refine' la HM ?qw rfl ?qx ?qm ?qa ?_);(case qw|qx=>rfl);(case qm=>repeat constructor);(case qa=>rfl))|((with_reducible refine' pa HM ?qw rfl ?qx _ ?qy ?qm ?qa ?_);(case qw|qx|qy=>rfl);(case qm=>repeat constructor);(case qa=>rfl);clear HM;intro _ HM)|((with_reducible refine' bz HM ?qw rfl ?qa ?qc ?_);(case qw|qa|qc=>rfl);clear HM;intro _ _ HM)|(at_lookup; (with_reducible refine' lookup_some HM.out.now.2.2 rfl rfl ?hm ?hx HWF.out HQ.out ?_); (case hm => rfl); (case hx => rfl))|(at_builtin; refine append_tail (B := [_, _, _, _]) (news := [.slice none 0 0, .int .i64 z]) (HM.out.call (below_alloc (Below.refl _ _) _)) rfl rfl rfl Tryd.underlying76 hi0 hz0 hz1 hz2 rfl (by decide) HOW.out rfl _ rfl rfl ?hnews ?hone (by decide) ?hc1 ?hc2 ?_; (case hnews => intro j u hu; cases j with | zero => (injection hu with hu; subst hu; exact (blk_cell (blk_new _ _) 0).trans rfl) | succ j => (cases j with | zero => (injection hu with hu; subst hu; exact (blk_cell (blk_new _ _) 1).trans rfl) | succ j => simp at hu)); (case hone => intro u hu; simp only [List.mem_cons, List.not_mem_nil, or_false] at hu; rcases hu with rfl | rfl <;> rfl); (case hc1 => have := HNS.out; unfold maxLen; omega); (case hc2 => have := HNS.out; omega); intro v2 X2 _ hO hM; clear HOW; have HOW := Aside0.mk hO; simp only [List.cons_append, List.nil_append] at hM; clear HM;have HM:=Aside0.mk hM;clear hM; obtain ⟨Ao2, co2, rfl⟩ := hO.slice; clear hO)|(at_delete; (with_reducible refine' delete_map (K := []) (Φ := fun _ => True) HM.out HS.out (fun _ _ _ h => h) (fun k hk => absurd hk List.not_mem_nil) HB1.out rfl rfl ?hm ?hx HWF.out ?_); (case hm => rfl); (case hx => rfl); intro _ hM; clear HM;have HM:=Aside0.mk hM;clear hM))
          have HOW2 : Aside0 (OwnB 40 2 (.slice Ao2 (out.length + 1) co2) (out ++ [z]).length (contsL (out ++ [z])) X2) := ⟨by rw [contsL_app]; simpa using HOW.out⟩
          go_roundw
          case rel => exact ⟨i + 1, _, _, out ++ [z], _, X2, by go_num, rfl, ⟨by omega⟩, ⟨by have := HNI.out; simp; omega⟩, HO, HOW2, ⟨HM.out.drop.drop⟩⟩
          case measure => simp [intOf]; omega
      · have hil : i = l.length := by have := HIX.out; omega
        have hlz : ¬ ((i : Int) < (l.length : Int)) := by omega
        have ho := HO.out
        rw [hil, List.drop_length, goneGo, List.append_nil] at ho
        obtain ⟨Ao, co, rfl⟩ := HOW.out.slice
        go_wp2_with (first|go_skip|((with_reducible refine gate_dst (N := 2) rfl ?_);(with_reducible refine' bn HM ?qw rfl _ ?qx ?_);(case qw|qx=>rfl);clear HM;intro g2 _ HM)|((with_reducible refine gate_dst (N := 3) rfl ?_);(with_reducible refine' bn HM ?qw rfl _ ?qx ?_);(case qw|qx=>rfl);clear HM;intro g3 _ HM)|((with_reducible refine' lc HM ?qw rfl ?qx ?qm ?qa ?qv ?_);(case qw|qx|qa=>rfl);(case qm=>repeat constructor);(case qv=>rfl))|((with_reducible refine' la HM ?qw rfl ?qx ?qm ?qa ?_);(case qw|qx=>rfl);(case qm=>repeat constructor);(case qa=>rfl))|((with_reducible refine' pa HM ?qw rfl ?qx _ ?qy ?qm ?qa ?_);(case qw|qx|qy=>rfl);(case qm=>repeat constructor);(case qa=>rfl);clear HM;intro _ HM)|((with_reducible refine' bz HM ?qw rfl ?qa ?qc ?_);(case qw|qa|qc=>rfl);clear HM;intro _ _ HM))
        go_ret
        rw [← HGG.out, ← ho]
        refine ⟨Ao, ⟨co, rfl⟩, ?_⟩
        have HB := HM.out.drop.drop
        have hbx := fun x hx => HB.box x hx
        have hkeep : ∀ W' : World, (∀ x ∈ X, W'.heap[x.1]? = some (.cells x.2.1.toArray x.2.2 (0, 0))) → Ct Ao out W' := by
          intro W' hW'
          rcases HOW.out with ⟨e, h0, _, _⟩ | ⟨gq, cap, sp, e, hX, _⟩
          · exact .inl (List.eq_nil_of_length_eq_zero h0)
          · injection e with e1 _ _
            exact .inr ⟨gq, sp, e1, hW' _ (by rw [hX]; exact List.mem_singleton.2 rfl)⟩
        refine ⟨HB.below, (fun x hx => by cases hx), List.nodup_nil, fun W' hW => hkeep W' (fun x hx => (hW x.1 (blk_lt (hbx x hx).1) (by simp) (.inr (hbx x hx).2)).trans (hbx x hx).1)⟩
theorem gone_M {w0 W : World} {P : Nat → Prop} {B : List Bx} {S : World → Prop} {A A2 : Option Addr} {c c2 : Nat} {l l2 : List S44} {n n2 m m2 : Int} (HM : Mem w0 P W B S) (hS : ∀ w, S w → Tr A l w) (hS2 : ∀ w, S w → Tr A2 l2 w) (hI : ∀ r ∈ l, 0 ≤ r.f1 ∧ r.f1 < m) (hI2 : ∀ r ∈ l2, 0 ≤ r.f1 ∧ r.f1 < m2) (hl : l.length ≤ 900000) (hl2 : l2.length ≤ 900000) (hm : m ≤ 900000) (hm2 : m2 ≤ 900000) :
    Calls Tryd.prog 34 #[.agg #[.slice A l.length c, .int .i64 n], .agg #[.slice A2 l2.length c2, .int .i64 n2]] W fun e w' => ∃ Ao co, e = .returned (.slice Ao (goneGo l (goneF l l2)).length co) ∧ Mem w0 P w' B (fun w => S w ∧ Ct Ao (goneGo l (goneF l l2)) w) := by
  refine (gone_walk W (fun k => k ∉ B.map (·.1) ∧ (P k ∨ w0.heap.size ≤ k)) A A2 c c2 l l2 n n2 m m2 (fun W' hW => ⟨hS _ (HM.old W' (fun k hk hp => hW k hk hp)), hS2 _ (HM.old W' (fun k hk hp => hW k hk hp))⟩) hI hI2 hl hl2 hm hm2).mono ?_
  rintro e w' ⟨Ao, co, rfl, hM⟩
  refine ⟨Ao, co, rfl, HM.add hM.below (fun W' h => hM.last W' (fun k hp hk => h k hk ?_))⟩
  rcases hp with hp | hp
  · exact .inl hp
  · exact .inr hp
end Go.Proofs.YtolpamojbiipaaaDoor.XA
