/- A map of the call's own (numbers to contents) beside own boxes: made, written, read, struck. -/
import Derived.Test.YtolpamojbiipaaaDoorEMemTree
import Derived.Test.YtolpamojbiipaaaDoorEAgain
import Derived.Maps.RangeWalk
namespace Go.Proofs.YtolpamojbiipaaaDoor.XA
open Go.RowKit Go.Proofs.YtolpamojbiipaaaDoorW.PrintWords Go.Proofs.YtolpamojbiipaaaDoorW.PrintLast Go.Proofs.YtolpamojbiipaaaDoorW.PrintMore Go.Proofs.YtolpamojbiipaaaDoor.Mem Go.Proofs.YtolpamojbiipaaaDoor.Pure
set_option linter.unusedVariables false
set_option linter.unusedSimpArgs false

/-- How a content reads: by its size. -/
def cR : Value → Option (DataW Unit × List MemPlace)
  | .agg cs => match cs.toList with | [.slice none 0 0, .int .i64 z] => some (.lit (.int .i64 z), []) | _ => none
  | _ => none
theorem cR_mk (z : Int) : cR (.agg #[.slice none 0 0, .int .i64 z]) = some (.lit (.int .i64 z), []) := rfl
theorem cR_inv {v : Value} {y : DataW Unit × List MemPlace} (h : cR v = some y) : ∃ z, v = .agg #[.slice none 0 0, .int .i64 z] ∧ y = (.lit (.int .i64 z), []) := by
  unfold cR at h
  split at h
  · rename_i cs
    split at h
    · rename_i z e
      cases h
      refine ⟨z, ?_, rfl⟩
      congr 1
      exact Array.toList_inj.1 e
    · cases h
  · cases h
theorem hu78 : Tryd.prog.underlying 78 = some (.map 3 40) := by kernel_rfl
theorem hk3 : Tryd.prog.underlying 3 = some (.int .i64) := by kernel_rfl
theorem law3 : Maps.Keyed Tryd.prog 3 := Maps.int_keyed hk3
theorem zero40_run (w : World) : (zeroValue 40).run Tryd.prog w = .ok (.agg #[.slice none 0 0, .int .i64 0]) w := by kernel_rfl
/-- Block b is the map f of m entries. -/
def MapC (w : World) (b n : Nat) (f : Int → Option Int) (m : Nat) : Prop := ∃ (k : Nat) (D : DataW Unit), w.ownsMap Tryd.prog 3 cR b k D ∧ k ≤ n ∧ Maps.size D = m ∧
  ∀ x, (Lit.int .i64 x).wf = true → Maps.has D (.int .i64 x) = (f x).isSome ∧ ∀ z, f x = some z → ∀ zd, D.atKey (.int .i64 x) zd = .lit (.int .i64 z)
def putF (f : Int → Option Int) (i z : Int) : Int → Option Int := fun x => if x = i then some z else f x
def putN (f : Int → Option Int) (m : Nat) (i : Int) : Nat := if (f i).isSome then m else m + 1
def delF (f : Int → Option Int) (i : Int) : Int → Option Int := fun x => if x = i then none else f x
def delN (f : Int → Option Int) (m : Nat) (i : Int) : Nat := if (f i).isSome then m - 1 else m
theorem MapC.same {w w' : World} {b n m : Nat} {f : Int → Option Int} (h : MapC w b n f m) (he : w'.heap[b]? = w.heap[b]?) : MapC w' b n f m := by
  obtain ⟨k, D, ⟨es, clock, hb, F, hs, hD⟩, r⟩ := h
  exact ⟨k, D, ⟨es, clock, he.trans hb, F, hs, hD⟩, r⟩
theorem MapC.made (w : World) : MapC (w.alloc (.map #[] 0)) w.heap.size 0 (fun _ => none) 0 :=
  ⟨0, .map [], World.ownsMap_made w _ _ _, Nat.le_refl _, rfl, fun x _ => ⟨rfl, fun z h => by cases h⟩⟩
variable {w0 W w' : World} {P : Nat → Prop} {B : List Bx} {S S0 Φ Ψ Ψ' : World → Prop} {b n m : Nat} {f : Int → Option Int} {i z : Int}
theorem MapC.apart (h : MapC W b n f m) (HM : Mem w0 P W B S) : b ∉ B.map (·.1) := by
  intro hm
  obtain ⟨x, hx, rfl⟩ := List.mem_map.1 hm
  obtain ⟨k, D, ⟨es, clock, hb, _⟩, _⟩ := h
  rw [(HM.box x hx).1] at hb
  cases hb
theorem MapC.lt (h : MapC W b n f m) : b < W.heap.size := by
  obtain ⟨k, D, h, _⟩ := h
  exact h.lt
/-- Some blocks that are no boxes have turned: what leans on old blocks alone stays, what leans on those blocks is told anew. -/
theorem Mem.turn {K : List Nat} {row : Option Nat} (HM : Mem w0 P W B (fun w => S0 w ∧ Ψ w)) (hS0 : ∀ W', (∀ k, k < w0.heap.size → P k → W'.heap[k]? = w0.heap[k]?) → S0 W')
    (hg : W.grownBy w' row) (hr : ∀ k, row = some k → k ∈ K) (hK : ∀ k ∈ K, w0.heap.size ≤ k ∧ k ∉ B.map (·.1) ∧ k < w'.heap.size)
    (hΨ : ∀ W', (∀ k ∈ K, W'.heap[k]? = w'.heap[k]?) → Ψ' W') : Mem w0 P w' B (fun w => S0 w ∧ Ψ' w) := by
  have hbl : Below w0.heap.size w0 w' := HM.below.grown hg HM.below.size (fun k hk => (hK k (hr k hk)).1)
  refine ⟨hbl, fun x hx => ?_, HM.apart, fun W' hW => ⟨hS0 W' (fun k hk hp => ?_), hΨ W' (fun k hk => hW k (hK k hk).2.2 (hK k hk).2.1 (.inr (hK k hk).1))⟩⟩
  · have h1 := HM.box x hx
    refine ⟨(hg.block _ (blk_lt h1.1) (fun e => (hK _ (hr _ e.symm)).2.1 (List.mem_map.2 ⟨x, hx, rfl⟩))).trans h1.1, h1.2⟩
  · have hkB : k ∉ B.map (·.1) := fun hm => by
      obtain ⟨x, hx, rfl⟩ := List.mem_map.1 hm
      have := (HM.box x hx).2
      omega
    exact (hW k (Nat.lt_of_lt_of_le hk hbl.size) hkB (.inl hp)).trans (hbl.block k hk)
theorem MapC.put (ho : ∃ (k : Nat) (D : DataW Unit), W.ownsMap Tryd.prog 3 cR b k D ∧ w'.ownsMap Tryd.prog 3 cR b (k + 1) (D.put (.int .i64 i) (.lit (.int .i64 z))) ∧ k ≤ n ∧ Maps.size D = m ∧
    ∀ x, (Lit.int .i64 x).wf = true → Maps.has D (.int .i64 x) = (f x).isSome ∧ ∀ z, f x = some z → ∀ zd, D.atKey (.int .i64 x) zd = .lit (.int .i64 z)) (hi : (Lit.int .i64 i).wf = true) : MapC w' b (n + 1) (putF f i z) (putN f m i) := by
  obtain ⟨k, D, h0, h1, hk, hs, hf⟩ := ho
  refine ⟨k + 1, _, h1, by omega, ?_, fun x hx => ?_⟩
  · rw [Maps.size_put (h0.tidy law3), hs, (hf i hi).1]
    rfl
  · unfold putF
    by_cases e : x = i
    · subst e
      rw [if_pos rfl]
      refine ⟨Maps.has_put_same h0.isMap (by trivial) _, fun z' hz zd => ?_⟩
      cases hz
      exact Maps.atKey_put_same h0.isMap (by trivial) _ _
    · have hne : Lit.int .i64 x ≠ Lit.int .i64 i := fun h => by injection h with _ h; exact e h
      rw [if_neg e]
      refine ⟨(Maps.has_put_other hne _).trans (hf x hx).1, fun z' hz zd => ?_⟩
      rw [Maps.atKey_put_other hne]
      exact (hf x hx).2 z' hz zd
theorem MapC.del (ho : ∃ (k : Nat) (D : DataW Unit), W.ownsMap Tryd.prog 3 cR b k D ∧ w'.ownsMap Tryd.prog 3 cR b k (D.del (.int .i64 i)) ∧ k ≤ n ∧ Maps.size D = m ∧
    ∀ x, (Lit.int .i64 x).wf = true → Maps.has D (.int .i64 x) = (f x).isSome ∧ ∀ z, f x = some z → ∀ zd, D.atKey (.int .i64 x) zd = .lit (.int .i64 z)) (hi : (Lit.int .i64 i).wf = true) : MapC w' b n (delF f i) (delN f m i) := by
  obtain ⟨k, D, h0, h1, hk, hs, hf⟩ := ho
  refine ⟨k, _, h1, hk, ?_, fun x hx => ?_⟩
  · have := Maps.size_del (k := .int .i64 i) (h0.tidy law3)
    rw [hs, (hf i hi).1] at this
    unfold delN
    split at this <;> simp_all <;> omega
  · unfold delF
    by_cases e : x = i
    · subst e
      rw [if_pos rfl]
      exact ⟨Maps.has_del_same, fun z' hz => by cases hz⟩
    · have hne : Lit.int .i64 x ≠ Lit.int .i64 i := fun h => by injection h with _ h; exact e h
      rw [if_neg e]
      refine ⟨(Maps.has_del_other hne).trans (hf x hx).1, fun z' hz zd => ?_⟩
      rw [Maps.atKey_del_other hne]
      exact (hf x hx).2 z' hz zd
section
variable {ops : Array Oper} {rest : List Oper} {o : Oper} {a : Act} {Q : Exit → Act → World → Prop} {mo x v : Operand}
/-- A map is made. -/
theorem make_map (HM : Mem w0 P W B S) (hw : Region.wanted o (yielded ops a.tmps) = true) (ho : o.op = .makeMap 78 none)
    (h : ∀ b W1, w0.heap.size ≤ b → Mem w0 P W1 B (fun w => S w ∧ MapC w b 0 (fun _ => none) 0) → wpList Tryd.prog ops Q rest (a.put o.dst (.map (some b))) W1) : wpList Tryd.prog ops Q (o :: rest) a W := by
  refine step_value (W1 := W.alloc (.map #[] 0)) hw ?_ (h W.heap.size _ HM.below.size (HM.add (below_alloc (Below.refl _ _) _) (fun W' hW => (MapC.made W).same (hW _ (MapC.made W).lt (.inr (Nat.le_refl _))))))
  unfold execOp
  simp [ho, run_makeMap]
/-- An entry is written. -/
theorem update_map {K : List Nat} (HM : Mem w0 P W B (fun w => S0 w ∧ Φ w ∧ MapC w b n f m)) (hS0 : ∀ W', (∀ k, k < w0.heap.size → P k → W'.heap[k]? = w0.heap[k]?) → S0 W')
    (hΦ : ∀ W W', (∀ k ∈ K, W'.heap[k]? = W.heap[k]?) → Φ W → Φ W') (hK : ∀ k ∈ K, w0.heap.size ≤ k ∧ k ∉ B.map (·.1) ∧ k < W.heap.size ∧ k ≠ b) (hb : w0.heap.size ≤ b) (hn : n ≤ 1000000)
    (hg : o.guard = none) (ho : o.op = .mapUpdate 78 mo x v) (hm : a.eval mo = .map (some b)) (hx : a.eval x = .int .i64 i) (hi : (Lit.int .i64 i).wf = true) (hv : a.eval v = .agg #[.slice none 0 0, .int .i64 z])
    (h : ∀ W1, Mem w0 P W1 B (fun w => S0 w ∧ Φ w ∧ MapC w b (n + 1) (putF f i z) (putN f m i)) → wpList Tryd.prog ops Q rest (a.put o.dst undef) W1) : wpList Tryd.prog ops Q (o :: rest) a W := by
  obtain ⟨hs0, hph, hmap⟩ := HM.now
  have hap := hmap.apart HM
  have hlt := hmap.lt
  obtain ⟨k, D, h0, hk, hs, hf⟩ := hmap
  refine wpList_mapUpdate_own W hg mo x v 78 ho 3 40 law3 hu78 cR b k D hm h0 (by unfold maxLen; omega) _ _ (.int .i64 i) hx hv (key3 hi) (.lit (.int .i64 z)) [] (cR_mk z) (fun W1 h1 hg1 => ?_)
  have hmap1 : MapC W1 b (n + 1) (putF f i z) (putN f m i) := MapC.put ⟨k, D, h0, h1, hk, hs, hf⟩ hi
  refine h W1 (Mem.turn (K := b :: K) (Ψ' := fun w => Φ w ∧ MapC w b (n + 1) (putF f i z) (putN f m i)) HM hS0 hg1 (fun k e => by cases e; exact List.mem_cons_self) (fun k hk => ?_) (fun W' hW => ⟨hΦ W W' (fun k hk => (hW k (List.mem_cons_of_mem _ hk)).trans (hg1.block k (hK k hk).2.2.1 (fun e => (hK k hk).2.2.2 (Option.some.inj e)))) hph, hmap1.same (hW b List.mem_cons_self)⟩))
  rcases List.mem_cons.1 hk with rfl | hk
  · exact ⟨hb, hap, Nat.lt_of_lt_of_le hlt hg1.size⟩
  · exact ⟨(hK k hk).1, (hK k hk).2.1, Nat.lt_of_lt_of_le (hK k hk).2.2.1 hg1.size⟩
/-- An entry is struck. -/
theorem delete_map {K : List Nat} (HM : Mem w0 P W B (fun w => S0 w ∧ Φ w ∧ MapC w b n f m)) (hS0 : ∀ W', (∀ k, k < w0.heap.size → P k → W'.heap[k]? = w0.heap[k]?) → S0 W')
    (hΦ : ∀ W W', (∀ k ∈ K, W'.heap[k]? = W.heap[k]?) → Φ W → Φ W') (hK : ∀ k ∈ K, w0.heap.size ≤ k ∧ k ∉ B.map (·.1) ∧ k < W.heap.size ∧ k ≠ b) (hb : w0.heap.size ≤ b)
    (hg : o.guard = none) (ho : o.op = .call { callee := .builtin .delete, args := #[mo, x], argTypes := #[78, 3] }) (hm : a.eval mo = .map (some b)) (hx : a.eval x = .int .i64 i) (hi : (Lit.int .i64 i).wf = true)
    (h : ∀ W1, Mem w0 P W1 B (fun w => S0 w ∧ Φ w ∧ MapC w b n (delF f i) (delN f m i)) → wpList Tryd.prog ops Q rest (a.put o.dst (.tuple #[])) W1) : wpList Tryd.prog ops Q (o :: rest) a W := by
  obtain ⟨hs0, hph, hmap⟩ := HM.now
  have hap := hmap.apart HM
  have hlt := hmap.lt
  obtain ⟨k, D, h0, hk, hs, hf⟩ := hmap
  refine wpList_delete_own W hg mo x 78 3 ho 40 law3 hu78 cR b k D hm h0 _ (.int .i64 i) hx (key3 hi) (fun W1 h1 ht => ?_)
  have hg1 := ht.grown
  have hmap1 : MapC W1 b n (delF f i) (delN f m i) := MapC.del ⟨k, D, h0, h1, hk, hs, hf⟩ hi
  refine h W1 (Mem.turn (K := b :: K) (Ψ' := fun w => Φ w ∧ MapC w b n (delF f i) (delN f m i)) HM hS0 hg1 (fun k e => by cases e; exact List.mem_cons_self) (fun k hk => ?_) (fun W' hW => ⟨hΦ W W' (fun k hk => (hW k (List.mem_cons_of_mem _ hk)).trans (hg1.block k (hK k hk).2.2.1 (fun e => (hK k hk).2.2.2 (Option.some.inj e)))) hph, hmap1.same (hW b List.mem_cons_self)⟩))
  rcases List.mem_cons.1 hk with rfl | hk
  · exact ⟨hb, hap, Nat.lt_of_lt_of_le hlt hg1.size⟩
  · exact ⟨(hK k hk).1, (hK k hk).2.1, Nat.lt_of_lt_of_le (hK k hk).2.2.1 hg1.size⟩
/-- An entry is looked up. -/
theorem lookup_map (hmap : MapC W b n f m) (hg : o.guard = none) (ho : o.op = .lookup 78 mo x true) (hm : a.eval mo = .map (some b)) (hx : a.eval x = .int .i64 i) (hi : (Lit.int .i64 i).wf = true)
    (h : ∀ z, (∀ z', f i = some z' → z = z') → wpList Tryd.prog ops Q rest (a.put o.dst (.tuple #[.agg #[.slice none 0 0, .int .i64 z], .bool (f i).isSome])) W) : wpList Tryd.prog ops Q (o :: rest) a W := by
  obtain ⟨k, D, h0, hk, hs, hf⟩ := hmap
  refine wpList_lookup_own_ok W hg mo x 78 ho 3 40 law3 hu78 cR (zero40_run W) (.lit (.int .i64 0)) [] (cR_mk 0) b k D hm h0 _ (.int .i64 i) hx (key3 hi) (fun v ps hv => ?_)
  obtain ⟨z, rfl, e⟩ := cR_inv hv
  rw [(hf i hi).1]
  refine h z (fun z' hz => ?_)
  have h2 := (hf i hi).2 z' hz (.lit (.int .i64 0))
  injection e with e1 _
  rw [h2] at e1
  injection e1 with e1
  injection e1 with _ e1
  exact e1.symm
theorem len_map (hmap : MapC W b n f m) (hg : o.guard = none) (ho : o.op = .call { callee := .builtin .len, args := #[mo], argTypes := #[78] }) (hm : a.eval mo = .map (some b))
    (h : wpList Tryd.prog ops Q rest (a.put o.dst (.int .i64 m)) W) : wpList Tryd.prog ops Q (o :: rest) a W := by
  obtain ⟨k, D, h0, hk, hs, hf⟩ := hmap
  refine wpList_len_own W hg mo 78 ho 3 40 hu78 cR b k D hm h0 ?_
  rw [hs]
  exact h
end
end Go.Proofs.YtolpamojbiipaaaDoor.XA
