/- A set of texts that is a map of the call's own, beside own boxes; what else is known reads cells, and so leans on other blocks. -/
import Derived.Test.YtolpamojbiipaaaDoorEMemTree
import Derived.Test.YtolpamojbiipaaaDoorETreePut2
namespace Go.Proofs.YtolpamojbiipaaaDoor.XA
open Go.RowKit Go.Proofs.YtolpamojbiipaaaDoorW.PrintWords Go.Proofs.YtolpamojbiipaaaDoorW.PrintLast Go.Proofs.YtolpamojbiipaaaDoorW.PrintMore Go.Proofs.YtolpamojbiipaaaDoor.Mem Go.Proofs.YtolpamojbiipaaaDoor.Pure
set_option linter.unusedVariables false
set_option linter.unusedSimpArgs false

theorem hu86 : Tryd.prog.underlying 86 = some (.map 9 4) := by kernel_rfl
theorem hk9 : Tryd.prog.underlying 9 = some .string := by kernel_rfl
theorem law9 : Maps.Keyed Tryd.prog 9 := Maps.string_keyed hk9
theorem key9 {s : ByteArray} (hs : s.size ≤ maxLen) : keyOf Tryd.prog 9 (.string s) = some (.string s.data.toList) := by simp [keyOf, mapKey, hk9, hs]
/-- Block b is the set of the texts of L. -/
def SeenAt (w : World) (b : Nat) (L : List (List UInt8)) : Prop := ∃ (n : Nat) (D : DataW Unit), w.ownsMap Tryd.prog 9 (plainElem Tryd.prog 4) b n D ∧ n ≤ L.length ∧ ∀ s : List UInt8, D.atKey (.string s) (.lit (.bool false)) = .lit (.bool (decide (s ∈ L)))
theorem SeenAt.same {w w' : World} {b : Nat} {L : List (List UInt8)} (h : SeenAt w b L) (he : w'.heap[b]? = w.heap[b]?) : SeenAt w' b L := by
  obtain ⟨k, D, ⟨es, clock, hb, F, hs, hD⟩, r⟩ := h
  exact ⟨k, D, ⟨es, clock, he.trans hb, F, hs, hD⟩, r⟩
theorem SeenAt.map {w : World} {b : Nat} {L : List (List UInt8)} (h : SeenAt w b L) : ∃ es cl, w.heap[b]? = some (.map es cl) := by
  obtain ⟨k, D, ⟨es, clock, hb, F, hs, hD⟩, r⟩ := h
  exact ⟨es, clock, hb⟩
theorem SeenAt.lt {w : World} {b : Nat} {L : List (List UInt8)} (h : SeenAt w b L) : b < w.heap.size := by
  obtain ⟨es, cl, h⟩ := h.map
  exact blk_lt h
theorem SeenAt.made (w : World) : SeenAt (w.alloc (.map #[] 0)) w.heap.size [] :=
  ⟨0, .map [], World.ownsMap_made w _ _ _, Nat.le_refl _, fun x => by simp [DataW.atKey]⟩
/-- What is known and does not lean on a map's block. -/
def OffMap (b : Nat) (S : World → Prop) : Prop := ∀ w w' : World, (∃ es cl, w.heap[b]? = some (.map es cl)) → (∀ k, k ≠ b → w'.heap[k]? = w.heap[k]?) → S w → S w'
theorem OffMap.and {b : Nat} {S T : World → Prop} (h1 : OffMap b S) (h2 : OffMap b T) : OffMap b (fun w => S w ∧ T w) := fun w w' hm ho h => ⟨h1 w w' hm ho h.1, h2 w w' hm ho h.2⟩
theorem off_C {α : Type} {d : Kd α} (hd : ∀ w w' x cs, d.K w x cs → d.K w' x cs) (b : Nat) (A : Option Addr) (n : Nat) (xs : List α) : OffMap b (fun w => Kd.C d w A n xs) := by
  intro w w' ⟨es, cl, hb⟩ ho h
  refine ⟨h.1, h.2.1, fun hn => ?_⟩
  obtain ⟨ad, e, hc⟩ := h.2.2 hn
  refine ⟨ad, e, fun j p hj => ?_⟩
  obtain ⟨c, h1, h2, h3⟩ := hc j p hj
  refine ⟨c, h1, hd _ _ _ _ h2, fun i u hu => ?_⟩
  have hcell := h3 i u hu
  have hne : (ad.add (j * d.sz + i)).block ≠ b := fun e2 => by
    unfold World.cell? at hcell
    rw [e2, hb] at hcell
    simp at hcell
  unfold World.cell? at hcell ⊢
  rw [ho _ hne]
  exact hcell
variable {w0 W W1 : World} {P : Nat → Prop} {B : List Bx} {S Φ Ψ : World → Prop} {b : Nat} {L : List (List UInt8)}
theorem seen_apart (h : SeenAt W b L) (HM : Mem w0 P W B S) : b ∉ B.map (·.1) := by
  intro hm
  obtain ⟨x, hx, rfl⟩ := List.mem_map.1 hm
  obtain ⟨es, cl, hb⟩ := h.map
  rw [(HM.box x hx).1] at hb
  cases hb
theorem seen_turn (HM : Mem w0 P W B (fun w => S w ∧ Φ w)) (hoff : OffMap b S) (hmap : ∃ es cl, W.heap[b]? = some (.map es cl)) (hb : w0.heap.size ≤ b) (hbB : b ∉ B.map (·.1)) (hg : W.grownBy W1 (some b)) (hΨ : ∀ W', W'.heap[b]? = W1.heap[b]? → Ψ W') : Mem w0 P W1 B (fun w => S w ∧ Ψ w) := by
  obtain ⟨es, cl, hobj⟩ := hmap
  have hlt := blk_lt hobj
  have hbl : Below w0.heap.size w0 W1 := HM.below.grown hg HM.below.size (fun k hk => by cases hk; exact hb)
  refine ⟨hbl, fun x hx => ?_, HM.apart, fun W' hW => ⟨?_, hΨ W' (hW b (Nat.lt_of_lt_of_le hlt hg.size) hbB (.inr hb))⟩⟩
  · have h1 := HM.box x hx
    exact ⟨(hg.block _ (blk_lt h1.1) (fun e => hbB (by cases e; exact List.mem_map.2 ⟨x, hx, rfl⟩))).trans h1.1, h1.2⟩
  · have hb1 : W'.heap[b]? = W1.heap[b]? := hW b (Nat.lt_of_lt_of_le hlt hg.size) hbB (.inr hb)
    have hlt' : b < W'.heap.size := by
      have h1 : b < W1.heap.size := Nat.lt_of_lt_of_le hlt hg.size
      rw [Array.getElem?_eq_getElem h1] at hb1
      exact blk_lt hb1
    have hS2 : S { W' with heap := W'.heap.setIfInBounds b (.map es cl) } := (HM.keep _ (fun k hk hn hp => by
      show (W'.heap.setIfInBounds b (.map es cl))[k]? = _
      by_cases e : k = b
      · subst e
        rw [Array.getElem?_setIfInBounds_self_of_lt hlt']
        exact hobj.symm
      · rw [Array.getElem?_setIfInBounds_ne (fun x => e x.symm)]
        exact (hW k (Nat.lt_of_lt_of_le hk hg.size) hn hp).trans (hg.block k hk (fun x => e (Option.some.inj x))))).1
    refine hoff _ W' ⟨es, cl, ?_⟩ (fun k hk => ?_) hS2
    · show (W'.heap.setIfInBounds b (.map es cl))[b]? = _
      rw [Array.getElem?_setIfInBounds_self_of_lt hlt']
    · show _ = (W'.heap.setIfInBounds b (.map es cl))[k]?
      rw [Array.getElem?_setIfInBounds_ne (fun x => hk x.symm)]
section
variable {ops : Array Oper} {rest : List Oper} {o : Oper} {a : Act} {Q : Exit → Act → World → Prop} {mo x v : Operand} {s : ByteArray}
theorem make_seen (HM : Aside0 (Mem w0 P W B S)) (hw : Region.wanted o (yielded ops a.tmps) = true) (ho : o.op = .makeMap 86 none)
    (h : ∀ b W1, w0.heap.size ≤ b → Aside0 (Mem w0 P W1 B (fun w => S w ∧ SeenAt w b [])) → wpList Tryd.prog ops Q rest (a.put o.dst (.map (some b))) W1) : wpList Tryd.prog ops Q (o :: rest) a W := by
  refine step_value (W1 := W.alloc (.map #[] 0)) hw ?_ (h W.heap.size _ HM.out.below.size ⟨HM.out.add (below_alloc (Below.refl _ _) _) (fun W' hW => (SeenAt.made W).same (hW _ (SeenAt.made W).lt (.inr (Nat.le_refl _))))⟩)
  unfold execOp
  simp [ho, run_makeMap]
theorem look_seen (HM : Aside0 (Mem w0 P W B (fun w => S w ∧ SeenAt w b L))) (hw : Region.wanted o (yielded ops a.tmps) = true) (ho : o.op = .lookup 86 mo x false) (hm : a.eval mo = .map (some b)) (hx : a.eval x = .string s) (hs : s.size ≤ maxLen)
    (h : wpList Tryd.prog ops Q rest (a.put o.dst (.bool (decide (s.data.toList ∈ L)))) W) : wpList Tryd.prog ops Q (o :: rest) a W := by
  obtain ⟨n, D, h0, hn, ha⟩ := HM.out.now.2
  have hu4 : Tryd.prog.underlying 4 = some .bool := by kernel_rfl
  have hz : (zeroValue 4).run Tryd.prog W = .ok (.bool false) W := by kernel_rfl
  obtain ⟨v, ps, hrun, hv⟩ := h0.lookup law9 hu86 hz (plainElem_bool hu4 false) (key9 hs)
  rw [ha] at hv
  have hvv : v = .bool (decide (s.data.toList ∈ L)) := by
    unfold plainElem at hv
    rw [hu4] at hv
    cases v <;> simp at hv
    rw [hv.1]
  subst hvv
  refine step_value hw ?_ h
  unfold execOp
  simp [ho, hm, hx, hrun, Result.andThen]
theorem add_seen (HM : Aside0 (Mem w0 P W B (fun w => S w ∧ SeenAt w b L))) (hoff : OffMap b S) (hb : w0.heap.size ≤ b) (hl : L.length ≤ 1000000) (hg : o.guard = none) (ho : o.op = .mapUpdate 86 mo x v) (hm : a.eval mo = .map (some b)) (hx : a.eval x = .string s) (hs : s.size ≤ maxLen) (hv : a.eval v = .bool true)
    (h : ∀ W1, Aside0 (Mem w0 P W1 B (fun w => S w ∧ SeenAt w b (s.data.toList :: L))) → wpList Tryd.prog ops Q rest (a.put o.dst undef) W1) : wpList Tryd.prog ops Q (o :: rest) a W := by
  have hse := HM.out.now.2
  have hap := seen_apart hse HM.out
  have hmp := hse.map
  obtain ⟨n, D, h0, hn, ha⟩ := hse
  have hu4 : Tryd.prog.underlying 4 = some .bool := by kernel_rfl
  refine wpList_mapUpdate_own W hg mo x v 86 ho 9 4 law9 hu86 (plainElem Tryd.prog 4) b n D hm h0 (by unfold maxLen; omega) _ _ (.string s.data.toList) hx hv (key9 hs) (.lit (.bool true)) [] (plainElem_bool hu4 true) (fun W1 h1 hg1 => ?_)
  have hnew : SeenAt W1 b (s.data.toList :: L) := ⟨n + 1, _, h1, by simp; omega, fun y => by
    by_cases hxy : y = s.data.toList
    · subst hxy
      rw [Maps.atKey_put_same h0.isMap (by trivial)]
      simp
    · rw [Maps.atKey_put_other (by intro e; injection e with e; exact hxy e), ha y]
      simp [hxy]⟩
  exact h W1 ⟨seen_turn HM.out hoff hmp hb hap hg1 (fun W' hW => hnew.same hW)⟩
end
theorem off_tr (b : Nat) (A : Option Addr) (l : List S44) : OffMap b (Tr A l) := off_C (fun w w' x cs h => by rw [k44_open h]; exact k44_mk _ _) b A l.length l
end Go.Proofs.YtolpamojbiipaaaDoor.XA
