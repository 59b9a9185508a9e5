/- A map of the call's own from texts to texts, beside own boxes: made, written, ranged over. -/
import Derived.Test.YtnpdgmgabkoeiaaDoorEMem
import Derived.Maps.RangeWalk
import Derived.Maps.StringElems
import Derived.Maps.Keyed
import Derived.Maps.OwnOps
namespace Go.Proofs.YtnpdgmgabkoeiaaDoor.R
open Go.RowKit Go.Proofs.YtnpdgmgabkoeiaaDoorW.PrintWords Go.Proofs.YtnpdgmgabkoeiaaDoorW.PrintLast Go.Proofs.YtnpdgmgabkoeiaaDoorW.PrintMore Go.Proofs.YtnpdgmgabkoeiaaDoor.Mem
set_option linter.unusedVariables false
set_option linter.unusedSimpArgs false

theorem huM : Tryd.prog.underlying 31 = some (.map 9 9) := by kernel_rfl
theorem hk9 : Tryd.prog.underlying 9 = some .string := by kernel_rfl
theorem law9 : Maps.Keyed Tryd.prog 9 := Maps.string_keyed hk9
theorem key9 {s : ByteArray} (hs : s.size ≤ maxLen) : keyOf Tryd.prog 9 (.string s) = some (.string s.data.toList) := by simp [keyOf, mapKey, hk9, hs]
theorem key9_inv {key : Value} {kl : Lit} (h : keyOf Tryd.prog 9 key = some kl) : ∃ s : ByteArray, key = .string s ∧ kl = .string s.data.toList := by
  unfold keyOf mapKey at h
  rw [hk9] at h
  cases key <;> simp at h
  exact ⟨_, rfl, h.2.symm⟩
/-- Block b is the map f. -/
def MapT (w : World) (b n : Nat) (f : List UInt8 → Option ByteArray) : Prop := ∃ (k : Nat) (D : DataW Unit), w.ownsMap Tryd.prog 9 (plainElem Tryd.prog 9) b k D ∧ k ≤ n ∧
  ∀ x : List UInt8, Maps.has D (.string x) = (f x).isSome ∧ ∀ z, f x = some z → ∀ zd, D.atKey (.string x) zd = .lit (.string z.data.toList)
def putT (f : List UInt8 → Option ByteArray) (i : List UInt8) (z : ByteArray) : List UInt8 → Option ByteArray := fun x => if x = i then some z else f x
theorem MapT.same {w w' : World} {b n : Nat} {f : List UInt8 → Option ByteArray} (h : MapT w b n f) (he : w'.heap[b]? = w.heap[b]?) : MapT w' b n f := by
  obtain ⟨k, D, ⟨es, clock, hb, F, hs, hD⟩, r⟩ := h
  exact ⟨k, D, ⟨es, clock, he.trans hb, F, hs, hD⟩, r⟩
theorem MapT.made (w : World) : MapT (w.alloc (.map #[] 0)) w.heap.size 0 (fun _ => none) :=
  ⟨0, .map [], World.ownsMap_made w _ _ _, Nat.le_refl _, fun x => ⟨rfl, fun z h => by cases h⟩⟩
variable {w0 W w' Wr : World} {P : Nat → Prop} {B B0 : List Bx} {S S0 Φ Ψ Ψ' : World → Prop} {b n r cnt : Nat} {f : List UInt8 → Option ByteArray} {fl : List UInt8 → Bool} {i z : ByteArray}
theorem MapT.apart (h : MapT W b n f) (HM : Mem w0 P W B S) : b ∉ B.map (·.1) := by
  intro hm
  obtain ⟨x, hx, rfl⟩ := List.mem_map.1 hm
  obtain ⟨k, D, ⟨es, clock, hb, _⟩, _⟩ := h
  rw [(HM.box x hx).1] at hb
  cases hb
theorem MapT.lt (h : MapT W b n f) : b < W.heap.size := by
  obtain ⟨k, D, h, _⟩ := h
  exact h.lt
/-- Some blocks that are no boxes have turned: what leans on old blocks alone stays, what leans on those blocks is told anew. -/
theorem Mem.turnT {K : List Nat} {row : Option Nat} (HM : Mem w0 P W B (fun w => S0 w ∧ Ψ w)) (hS0 : ∀ W', (∀ k, k < w0.heap.size → P k → W'.heap[k]? = w0.heap[k]?) → S0 W')
    (hg : W.grownBy w' row) (hr : ∀ k, row = some k → k ∈ K) (hK : ∀ k ∈ K, w0.heap.size ≤ k ∧ k ∉ B.map (·.1) ∧ k < w'.heap.size)
    (hΨ : ∀ W', (∀ k ∈ K, W'.heap[k]? = w'.heap[k]?) → Ψ' W') : Mem w0 P w' B (fun w => S0 w ∧ Ψ' w) := by
  have hbl : Below w0.heap.size w0 w' := HM.below.grown hg HM.below.size (fun k hk => (hK k (hr k hk)).1)
  refine ⟨hbl, fun x hx => ?_, HM.apart, fun W' hW => ⟨hS0 W' (fun k hk hp => ?_), hΨ W' (fun k hk => hW k (hK k hk).2.2 (hK k hk).2.1 (.inr (hK k hk).1))⟩⟩
  · have h1 := HM.box x hx
    refine ⟨(hg.block _ (blk_lt h1.1) (fun e => (hK _ (hr _ e.symm)).2.1 (List.mem_map.2 ⟨x, hx, rfl⟩))).trans h1.1, h1.2⟩
  · have hkB : k ∉ B.map (·.1) := fun hm => by
      obtain ⟨x, hx, rfl⟩ := List.mem_map.1 hm
      have := (HM.box x hx).2
      omega
    exact (hW k (Nat.lt_of_lt_of_le hk hbl.size) hkB (.inl hp)).trans (hbl.block k hk)
theorem MapT.put {D : DataW Unit} {k : Nat} (h0 : W.ownsMap Tryd.prog 9 (plainElem Tryd.prog 9) b k D) (h1 : w'.ownsMap Tryd.prog 9 (plainElem Tryd.prog 9) b (k + 1) (D.put (.string i.data.toList) (.lit (.string z.data.toList)))) (hk : k ≤ n)
    (hf : ∀ x : List UInt8, Maps.has D (.string x) = (f x).isSome ∧ ∀ z, f x = some z → ∀ zd, D.atKey (.string x) zd = .lit (.string z.data.toList)) : MapT w' b (n + 1) (putT f i.data.toList z) := by
  refine ⟨k + 1, _, h1, by omega, fun x => ?_⟩
  unfold putT
  by_cases e : x = i.data.toList
  · subst e
    rw [if_pos rfl]
    refine ⟨Maps.has_put_same h0.isMap (by trivial) _, fun z' hz zd => ?_⟩
    cases hz
    exact Maps.atKey_put_same h0.isMap (by trivial) _ _
  · have hne : Lit.string x ≠ Lit.string i.data.toList := fun h => by injection h with h; exact e h
    rw [if_neg e]
    refine ⟨(Maps.has_put_other hne _).trans (hf x).1, fun z' hz zd => ?_⟩
    rw [Maps.atKey_put_other hne]
    exact (hf x).2 z' hz zd
/-- The blocks ahead of r are as they were in Wr, but for the boxes. -/
def Ag (w0 : World) (P : Nat → Prop) (B0 : List Bx) (r : Nat) (Wr w : World) : Prop := ∀ k, k < r → k ∉ B0.map (·.1) → (P k ∨ w0.heap.size ≤ k) → w.heap[k]? = Wr.heap[k]?
def RgT (w : World) (b r : Nat) (f : List UInt8 → Option ByteArray) (fl : List UInt8 → Bool) (cnt : Nat) : Prop := ∃ (k : Nat) (D : DataW Unit) (left : Lit → Bool), w.ranges Tryd.prog 9 (plainElem Tryd.prog 9) b r k D left cnt ∧ ∀ x : List UInt8, left (.string x) = fl x ∧ ∀ z, f x = some z → ∀ zd, D.atKey (.string x) zd = .lit (.string z.data.toList)
theorem RgT.same (h : RgT W b r f fl cnt) (h1 : w'.heap[b]? = W.heap[b]?) (h2 : w'.heap[r]? = W.heap[r]?) : RgT w' b r f fl cnt := by
  obtain ⟨k, D, left, ⟨es, clock, since, seen, c0, hb, a1, a2, a3, hr, a4⟩, hf⟩ := h
  exact ⟨k, D, left, ⟨es, clock, since, seen, c0, h1.trans hb, a1, a2, a3, h2.trans hr, a4⟩, hf⟩
theorem RgT.apart (h : RgT W b r f fl cnt) (HM : Mem w0 P W B S) : b ∉ B.map (·.1) ∧ r ∉ B.map (·.1) := by
  obtain ⟨k, D, left, ⟨es, clock, since, seen, c0, hb, a1, a2, a3, hr, a4⟩, hf⟩ := h
  constructor
  · intro hm
    obtain ⟨x, hx, rfl⟩ := List.mem_map.1 hm
    rw [(HM.box x hx).1] at hb
    cases hb
  · intro hm
    obtain ⟨x, hx, rfl⟩ := List.mem_map.1 hm
    rw [(HM.box x hx).1] at hr
    cases hr
theorem RgT.lt (h : RgT W b r f fl cnt) : b < W.heap.size ∧ r < W.heap.size := by
  obtain ⟨k, D, left, h, _⟩ := h
  exact ⟨h.owns.lt, h.lt⟩
theorem RgT.left (h : RgT W b r f fl cnt) : W.rangeLeft b r = cnt := by
  obtain ⟨k, D, left, h, _⟩ := h
  exact h.left_eq
section
variable {ops : Array Oper} {rest : List Oper} {o : Oper} {a : Act} {Q : Exit → Act → World → Prop} {mo it x v : Operand}
/-- A map is made. -/
theorem make_mapT (HM : Mem w0 P W B S) (hw : Region.wanted o (yielded ops a.tmps) = true) (ho : o.op = .makeMap 31 none)
    (h : ∀ b W1, w0.heap.size ≤ b → Mem w0 P W1 B (fun w => S w ∧ MapT w b 0 (fun _ => none)) → wpList Tryd.prog ops Q rest (a.put o.dst (.map (some b))) W1) : wpList Tryd.prog ops Q (o :: rest) a W := by
  refine step_value (W1 := W.alloc (.map #[] 0)) hw ?_ (h W.heap.size _ HM.below.size (HM.add (below_alloc (Below.refl _ _) _) (fun W' hW => (MapT.made W).same (hW _ (MapT.made W).lt (.inr (Nat.le_refl _))))))
  unfold execOp
  simp [ho, run_makeMap]
/-- An entry is written. -/
theorem update_mapT {K : List Nat} (HM : Mem w0 P W B (fun w => S0 w ∧ Φ w ∧ MapT w b n f)) (hS0 : ∀ W', (∀ k, k < w0.heap.size → P k → W'.heap[k]? = w0.heap[k]?) → S0 W')
    (hΦ : ∀ W W', (∀ k ∈ K, W'.heap[k]? = W.heap[k]?) → Φ W → Φ W') (hK : ∀ k ∈ K, w0.heap.size ≤ k ∧ k ∉ B.map (·.1) ∧ k < W.heap.size ∧ k ≠ b) (hb : w0.heap.size ≤ b) (hn : n ≤ 1000000)
    (hg : o.guard = none) (ho : o.op = .mapUpdate 31 mo x v) (hm : a.eval mo = .map (some b)) (hx : a.eval x = .string i) (hi : i.size ≤ maxLen) (hv : a.eval v = .string z) (hz : z.size ≤ maxLen)
    (h : ∀ W1, Mem w0 P W1 B (fun w => S0 w ∧ Φ w ∧ MapT w b (n + 1) (putT f i.data.toList z)) → wpList Tryd.prog ops Q rest (a.put o.dst undef) W1) : wpList Tryd.prog ops Q (o :: rest) a W := by
  obtain ⟨hs0, hph, hmap⟩ := HM.now
  have hap := hmap.apart HM
  have hlt := hmap.lt
  obtain ⟨k, D, h0, hk, hf⟩ := hmap
  refine wpList_mapUpdate_own W hg mo x v 31 ho 9 9 law9 huM (plainElem Tryd.prog 9) b k D hm h0 (by unfold maxLen; omega) _ _ (.string i.data.toList) hx hv (key9 hi) (.lit (.string z.data.toList)) [] (plainElem_string hk9 hz) (fun W1 h1 hg1 => ?_)
  have hmap1 : MapT W1 b (n + 1) (putT f i.data.toList z) := MapT.put h0 h1 hk hf
  refine h W1 (Mem.turnT (K := b :: K) (Ψ' := fun w => Φ w ∧ MapT w b (n + 1) (putT f i.data.toList z)) HM hS0 hg1 (fun k e => by cases e; exact List.mem_cons_self) (fun k hk => ?_) (fun W' hW => ⟨hΦ W W' (fun k hk => (hW k (List.mem_cons_of_mem _ hk)).trans (hg1.block k (hK k hk).2.2.1 (fun e => (hK k hk).2.2.2 (Option.some.inj e)))) hph, hmap1.same (hW b List.mem_cons_self)⟩))
  rcases List.mem_cons.1 hk with rfl | hk
  · exact ⟨hb, hap, Nat.lt_of_lt_of_le hlt hg1.size⟩
  · exact ⟨(hK k hk).1, (hK k hk).2.1, Nat.lt_of_lt_of_le (hK k hk).2.2.1 hg1.size⟩
theorem range_mapT (HM : Mem w0 P W B (fun w => S w ∧ MapT w b n f)) (hb : w0.heap.size ≤ b) (hg : o.guard = none) (ho : o.op = .range 31 mo) (hm : a.eval mo = .map (some b))
    (h : ∀ r cnt W1, w0.heap.size ≤ r → b < r → (∀ k ∈ B.map (·.1), k < r) → (∀ w', Ag w0 P B r W w' → S w') → Mem w0 P W1 B (fun w => Ag w0 P B r W w ∧ RgT w b r f (fun x => (f x).isSome) cnt) → wpList Tryd.prog ops Q rest (a.put o.dst (.pointer (some ⟨r, 0, none⟩))) W1) : wpList Tryd.prog ops Q (o :: rest) a W := by
  have hmap := HM.now.2
  have hap := hmap.apart HM
  have hlt := hmap.lt
  obtain ⟨k, D, h0, hk, hf⟩ := hmap
  refine wpList_range_own W hg mo 31 ho 9 9 law9 huM (plainElem Tryd.prog 9) b k D hm h0 (fun W1 h1 hg1 hz => ?_)
  have hbl : Below W.heap.size W W1 := ⟨hg1.os, hg1.tape, hg1.output, hg1.size, fun k hk => hg1.block k hk (by simp)⟩
  have hrg : RgT W1 b W.heap.size f (fun x => (f x).isSome) (Maps.size D) := ⟨k, D, _, h1, fun x => ⟨(hf x).1, (hf x).2⟩⟩
  refine h W.heap.size _ W1 HM.below.size hlt (fun k hk => ?_) (fun w' hA => (HM.keep w' (fun k hk hn hp => hA k hk hn hp)).1) ((HM.add hbl (fun W' hW => (⟨fun k hk hn hp => (hW k (Nat.lt_of_lt_of_le hk hbl.size) (.inl ⟨hn, hp⟩)).trans (hbl.block k hk), hrg.same (hW b hrg.lt.1 (.inl ⟨hap, .inr hb⟩)) (hW _ hrg.lt.2 (.inr (Nat.le_refl _)))⟩ : Ag w0 P B W.heap.size W W' ∧ RgT W' b W.heap.size f (fun x => (f x).isSome) (Maps.size D)))).imp (fun w h => h.2))
  obtain ⟨x, hx, rfl⟩ := List.mem_map.1 hk
  exact blk_lt (HM.box x hx).1
theorem next_mapT (HM : Mem w0 P W B (fun w => Ag w0 P B0 r Wr w ∧ RgT w b r f fl cnt)) (hB : ∀ k, k < r → k ∈ B.map (·.1) → k ∈ B0.map (·.1)) (hb : w0.heap.size ≤ b) (hr : w0.heap.size ≤ r) (hfl : ∀ x, fl x = true → (f x).isSome = true)
    (hg : o.guard = none) (ho : o.op = .next it false) (hit : a.eval it = .pointer (some ⟨r, 0, none⟩))
    (hDone : (∀ x, fl x = false) → wpList Tryd.prog ops Q rest (a.put o.dst (.tuple #[.bool false])) W)
    (hMore : ∀ (x z : ByteArray) W1 cnt', fl x.data.toList = true → f x.data.toList = some z → cnt' < cnt → Mem w0 P W1 B (fun w => Ag w0 P B0 r Wr w ∧ RgT w b r f (fun y => fl y && !(y == x.data.toList)) cnt') →
      (Instr.entry (.pointer (some ⟨r, 0, none⟩))).run Tryd.prog W1 = .ok (.tuple #[.string x, .string z]) W1 → wpList Tryd.prog ops Q rest (a.put o.dst (.tuple #[.bool true, .string x, .string z])) W1) : wpList Tryd.prog ops Q (o :: rest) a W := by
  obtain ⟨hag, hrg⟩ := HM.now
  have hap := hrg.apart HM
  have hlt := hrg.lt
  obtain ⟨k, D, left, h0, hf⟩ := hrg
  have hne := h0.ne
  refine wpList_next_ranges W hg it ho 9 law9 (plainElem Tryd.prog 9) Value.string Value.string (fun key kl hkey => by obtain ⟨x, rfl, _⟩ := key9_inv hkey; exact ⟨x, rfl⟩) (fun v y hv => by obtain ⟨z, rfl, _⟩ := plainElem_string_inv hk9 hv; exact ⟨z, rfl⟩)
    b r k D left cnt hit h0 (fun _ hl => hDone (fun x => by rw [← (hf x).1]; exact hl _)) (fun x z kl y W1 cnt' hkey hlk hv hat h1 hlt1 hg1 hz hen => ?_)
  obtain ⟨x', ex, rfl⟩ := key9_inv hkey
  cases ex
  have hx := hf x.data.toList
  have hfx : fl x.data.toList = true := by rw [← hx.1]; exact hlk
  have hfz : f x.data.toList = some z := by
    obtain ⟨z', e⟩ := Option.isSome_iff_exists.1 (hfl _ hfx)
    obtain ⟨z2, e2, e3, _⟩ := plainElem_string_inv hk9 hv
    have h1 := hx.2 z' e (.lit (.int .i64 0))
    have h2 := hat (.lit (.int .i64 0))
    rw [h1, e3] at h2
    simp only [DataW.lit.injEq, Lit.string.injEq] at h2
    have e4 : z = z2 := by simpa using e2
    rw [e, e4]
    exact congrArg some (ByteArray.ext (Array.toList_inj.1 h2))
  have hrg1 : RgT W1 b r f (fun y => fl y && !(y == x.data.toList)) cnt' := ⟨k, D, _, h1, fun y => by
    have hsk : (Lit.string y).sameKey (.string x.data.toList) = (y == x.data.toList) := by rw [Bool.eq_iff_iff]; simp [Lit.sameKey]
    refine ⟨?_, (hf y).2⟩
    show (left (.string y) && !(Lit.string y).sameKey (.string x.data.toList)) = _
    rw [(hf y).1, hsk]⟩
  have hbl : Below w0.heap.size w0 W1 := HM.below.grown hg1 HM.below.size (fun k hk => by cases hk; exact hr)
  refine hMore x z W1 cnt' hfx hfz hlt1 ⟨hbl, fun y hy => ?_, HM.apart, fun W' hW => ⟨fun k hk hn hp => ?_, ?_⟩⟩ hen
  · have h1 := HM.box y hy
    exact ⟨(hg1.block _ (blk_lt h1.1) (fun e => hap.2 (List.mem_map.2 ⟨y, hy, (Option.some.inj e).symm ▸ rfl⟩))).trans h1.1, h1.2⟩
  · have hnb : k ∉ B.map (·.1) := fun hm => hn (hB k hk hm)
    have e1 := hW k (by omega) hnb hp
    have e2 := hg1.block k (by omega) (fun e => by have := Option.some.inj e; omega)
    exact e1.trans (e2.trans (hag k hk hn hp))
  · exact hrg1.same (hW b (by omega) hap.1 (.inr hb)) (hW r (by omega) hap.2 (.inr hr))
end
end Go.Proofs.YtnpdgmgabkoeiaaDoor.R
