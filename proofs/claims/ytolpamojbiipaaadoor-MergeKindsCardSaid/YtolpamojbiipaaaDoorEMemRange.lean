/- A range over a map of the call's own (Mem). -/
import Derived.Test.YtolpamojbiipaaaDoorEMemMap
namespace Go.Proofs.YtolpamojbiipaaaDoor.XA
open Go.RowKit Go.Proofs.YtolpamojbiipaaaDoorW.PrintWords Go.Proofs.YtolpamojbiipaaaDoorW.PrintLast Go.Proofs.YtolpamojbiipaaaDoorW.PrintMore Go.Proofs.YtolpamojbiipaaaDoor.Mem Go.Proofs.YtolpamojbiipaaaDoor.Pure
set_option linter.unusedVariables false
set_option linter.unusedSimpArgs false

/-- A range over block b's map is under way at block r: the numbers of fl are still to come. -/
def Rg (w : World) (b r : Nat) (fl : Int → Bool) (cnt : Nat) : Prop := ∃ (k : Nat) (D : DataW Unit) (left : Lit → Bool), w.ranges Tryd.prog 3 cR b r k D left cnt ∧ ∀ x, (Lit.int .i64 x).wf = true → left (.int .i64 x) = fl x
variable {w0 W w' : World} {P : Nat → Prop} {B : List Bx} {S S0 Φ : World → Prop} {b r n m cnt : Nat} {f : Int → Option Int} {fl : Int → Bool}
theorem Rg.same (h : Rg W b r fl cnt) (h1 : w'.heap[b]? = W.heap[b]?) (h2 : w'.heap[r]? = W.heap[r]?) : Rg w' b r fl cnt := by
  obtain ⟨k, D, left, ⟨es, clock, since, seen, c0, hb, a1, a2, a3, hr, a4⟩, hf⟩ := h
  exact ⟨k, D, left, ⟨es, clock, since, seen, c0, h1.trans hb, a1, a2, a3, h2.trans hr, a4⟩, hf⟩
theorem Rg.apart (h : Rg W b r fl cnt) (HM : Mem w0 P W B S) : b ∉ B.map (·.1) ∧ r ∉ B.map (·.1) := by
  obtain ⟨k, D, left, ⟨es, clock, since, seen, c0, hb, a1, a2, a3, hr, a4⟩, hf⟩ := h
  constructor
  · intro hm
    obtain ⟨x, hx, rfl⟩ := List.mem_map.1 hm
    rw [(HM.box x hx).1] at hb
    cases hb
  · intro hm
    obtain ⟨x, hx, rfl⟩ := List.mem_map.1 hm
    rw [(HM.box x hx).1] at hr
    cases hr
theorem Rg.lt (h : Rg W b r fl cnt) : b < W.heap.size ∧ r < W.heap.size := by
  obtain ⟨k, D, left, h, _⟩ := h
  exact ⟨h.owns.lt, h.lt⟩
theorem Rg.left (h : Rg W b r fl cnt) : W.rangeLeft b r = cnt := by
  obtain ⟨k, D, left, h, _⟩ := h
  exact h.left_eq
section
variable {ops : Array Oper} {rest : List Oper} {o : Oper} {a : Act} {Q : Exit → Act → World → Prop} {mo it : Operand}
theorem range_map (HM : Mem w0 P W B (fun w => S w ∧ MapC w b n f m)) (hb : w0.heap.size ≤ b) (hg : o.guard = none) (ho : o.op = .range 78 mo) (hm : a.eval mo = .map (some b))
    (h : ∀ r cnt W1, w0.heap.size ≤ r → b < r → W.heap.size ≤ r → Mem w0 P W1 B (fun w => S w ∧ Rg w b r (fun x => (f x).isSome) cnt) → wpList Tryd.prog ops Q rest (a.put o.dst (.pointer (some ⟨r, 0, none⟩))) W1) : wpList Tryd.prog ops Q (o :: rest) a W := by
  have hmap := HM.now.2
  have hap := hmap.apart HM
  have hlt := hmap.lt
  obtain ⟨k, D, h0, hk, hs, hf⟩ := hmap
  refine wpList_range_own W hg mo 78 ho 3 40 law3 hu78 cR b k D hm h0 (fun W1 h1 hg1 hz => ?_)
  have hbl : Below W.heap.size W W1 := ⟨hg1.os, hg1.tape, hg1.output, hg1.size, fun k hk => hg1.block k hk (by simp)⟩
  have hrg : Rg W1 b W.heap.size (fun x => (f x).isSome) (Maps.size D) := ⟨k, D, _, h1, fun x hx => (hf x hx).1⟩
  refine h W.heap.size _ W1 HM.below.size hlt (Nat.le_refl _) ((HM.add hbl (fun W' hW => hrg.same (hW b hrg.lt.1 (.inl ⟨hap, .inr hb⟩)) (hW _ hrg.lt.2 (.inr (Nat.le_refl _))))).imp (fun w h => ⟨h.1.1, h.2⟩))
theorem next_map {K : List Nat} (HM : Mem w0 P W B (fun w => S0 w ∧ Φ w ∧ Rg w b r fl cnt)) (hS0 : ∀ W', (∀ k, k < w0.heap.size → P k → W'.heap[k]? = w0.heap[k]?) → S0 W')
    (hΦ : ∀ W W', (∀ k ∈ K, W'.heap[k]? = W.heap[k]?) → Φ W → Φ W') (hK : ∀ k ∈ K, w0.heap.size ≤ k ∧ k ∉ B.map (·.1) ∧ k < W.heap.size ∧ k ≠ r) (hb : w0.heap.size ≤ b) (hr : w0.heap.size ≤ r)
    (hg : o.guard = none) (ho : o.op = .next it false) (hit : a.eval it = .pointer (some ⟨r, 0, none⟩))
    (hDone : (∀ x, (Lit.int .i64 x).wf = true → fl x = false) → wpList Tryd.prog ops Q rest (a.put o.dst (.tuple #[.bool false])) W)
    (hMore : ∀ x z W1 cnt', (Lit.int .i64 x).wf = true → fl x = true → cnt' < cnt → Mem w0 P W1 B (fun w => S0 w ∧ Φ w ∧ Rg w b r (fun y => fl y && !(y == x)) cnt') →
      (Instr.entry (.pointer (some ⟨r, 0, none⟩))).run Tryd.prog W1 = .ok (.tuple #[.int .i64 x, .agg #[.slice none 0 0, .int .i64 z]]) W1 → wpList Tryd.prog ops Q rest (a.put o.dst (.tuple #[.bool true, .int .i64 x, .agg #[.slice none 0 0, .int .i64 z]])) W1) : wpList Tryd.prog ops Q (o :: rest) a W := by
  obtain ⟨hs0, hph, hrg⟩ := HM.now
  have hap := hrg.apart HM
  have hlt := hrg.lt
  obtain ⟨k, D, left, h0, hf⟩ := hrg
  have hne := h0.ne
  refine wpList_next_ranges W hg it ho 3 law3 cR (Value.int .i64) (fun z => .agg #[.slice none 0 0, .int .i64 z]) (fun key kl hkey => by obtain ⟨x, rfl, _⟩ := Maps.keyOf_int_inv hk3 hkey; exact ⟨x, rfl⟩) (fun v y hv => by obtain ⟨z, rfl, _⟩ := cR_inv hv; exact ⟨z, rfl⟩)
    b r k D left cnt hit h0 (fun _ hl => hDone (fun x hx => by rw [← hf x hx]; exact hl _)) (fun x z kl y W1 cnt' hkey hlk hv hat h1 hlt1 hg1 hz hen => ?_)
  obtain ⟨x', ex, rfl, hwx⟩ := Maps.keyOf_int_inv hk3 hkey
  cases ex
  have hrg1 : Rg W1 b r (fun y => fl y && !(y == x)) cnt' := ⟨k, D, _, h1, fun y hy => by
    have hsk : (Lit.int .i64 y).sameKey (.int .i64 x) = (y == x) := by rw [Bool.eq_iff_iff]; simp [Lit.sameKey]
    show (left (.int .i64 y) && !(Lit.int .i64 y).sameKey (.int .i64 x)) = _
    rw [hf y hy, hsk]⟩
  refine hMore x z W1 cnt' hwx (by rw [← hf x hwx]; exact hlk) hlt1 (Mem.turn (K := r :: b :: K) (Ψ' := fun w => Φ w ∧ Rg w b r (fun y => fl y && !(y == x)) cnt') HM hS0 hg1 (fun k e => by cases e; exact List.mem_cons_self) (fun k hk => ?_) (fun W' hW => ⟨hΦ W W' (fun k hk => (hW k (List.mem_cons_of_mem _ (List.mem_cons_of_mem _ hk))).trans (hg1.block k (hK k hk).2.2.1 (fun e => (hK k hk).2.2.2 (Option.some.inj e)))) hph, hrg1.same (hW b (List.mem_cons_of_mem _ List.mem_cons_self)) (hW r List.mem_cons_self)⟩)) hen
  rcases List.mem_cons.1 hk with rfl | hk
  · exact ⟨hr, hap.2, by omega⟩
  · rcases List.mem_cons.1 hk with rfl | hk
    · exact ⟨hb, hap.1, by omega⟩
    · exact ⟨(hK k hk).1, (hK k hk).2.1, by have := (hK k hk).2.2.1; omega⟩
end
end Go.Proofs.YtolpamojbiipaaaDoor.XA
