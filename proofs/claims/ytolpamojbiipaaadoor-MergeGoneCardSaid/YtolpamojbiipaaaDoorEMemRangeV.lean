/- A range over a map of the call's own, with its values; what was known at its start leans on blocks ahead of it. -/
import Derived.Test.YtolpamojbiipaaaDoorEGone
namespace Go.Proofs.YtolpamojbiipaaaDoor.XA
open Go.RowKit Go.Proofs.YtolpamojbiipaaaDoorW.PrintWords Go.Proofs.YtolpamojbiipaaaDoorW.PrintLast Go.Proofs.YtolpamojbiipaaaDoorW.PrintMore Go.Proofs.YtolpamojbiipaaaDoor.Mem Go.Proofs.YtolpamojbiipaaaDoor.Pure
set_option linter.unusedVariables false
set_option linter.unusedSimpArgs false

/-- The blocks ahead of r are as they were in Wr, but for the boxes. -/
def Ag (w0 : World) (P : Nat → Prop) (B0 : List Bx) (r : Nat) (Wr w : World) : Prop := ∀ k, k < r → k ∉ B0.map (·.1) → (P k ∨ w0.heap.size ≤ k) → w.heap[k]? = Wr.heap[k]?
def RgV (w : World) (b r : Nat) (f : Int → Option Int) (fl : Int → Bool) (cnt : Nat) : Prop := ∃ (k : Nat) (D : DataW Unit) (left : Lit → Bool), w.ranges Tryd.prog 3 cR b r k D left cnt ∧ ∀ x, (Lit.int .i64 x).wf = true → left (.int .i64 x) = fl x ∧ ∀ z, f x = some z → ∀ zd, D.atKey (.int .i64 x) zd = .lit (.int .i64 z)
variable {w0 W w' Wr : World} {P : Nat → Prop} {B B0 : List Bx} {S : World → Prop} {b r n m cnt : Nat} {f : Int → Option Int} {fl : Int → Bool}
theorem RgV.rg (h : RgV W b r f fl cnt) : Rg W b r fl cnt := by
  obtain ⟨k, D, left, h, hf⟩ := h
  exact ⟨k, D, left, h, fun x hx => (hf x hx).1⟩
theorem RgV.same (h : RgV W b r f fl cnt) (h1 : w'.heap[b]? = W.heap[b]?) (h2 : w'.heap[r]? = W.heap[r]?) : RgV w' b r f fl cnt := by
  obtain ⟨k, D, left, ⟨es, clock, since, seen, c0, hb, a1, a2, a3, hr, a4⟩, hf⟩ := h
  exact ⟨k, D, left, ⟨es, clock, since, seen, c0, h1.trans hb, a1, a2, a3, h2.trans hr, a4⟩, hf⟩
section
variable {ops : Array Oper} {rest : List Oper} {o : Oper} {a : Act} {Q : Exit → Act → World → Prop} {mo it : Operand}
theorem range_mapV (HM : Mem w0 P W B (fun w => S w ∧ MapC w b n f m)) (hb : w0.heap.size ≤ b) (hg : o.guard = none) (ho : o.op = .range 78 mo) (hm : a.eval mo = .map (some b))
    (h : ∀ r cnt W1, w0.heap.size ≤ r → b < r → (∀ k ∈ B.map (·.1), k < r) → (∀ w', Ag w0 P B r W w' → S w') → Mem w0 P W1 B (fun w => Ag w0 P B r W w ∧ RgV w b r f (fun x => (f x).isSome) cnt) → wpList Tryd.prog ops Q rest (a.put o.dst (.pointer (some ⟨r, 0, none⟩))) W1) : wpList Tryd.prog ops Q (o :: rest) a W := by
  have hmap := HM.now.2
  have hap := hmap.apart HM
  have hlt := hmap.lt
  obtain ⟨k, D, h0, hk, hs, hf⟩ := hmap
  refine wpList_range_own W hg mo 78 ho 3 40 law3 hu78 cR b k D hm h0 (fun W1 h1 hg1 hz => ?_)
  have hbl : Below W.heap.size W W1 := ⟨hg1.os, hg1.tape, hg1.output, hg1.size, fun k hk => hg1.block k hk (by simp)⟩
  have hrg : RgV W1 b W.heap.size f (fun x => (f x).isSome) (Maps.size D) := ⟨k, D, _, h1, fun x hx => ⟨(hf x hx).1, (hf x hx).2⟩⟩
  refine h W.heap.size _ W1 HM.below.size hlt (fun k hk => ?_) (fun w' hA => (HM.keep w' (fun k hk hn hp => hA k hk hn hp)).1) ((HM.add hbl (fun W' hW => (⟨fun k hk hn hp => (hW k (Nat.lt_of_lt_of_le hk hbl.size) (.inl ⟨hn, hp⟩)).trans (hbl.block k hk), hrg.same (hW b hrg.rg.lt.1 (.inl ⟨hap, .inr hb⟩)) (hW _ hrg.rg.lt.2 (.inr (Nat.le_refl _)))⟩ : Ag w0 P B W.heap.size W W' ∧ RgV W' b W.heap.size f (fun x => (f x).isSome) (Maps.size D)))).imp (fun w h => h.2))
  obtain ⟨x, hx, rfl⟩ := List.mem_map.1 hk
  exact blk_lt (HM.box x hx).1
theorem next_mapV (HM : Mem w0 P W B (fun w => Ag w0 P B0 r Wr w ∧ RgV w b r f fl cnt)) (hB : ∀ k, k < r → k ∈ B.map (·.1) → k ∈ B0.map (·.1)) (hb : w0.heap.size ≤ b) (hr : w0.heap.size ≤ r) (hfl : ∀ x, (Lit.int .i64 x).wf = true → fl x = true → (f x).isSome = true)
    (hg : o.guard = none) (ho : o.op = .next it false) (hit : a.eval it = .pointer (some ⟨r, 0, none⟩))
    (hDone : (∀ x, (Lit.int .i64 x).wf = true → fl x = false) → wpList Tryd.prog ops Q rest (a.put o.dst (.tuple #[.bool false])) W)
    (hMore : ∀ x z W1 cnt', (Lit.int .i64 x).wf = true → fl x = true → f x = some z → cnt' < cnt → Mem w0 P W1 B (fun w => Ag w0 P B0 r Wr w ∧ RgV w b r f (fun y => fl y && !(y == x)) cnt') →
      (Instr.entry (.pointer (some ⟨r, 0, none⟩))).run Tryd.prog W1 = .ok (.tuple #[.int .i64 x, .agg #[.slice none 0 0, .int .i64 z]]) W1 → wpList Tryd.prog ops Q rest (a.put o.dst (.tuple #[.bool true, .int .i64 x, .agg #[.slice none 0 0, .int .i64 z]])) W1) : wpList Tryd.prog ops Q (o :: rest) a W := by
  obtain ⟨hag, hrg⟩ := HM.now
  have hap := hrg.rg.apart HM
  have hlt := hrg.rg.lt
  obtain ⟨k, D, left, h0, hf⟩ := hrg
  have hne := h0.ne
  refine wpList_next_ranges W hg it ho 3 law3 cR (Value.int .i64) (fun z => .agg #[.slice none 0 0, .int .i64 z]) (fun key kl hkey => by obtain ⟨x, rfl, _⟩ := Maps.keyOf_int_inv hk3 hkey; exact ⟨x, rfl⟩) (fun v y hv => by obtain ⟨z, rfl, _⟩ := cR_inv hv; exact ⟨z, rfl⟩)
    b r k D left cnt hit h0 (fun _ hl => hDone (fun x hx => by rw [← (hf x hx).1]; exact hl _)) (fun x z kl y W1 cnt' hkey hlk hv hat h1 hlt1 hg1 hz hen => ?_)
  obtain ⟨x', ex, rfl, hwx⟩ := Maps.keyOf_int_inv hk3 hkey
  cases ex
  have hx := hf x hwx
  have hfx : fl x = true := by rw [← hx.1]; exact hlk
  have hfz : f x = some z := by
    obtain ⟨z', e⟩ := Option.isSome_iff_exists.1 (hfl x hwx hfx)
    obtain ⟨z2, e2, e3⟩ := cR_inv hv
    have h1 := hx.2 z' e (.lit (.int .i64 0))
    have h2 := hat (.lit (.int .i64 0))
    rw [h1, e3] at h2
    simp only [DataW.lit.injEq, Lit.int.injEq, true_and] at h2
    have e4 : z = z2 := by simpa using e2
    rw [e, h2, e4]
  have hrg1 : RgV W1 b r f (fun y => fl y && !(y == x)) cnt' := ⟨k, D, _, h1, fun y hy => by
    have hsk : (Lit.int .i64 y).sameKey (.int .i64 x) = (y == x) := by rw [Bool.eq_iff_iff]; simp [Lit.sameKey]
    refine ⟨?_, (hf y hy).2⟩
    show (left (.int .i64 y) && !(Lit.int .i64 y).sameKey (.int .i64 x)) = _
    rw [(hf y hy).1, hsk]⟩
  have hbl : Below w0.heap.size w0 W1 := HM.below.grown hg1 HM.below.size (fun k hk => by cases hk; exact hr)
  refine hMore x z W1 cnt' hwx hfx hfz hlt1 ⟨hbl, fun y hy => ?_, HM.apart, fun W' hW => ⟨fun k hk hn hp => ?_, ?_⟩⟩ hen
  · have h1 := HM.box y hy
    exact ⟨(hg1.block _ (blk_lt h1.1) (fun e => hap.2 (List.mem_map.2 ⟨y, hy, (Option.some.inj e).symm ▸ rfl⟩))).trans h1.1, h1.2⟩
  · have hnb : k ∉ B.map (·.1) := fun hm => hn (hB k hk hm)
    have e1 := hW k (by omega) hnb hp
    have e2 := hg1.block k (by omega) (fun e => by have := Option.some.inj e; omega)
    exact e1.trans (e2.trans (hag k hk hn hp))
  · exact hrg1.same (hW b (by omega) hap.1 (.inr hb)) (hW r (by omega) hap.2 (.inr hr))
end
end Go.Proofs.YtolpamojbiipaaaDoor.XA
