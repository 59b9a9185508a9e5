-- Written by a program of this session (wip/tools/xprint.py) out of the translation's print. Lean checks it.
import Derived.Test.YtolpamojbiipaaaDoorRows
import Derived.Test.YtolpamojbiipaaaDoorCards
import Derived.Test.YtolpamojbiipaaaDoorTie
import Derived.Test.YtolpamojbiipaaaDoorELaid
import Derived.SevenTiedAt
import Derived.Handed
import Derived.Test.YtolpamojbiipaaaDoorXA22
import Derived.Test.YtolpamojbiipaaaDoorPureUsageFits
import Derived.Test.YtolpamojbiipaaaDoorEOpen
import Derived.WalkKit
import Derived.ProofKit
import Derived.OpenShut
import Derived.ShutString
import Derived.ChangeOld
import Derived.Below
import Derived.SizedLaws
namespace Go.Proofs.YtolpamojbiipaaaDoor.usageFits
open Go.ChangeShapes Go.WideShapes Go.ChangeAt Go.RowKit
open Go.ChangeMaps (open_string shut_string)
open Go.Proofs.YtolpamojbiipaaaDoor.XA Go.Proofs.YtolpamojbiipaaaDoorW.PrintWords
set_option linter.unusedVariables false
theorem own : ownKnob Tryd.prog.godebug = none := by kernel_rfl
theorem laidOut : laidOutB Tryd.prog = true := by kernel_rfl
set_option maxRecDepth 100000 in
theorem opens_T23 : Open.Opens Tryd.prog 23 k23 (fun x => ((Lit.int .i64 x.f0).wf = true ∧ (Lit.int .i64 x.f1).wf = true ∧ (Lit.int .i64 x.f2).wf = true ∧ (Lit.int .i64 x.f3).wf = true)) := ⟨by kernel_rfl, fun H enc w fuel cs y h => by
  obtain ⟨ys, n, _, _, hl, hlen, hf⟩ := DataW.trod_struct Tryd.underlying23 h
  have hl' : cs.length = 4 := hl.trans (by kernel_rfl)
  obtain ⟨c0, c1, c2, c3, rfl⟩ : ∃ c0 c1 c2 c3, cs = [c0, c1, c2, c3] := by
    match cs, hl' with
    | [c0, c1, c2, c3], _ => exact ⟨c0, c1, c2, c3, rfl⟩
  obtain ⟨y0, e0⟩ := Open.field_one (o := 0) (i := 0) (m := 4) (u := c0) (hf 0 _ rfl) hlen (by omega) (by kernel_rfl) rfl
  obtain ⟨x0, z0, _, w0⟩ := DataW.trod_int Tryd.underlying2 e0
  simp only [List.cons.injEq, and_true] at z0
  subst z0
  obtain ⟨y1, e1⟩ := Open.field_one (o := 1) (i := 1) (m := 4) (u := c1) (hf 1 _ rfl) hlen (by omega) (by kernel_rfl) rfl
  obtain ⟨x1, z1, _, w1⟩ := DataW.trod_int Tryd.underlying3 e1
  simp only [List.cons.injEq, and_true] at z1
  subst z1
  obtain ⟨y2, e2⟩ := Open.field_one (o := 2) (i := 2) (m := 4) (u := c2) (hf 2 _ rfl) hlen (by omega) (by kernel_rfl) rfl
  obtain ⟨x2, z2, _, w2⟩ := DataW.trod_int Tryd.underlying3 e2
  simp only [List.cons.injEq, and_true] at z2
  subst z2
  obtain ⟨y3, e3⟩ := Open.field_one (o := 3) (i := 3) (m := 4) (u := c3) (hf 3 _ rfl) hlen (by omega) (by kernel_rfl) rfl
  obtain ⟨x3, z3, _, w3⟩ := DataW.trod_int Tryd.underlying3 e3
  simp only [List.cons.injEq, and_true] at z3
  subst z3
  exact ⟨⟨x0, x1, x2, x3⟩, k23_mk w ⟨x0, x1, x2, x3⟩, ⟨w0, w1, w2, w3⟩⟩⟩
set_option maxRecDepth 100000 in
theorem opens_T29 : Open.Opens Tryd.prog 29 k29 (fun x => ((Lit.int .i64 x.f0).wf = true ∧ (Lit.int .i64 x.f1).wf = true ∧ (Lit.int .i64 x.f2).wf = true ∧ (Lit.int .i64 x.f3).wf = true ∧ (Lit.int .i64 x.f4).wf = true ∧ (Lit.int .i64 x.f5).wf = true ∧ (Lit.int .i64 x.f6).wf = true)) := ⟨by kernel_rfl, fun H enc w fuel cs y h => by
  obtain ⟨ys, n, _, _, hl, hlen, hf⟩ := DataW.trod_struct Tryd.underlying29 h
  have hl' : cs.length = 7 := hl.trans (by kernel_rfl)
  obtain ⟨c0, c1, c2, c3, c4, c5, c6, rfl⟩ : ∃ c0 c1 c2 c3 c4 c5 c6, cs = [c0, c1, c2, c3, c4, c5, c6] := by
    match cs, hl' with
    | [c0, c1, c2, c3, c4, c5, c6], _ => exact ⟨c0, c1, c2, c3, c4, c5, c6, rfl⟩
  obtain ⟨y0, e0⟩ := Open.field_one (o := 0) (i := 0) (m := 7) (u := c0) (hf 0 _ rfl) hlen (by omega) (by kernel_rfl) rfl
  obtain ⟨x0, z0, _, w0⟩ := DataW.trod_int Tryd.underlying2 e0
  simp only [List.cons.injEq, and_true] at z0
  subst z0
  obtain ⟨y1, e1⟩ := Open.field_one (o := 1) (i := 1) (m := 7) (u := c1) (hf 1 _ rfl) hlen (by omega) (by kernel_rfl) rfl
  obtain ⟨x1, z1, _, w1⟩ := DataW.trod_int Tryd.underlying3 e1
  simp only [List.cons.injEq, and_true] at z1
  subst z1
  obtain ⟨y2, e2⟩ := Open.field_one (o := 2) (i := 2) (m := 7) (u := c2) (hf 2 _ rfl) hlen (by omega) (by kernel_rfl) rfl
  obtain ⟨x2, z2, _, w2⟩ := DataW.trod_int Tryd.underlying3 e2
  simp only [List.cons.injEq, and_true] at z2
  subst z2
  obtain ⟨y3, e3⟩ := Open.field_one (o := 3) (i := 3) (m := 7) (u := c3) (hf 3 _ rfl) hlen (by omega) (by kernel_rfl) rfl
  obtain ⟨x3, z3, _, w3⟩ := DataW.trod_int Tryd.underlying3 e3
  simp only [List.cons.injEq, and_true] at z3
  subst z3
  obtain ⟨y4, e4⟩ := Open.field_one (o := 4) (i := 4) (m := 7) (u := c4) (hf 4 _ rfl) hlen (by omega) (by kernel_rfl) rfl
  obtain ⟨x4, z4, _, w4⟩ := DataW.trod_int Tryd.underlying2 e4
  simp only [List.cons.injEq, and_true] at z4
  subst z4
  obtain ⟨y5, e5⟩ := Open.field_one (o := 5) (i := 5) (m := 7) (u := c5) (hf 5 _ rfl) hlen (by omega) (by kernel_rfl) rfl
  obtain ⟨x5, z5, _, w5⟩ := DataW.trod_int Tryd.underlying2 e5
  simp only [List.cons.injEq, and_true] at z5
  subst z5
  obtain ⟨y6, e6⟩ := Open.field_one (o := 6) (i := 6) (m := 7) (u := c6) (hf 6 _ rfl) hlen (by omega) (by kernel_rfl) rfl
  obtain ⟨x6, z6, _, w6⟩ := DataW.trod_int Tryd.underlying2 e6
  simp only [List.cons.injEq, and_true] at z6
  subst z6
  exact ⟨⟨x0, x1, x2, x3, x4, x5, x6⟩, k29_mk w ⟨x0, x1, x2, x3, x4, x5, x6⟩, ⟨w0, w1, w2, w3, w4, w5, w6⟩⟩⟩
set_option maxRecDepth 100000 in
theorem lifted (os : Os) (started : os.Started) (H : Type) (enc : TypeId × Value → H) :
    ReturnsInHanded {} Tryd.checked os 4 .any (fun w args => (Rows.usageFitsSpec.pre enc Tryd.prog Tryd.f4 [] false w args ∧ laidMetH Tryd.prog Rows.usageFitsRow.laid w) ∧ sizedMet enc Tryd.prog Tryd.f4 (OpenSpec.ofChange Rows.usageFitsSpec) false w args) (Rows.usageFitsSpec.post enc Tryd.prog Tryd.f4 false true false false) := by
  refine returnsInHanded_of_change_and (C := Tryd.checked) (X := fun w _ => laidMetH Tryd.prog Rows.usageFitsRow.laid w) (fun _ _ _ hh h => h.of_heap hh) own started (by kernel_rfl) Tryd.func4
    (witness_laid (enc := enc) (C := Tryd.checked) (os := os) (X := fun w _ => laidMetH Tryd.prog Rows.usageFitsRow.laid w) false (laidWorld os) #[.agg #[.int .i64 0, .int .i64 0, .int .i64 0, .int .i64 0], .agg #[.int .i64 0, .int .i64 0, .int .i64 0, .int .i64 0], .agg #[.int .i64 0, .int .i64 0, .int .i64 0, .int .i64 0, .int .i64 0, .int .i64 0, .int .i64 0]] 8 rfl (by kernel_rfl) (by kernel_rfl) (by kernel_rfl) (by kernel_rfl) (by kernel_rfl) (laidWorld_met os _)) ?_
  intro W base args ds gs before hval0 hW hcnd hsz0 hL _
  have hsz : (DataW.weightsEach Tryd.prog (Tryd.f4.params.toList ++ Rows.usageFitsSpec.plain.varTypes Tryd.prog) (ds ++ gs)).all (· ≤ reachBytes) = true := hsz0
  have hval : ∀ (j : Nat) t v, Tryd.f4.params[j]? = some t → args[j]? = some v → Value.okWide Tryd.prog W .any base t v := hval0
  have hW' := hW
  obtain ⟨p, q, hA0, hV, rfl, hfz, hnd⟩ := hW
  have hA : DataW.TrodAll enc Tryd.prog W 0 (fun _ => true) true Tryd.f4.params.toList args.toList ds p := hA0
  rw [Tryd.params4] at hA hval hsz
  obtain ⟨v0, vs0, d0, ds0, p0, q0, hargs, rfl, rfl, h0, r0⟩ := trodAll_cons hA
  obtain ⟨v1, vs1, d1, ds1, p1, q1, rfl, rfl, rfl, h1, r1⟩ := trodAll_cons r0
  obtain ⟨v2, vs2, d2, ds2, p2, q2, rfl, rfl, rfl, h2, r2⟩ := trodAll_cons r1
  obtain ⟨rfl, rfl, rfl⟩ := trodAll_nil r2
  obtain rfl : args = #[v0, v1, v2] := by cases args; simp_all
  obtain ⟨rfl, rfl⟩ := trodVars_none hV
  obtain ⟨cs0, rfl, _⟩ := okWide_struct Tryd.underlying23 (hval 0 23 v0 rfl rfl)
  have k0 := h0
  have lt0 : ∀ x ∈ p0, x.block < W.heap.size := by obtain ⟨m, hm⟩ := k0; exact DataW.trod_lt m _ _ _ hm
  obtain ⟨z0, hK0, w0⟩ := Open.open_whole opens_T23 h0
  obtain rfl : cs0 = #[.int .i64 z0.f0, .int .i64 z0.f1, .int .i64 z0.f2, .int .i64 z0.f3] := by
    have := k23_open hK0
    cases cs0
    simp only [] at this
    rw [this]
  obtain ⟨w0_0, w0_1, w0_2, w0_3⟩ := w0
  obtain ⟨cs1, rfl, _⟩ := okWide_struct Tryd.underlying23 (hval 1 23 v1 rfl rfl)
  have k1 := h1
  have lt1 : ∀ x ∈ p1, x.block < W.heap.size := by obtain ⟨m, hm⟩ := k1; exact DataW.trod_lt m _ _ _ hm
  obtain ⟨z1, hK1, w1⟩ := Open.open_whole opens_T23 h1
  obtain rfl : cs1 = #[.int .i64 z1.f0, .int .i64 z1.f1, .int .i64 z1.f2, .int .i64 z1.f3] := by
    have := k23_open hK1
    cases cs1
    simp only [] at this
    rw [this]
  obtain ⟨w1_0, w1_1, w1_2, w1_3⟩ := w1
  obtain ⟨cs2, rfl, _⟩ := okWide_struct Tryd.underlying29 (hval 2 29 v2 rfl rfl)
  have k2 := h2
  have lt2 : ∀ x ∈ p2, x.block < W.heap.size := by obtain ⟨m, hm⟩ := k2; exact DataW.trod_lt m _ _ _ hm
  obtain ⟨z2, hK2, w2⟩ := Open.open_whole opens_T29 h2
  obtain rfl : cs2 = #[.int .i64 z2.f0, .int .i64 z2.f1, .int .i64 z2.f2, .int .i64 z2.f3, .int .i64 z2.f4, .int .i64 z2.f5, .int .i64 z2.f6] := by
    have := k29_open hK2
    cases cs2
    simp only [] at this
    rw [this]
  obtain ⟨w2_0, w2_1, w2_2, w2_3, w2_4, w2_5, w2_6⟩ := w2
  clear hA0 hval0 hsz0 hsz
  obtain ⟨k, h⟩ := Pure.UsageFits z0.f0 z0.f1 z0.f2 z0.f3 z1.f0 z1.f1 z1.f2 z1.f3 z2.f0 z2.f1 z2.f2 z2.f3 z2.f4 z2.f5 z2.f6 w0_0 w0_1 w0_2 w0_3 w1_0 w1_1 w1_2 w1_3 w2_0 w2_1 w2_2 w2_3 w2_4 w2_5 w2_6
  refine (pannierlaw14_UsageFits.calls k z0.f0 z0.f1 z0.f2 z0.f3 z1.f0 z1.f1 z1.f2 z1.f3 z2.f0 z2.f1 z2.f2 z2.f3 z2.f4 z2.f5 z2.f6 true W  h).mono ?_
  rintro e W' ⟨rfl, hd⟩
  have bel : Below W.heap.size W W' := hd
  exact ⟨_, rfl, _, _, _, [], _, [], hW', trodAll_mk1 (shut_bool Tryd.underlying4 _), (trodAll_cons_mk (Below.trod laidOut (by kernel_rfl) (of_decide_eq_true (by kernel_rfl)) k0 bel lt0) (trodAll_cons_mk (Below.trod laidOut (by kernel_rfl) (of_decide_eq_true (by kernel_rfl)) k1 bel lt1) (trodAll_cons_mk (Below.trod laidOut (by kernel_rfl) (of_decide_eq_true (by kernel_rfl)) k2 bel lt2) trodAll_mk0))), rfl, bel.frame _, fun h => by cases h⟩
theorem over : Rows.usageFitsRow.holds Tryd.pinned (OpenSpec.ofChange Rows.usageFitsSpec) :=
  OpenClaim.holds_of_wide 4 Tryd.f4 rfl rfl rfl rfl rfl rfl rfl ⟨rfl, rfl, rfl, rfl, rfl⟩ rfl rfl rfl rfl rfl (by kernel_rfl) Tryd.func4 (by kernel_rfl)
    (of_decide_eq_true (by kernel_rfl)) (by unfold Func.isWrapper; first | (rw [if_pos (by decide +kernel)]; kernel_rfl) | (rw [if_neg (by decide +kernel)]; exact ⟨rfl, rfl⟩))
    (fun os started H enc _ => lifted os started H enc)
set_option maxRecDepth 100000 in
theorem card : Rows.UsageFitsCardSaid :=
  Claim7.holds_tied_plain_at .later [] [.data, .pinned] true (true, "8829a5796ad8fca6950acaae280fc8f35fcf52a0400929be0dc6ecf8e36a3e36") false
    over (fun _ h => by cases h) (by kernel_rfl) (fun _ h => by cases h) usageFits_row_tie rfl ⟨rfl, rfl⟩ (by kernel_rfl) rfl
    (fun f fn hf hfn => by
      obtain rfl : f = 4 := Option.some.inj ((show Tryd.prog.funcNamed Rows.usageFitsRow.func = some 4 by kernel_rfl).symm.trans hf) |>.symm
      obtain rfl : fn = Tryd.f4 := (Option.some.inj (Tryd.func4.symm.trans hfn)).symm
      exact ⟨by kernel_rfl, fun j t ht => by
        rw [Tryd.params4] at ht
        have hm := Array.mem_of_getElem? ht
        simp only [List.mem_toArray, List.mem_cons, List.not_mem_nil, or_false] at hm
        rcases hm with rfl | rfl | rfl <;> (first | exact (show Tryd.prog.wantsStandIn 23 = false by kernel_rfl) | exact (show Tryd.prog.wantsStandIn 29 = false by kernel_rfl))⟩)
    (by kernel_rfl)
#print axioms card
end Go.Proofs.YtolpamojbiipaaaDoor.usageFits
namespace Go.Proofs.YtolpamojbiipaaaDoor
/-- The row, under a short name, for the claim. -/
theorem usageFits_holds : Rows.UsageFitsCardSaid := usageFits.card
end Go.Proofs.YtolpamojbiipaaaDoor
