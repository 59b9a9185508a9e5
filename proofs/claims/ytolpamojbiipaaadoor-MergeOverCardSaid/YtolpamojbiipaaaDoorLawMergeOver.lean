/- MergeOver: for every input the law returns true. Its row, a tied card; written by wip/tools/gen_row.py. -/
import Derived.Test.YtolpamojbiipaaaDoorRows
import Derived.Test.YtolpamojbiipaaaDoorCards
import Derived.Test.YtolpamojbiipaaaDoorTie
import Derived.Test.YtolpamojbiipaaaDoorELaid
import Derived.SevenTiedAt
import Derived.Handed
import Derived.Test.YtolpamojbiipaaaDoorELMergeOver
import Derived.Test.YtolpamojbiipaaaDoorEOpen
import Derived.WalkKit
import Derived.ProofKit
import Derived.OpenShut
import Derived.ShutString
import Derived.ChangeOld
import Derived.Below
import Derived.SizedLaws
namespace Go.Proofs.YtolpamojbiipaaaDoor.mergeOver
open Go.ChangeShapes Go.WideShapes Go.ChangeAt Go.RowKit
open Go.ChangeMaps (open_string shut_string)
open Go.Proofs.YtolpamojbiipaaaDoor.XA Go.Proofs.YtolpamojbiipaaaDoorW.PrintWords
set_option linter.unusedVariables false
theorem own : ownKnob Tryd.prog.godebug = none := by kernel_rfl
theorem laidOut : laidOutB Tryd.prog = true := by kernel_rfl
set_option maxRecDepth 100000 in
theorem opens_T104 : Open.Opens Tryd.prog 104 k104 (fun x => ((Lit.int .i64 x.f0).wf = true ∧ (Lit.int .i64 x.f1).wf = true ∧ x.f2.size ≤ 9223372036854775807 ∧ x.f3.size ≤ 9223372036854775807)) := ⟨by kernel_rfl, fun H enc w fuel cs y h => by
  obtain ⟨ys, n, _, _, hl, hlen, hf⟩ := DataW.trod_struct Tryd.underlying104 h
  have hl' : cs.length = 4 := hl.trans (by kernel_rfl)
  obtain ⟨c0, c1, c2, c3, rfl⟩ : ∃ c0 c1 c2 c3, cs = [c0, c1, c2, c3] := by
    match cs, hl' with
    | [c0, c1, c2, c3], _ => exact ⟨c0, c1, c2, c3, rfl⟩
  obtain ⟨y0, e0⟩ := Open.field_one (o := 0) (i := 0) (m := 4) (u := c0) (hf 0 _ rfl) hlen (by omega) (by kernel_rfl) rfl
  obtain ⟨x0, z0, _, w0⟩ := DataW.trod_int Tryd.underlying3 e0
  simp only [List.cons.injEq, and_true] at z0
  subst z0
  obtain ⟨y1, e1⟩ := Open.field_one (o := 1) (i := 1) (m := 4) (u := c1) (hf 1 _ rfl) hlen (by omega) (by kernel_rfl) rfl
  obtain ⟨x1, z1, _, w1⟩ := DataW.trod_int Tryd.underlying3 e1
  simp only [List.cons.injEq, and_true] at z1
  subst z1
  obtain ⟨y2, e2⟩ := Open.field_one (o := 2) (i := 2) (m := 4) (u := c2) (hf 2 _ rfl) hlen (by omega) (by kernel_rfl) rfl
  obtain ⟨x2, z2, _, w2⟩ := DataW.trod_string Tryd.underlying9 e2
  simp only [List.cons.injEq, and_true] at z2
  subst z2
  obtain ⟨y3, e3⟩ := Open.field_one (o := 3) (i := 3) (m := 4) (u := c3) (hf 3 _ rfl) hlen (by omega) (by kernel_rfl) rfl
  obtain ⟨x3, z3, _, w3⟩ := DataW.trod_string Tryd.underlying9 e3
  simp only [List.cons.injEq, and_true] at z3
  subst z3
  exact ⟨⟨x0, x1, x2, x3⟩, k104_mk w ⟨x0, x1, x2, x3⟩, ⟨w0, w1, w2, w3⟩⟩⟩
set_option maxRecDepth 100000 in
theorem lifted (os : Os) (started : os.Started) (H : Type) (enc : TypeId × Value → H) :
    ReturnsInHanded {} Tryd.checked os 8 .any (fun w args => (Rows.mergeOverSpec.pre enc Tryd.prog Tryd.f8 [] false w args ∧ laidMetH Tryd.prog Rows.mergeOverRow.laid w) ∧ sizedMet enc Tryd.prog Tryd.f8 (OpenSpec.ofChange Rows.mergeOverSpec) false w args) (Rows.mergeOverSpec.post enc Tryd.prog Tryd.f8 false true false false) := by
  refine returnsInHanded_of_change_and (C := Tryd.checked) (X := fun w _ => laidMetH Tryd.prog Rows.mergeOverRow.laid w) (fun _ _ _ hh h => h.of_heap hh) own started (by kernel_rfl) Tryd.func8
    (witness_laid (enc := enc) (C := Tryd.checked) (os := os) (X := fun w _ => laidMetH Tryd.prog Rows.mergeOverRow.laid w) false (laidWorld os) #[.slice none 0 0, .slice none 0 0] 8 rfl (by kernel_rfl) (by kernel_rfl) (by kernel_rfl) (by kernel_rfl) (by kernel_rfl) (laidWorld_met os _)) ?_
  intro W base args ds gs before hval0 hW hcnd hsz0 hL _
  have hsz : (DataW.weightsEach Tryd.prog (Tryd.f8.params.toList ++ Rows.mergeOverSpec.plain.varTypes Tryd.prog) (ds ++ gs)).all (· ≤ reachBytes) = true := hsz0
  have hval : ∀ (j : Nat) t v, Tryd.f8.params[j]? = some t → args[j]? = some v → Value.okWide Tryd.prog W .any base t v := hval0
  have hW' := hW
  obtain ⟨p, q, hA0, hV, rfl, hfz, hnd⟩ := hW
  have hA : DataW.TrodAll enc Tryd.prog W 0 (fun _ => true) true Tryd.f8.params.toList args.toList ds p := hA0
  rw [Tryd.params8] at hA hval hsz
  obtain ⟨v0, vs0, d0, ds0, p0, q0, hargs, rfl, rfl, h0, r0⟩ := trodAll_cons hA
  obtain ⟨v1, vs1, d1, ds1, p1, q1, rfl, rfl, rfl, h1, r1⟩ := trodAll_cons r0
  obtain ⟨rfl, rfl, rfl⟩ := trodAll_nil r1
  obtain rfl : args = #[v0, v1] := by cases args; simp_all
  obtain ⟨rfl, rfl⟩ := trodVars_none hV
  obtain ⟨a0, len0, cap0, rfl⟩ := okWide_slice Tryd.underlying61 (hval 0 61 v0 rfl rfl)
  have k0 := h0
  have lt0 : ∀ x ∈ p0, x.block < W.heap.size := by obtain ⟨m, hm⟩ := k0; exact DataW.trod_lt m _ _ _ hm
  obtain ⟨l0, rfl, hc0, hr0, m0, w0⟩ := Open.open_rows Tryd.underlying61 (by kernel_rfl) opens_T104 h0
  obtain ⟨a1, len1, cap1, rfl⟩ := okWide_slice Tryd.underlying61 (hval 1 61 v1 rfl rfl)
  have k1 := h1
  have lt1 : ∀ x ∈ p1, x.block < W.heap.size := by obtain ⟨m, hm⟩ := k1; exact DataW.trod_lt m _ _ _ hm
  obtain ⟨l1, rfl, hc1, hr1, m1, w1⟩ := Open.open_rows Tryd.underlying61 (by kernel_rfl) opens_T104 h1
  clear hA0 hval0 hsz0 hsz
  refine (MergeOver_walk W (XA.GG_of_laid hL) _ _ l0 hr0 m0 w0 _ _ l1 hr1 m1 w1).mono ?_
  rintro e W' ⟨rfl, hd⟩
  have bel : Below W.heap.size W W' := hd
  exact ⟨_, rfl, _, _, _, [], _, [], hW', trodAll_mk1 (shut_bool Tryd.underlying4 _), (trodAll_cons_mk (Below.trod laidOut (by kernel_rfl) (of_decide_eq_true (by kernel_rfl)) k0 bel lt0) (trodAll_cons_mk (Below.trod laidOut (by kernel_rfl) (of_decide_eq_true (by kernel_rfl)) k1 bel lt1) trodAll_mk0)), rfl, bel.frame _, fun h => by cases h⟩
theorem over : Rows.mergeOverRow.holds Tryd.pinned (OpenSpec.ofChange Rows.mergeOverSpec) :=
  OpenClaim.holds_of_wide 8 Tryd.f8 rfl rfl rfl rfl rfl rfl rfl ⟨rfl, rfl, rfl, rfl, rfl⟩ rfl rfl rfl rfl rfl (by kernel_rfl) Tryd.func8 (by kernel_rfl)
    (of_decide_eq_true (by kernel_rfl)) (by unfold Func.isWrapper; first | (rw [if_pos (by decide +kernel)]; kernel_rfl) | (rw [if_neg (by decide +kernel)]; exact ⟨rfl, rfl⟩))
    (fun os started H enc _ => lifted os started H enc)
set_option maxRecDepth 100000 in
theorem card : Rows.MergeOverCardSaid :=
  Claim7.holds_tied_plain_at .later [] [.data, .pinned] true (true, "8829a5796ad8fca6950acaae280fc8f35fcf52a0400929be0dc6ecf8e36a3e36") false
    over (fun _ h => by cases h) (by kernel_rfl) (fun _ h => by cases h) mergeOver_row_tie rfl ⟨rfl, rfl⟩ (by kernel_rfl) rfl
    (fun f fn hf hfn => by
      obtain rfl : f = 8 := Option.some.inj ((show Tryd.prog.funcNamed Rows.mergeOverRow.func = some 8 by kernel_rfl).symm.trans hf) |>.symm
      obtain rfl : fn = Tryd.f8 := (Option.some.inj (Tryd.func8.symm.trans hfn)).symm
      exact ⟨by kernel_rfl, fun j t ht => by
        rw [Tryd.params8] at ht
        have hm := Array.mem_of_getElem? ht
        simp only [List.mem_toArray, List.mem_cons, List.not_mem_nil, or_false] at hm
        rcases hm with rfl | rfl <;> (first | exact (show Tryd.prog.wantsStandIn 61 = false by kernel_rfl))⟩)
    (by kernel_rfl)
#print axioms card
end Go.Proofs.YtolpamojbiipaaaDoor.mergeOver
namespace Go.Proofs.YtolpamojbiipaaaDoor
/-- The row, under a short name, for the claim. -/
theorem mergeOver_holds : Rows.MergeOverCardSaid := mergeOver.card
end Go.Proofs.YtolpamojbiipaaaDoor
