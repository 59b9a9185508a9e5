-- Written by a program of this session (wip/tools/xprint.py) out of the translation's print. Lean checks it.
import Derived.Test.YtchldbhnohicoaaRows
import Derived.Test.YtchldbhnohicoaaPureHeadOld
import Derived.Test.YtchldbhnohicoaaEOpen
import Derived.WalkKit
import Derived.ProofKit
import Derived.OpenShut
import Derived.ShutString
import Derived.ChangeOld
import Derived.Below
import Derived.SizedLaws
namespace Go.Proofs.Ytchldbhnohicoaa.headOld
open Go.ChangeShapes Go.WideShapes Go.ChangeAt Go.RowKit
open Go.ChangeMaps (open_string shut_string)
open Go.Proofs.Ytchldbhnohicoaa.XA Go.Proofs.YtchldbhnohicoaaW.PrintWords
set_option linter.unusedVariables false
theorem own : ownKnob Try.prog.godebug = none := by kernel_rfl
theorem laidOut : laidOutB Try.prog = true := by kernel_rfl
theorem opens_T25 : Open.Opens Try.prog 25 k25 (fun x => ((Lit.int .i64 x.f0).wf = true ∧ x.f1.size ≤ 9223372036854775807 ∧ x.f2.size ≤ 9223372036854775807 ∧ x.f3.size ≤ 9223372036854775807 ∧ x.f4.size ≤ 9223372036854775807 ∧ x.f5.size ≤ 9223372036854775807 ∧ (Lit.int .u8 x.f6).wf = true ∧ (Lit.int .i64 x.f7).wf = true ∧ (Lit.int .i64 x.f8).wf = true ∧ (Lit.int .i64 x.f9).wf = true ∧ (Lit.int .i64 x.f10).wf = true ∧ (Lit.int .i64 x.f11).wf = true)) := ⟨by kernel_rfl, fun H enc w fuel cs y h => by
  obtain ⟨ys, n, _, _, hl, hlen, hf⟩ := DataW.trod_struct Try.underlying25 h
  have hl' : cs.length = 12 := hl.trans (by kernel_rfl)
  obtain ⟨c0, c1, c2, c3, c4, c5, c6, c7, c8, c9, c10, c11, rfl⟩ : ∃ c0 c1 c2 c3 c4 c5 c6 c7 c8 c9 c10 c11, cs = [c0, c1, c2, c3, c4, c5, c6, c7, c8, c9, c10, c11] := by
    match cs, hl' with
    | [c0, c1, c2, c3, c4, c5, c6, c7, c8, c9, c10, c11], _ => exact ⟨c0, c1, c2, c3, c4, c5, c6, c7, c8, c9, c10, c11, rfl⟩
  obtain ⟨y0, e0⟩ := Open.field_one (o := 0) (i := 0) (m := 12) (u := c0) (hf 0 _ rfl) hlen (by omega) (by kernel_rfl) rfl
  obtain ⟨x0, z0, _, w0⟩ := DataW.trod_int Try.underlying3 e0
  simp only [List.cons.injEq, and_true] at z0
  subst z0
  obtain ⟨y1, e1⟩ := Open.field_one (o := 1) (i := 1) (m := 12) (u := c1) (hf 1 _ rfl) hlen (by omega) (by kernel_rfl) rfl
  obtain ⟨x1, z1, _, w1⟩ := DataW.trod_string Try.underlying9 e1
  simp only [List.cons.injEq, and_true] at z1
  subst z1
  obtain ⟨y2, e2⟩ := Open.field_one (o := 2) (i := 2) (m := 12) (u := c2) (hf 2 _ rfl) hlen (by omega) (by kernel_rfl) rfl
  obtain ⟨x2, z2, _, w2⟩ := DataW.trod_string Try.underlying9 e2
  simp only [List.cons.injEq, and_true] at z2
  subst z2
  obtain ⟨y3, e3⟩ := Open.field_one (o := 3) (i := 3) (m := 12) (u := c3) (hf 3 _ rfl) hlen (by omega) (by kernel_rfl) rfl
  obtain ⟨x3, z3, _, w3⟩ := DataW.trod_string Try.underlying9 e3
  simp only [List.cons.injEq, and_true] at z3
  subst z3
  obtain ⟨y4, e4⟩ := Open.field_one (o := 4) (i := 4) (m := 12) (u := c4) (hf 4 _ rfl) hlen (by omega) (by kernel_rfl) rfl
  obtain ⟨x4, z4, _, w4⟩ := DataW.trod_string Try.underlying9 e4
  simp only [List.cons.injEq, and_true] at z4
  subst z4
  obtain ⟨y5, e5⟩ := Open.field_one (o := 5) (i := 5) (m := 12) (u := c5) (hf 5 _ rfl) hlen (by omega) (by kernel_rfl) rfl
  obtain ⟨x5, z5, _, w5⟩ := DataW.trod_string Try.underlying9 e5
  simp only [List.cons.injEq, and_true] at z5
  subst z5
  obtain ⟨y6, e6⟩ := Open.field_one (o := 6) (i := 6) (m := 12) (u := c6) (hf 6 _ rfl) hlen (by omega) (by kernel_rfl) rfl
  obtain ⟨x6, z6, _, w6⟩ := DataW.trod_int Try.underlying5 e6
  simp only [List.cons.injEq, and_true] at z6
  subst z6
  obtain ⟨y7, e7⟩ := Open.field_one (o := 7) (i := 7) (m := 12) (u := c7) (hf 7 _ rfl) hlen (by omega) (by kernel_rfl) rfl
  obtain ⟨x7, z7, _, w7⟩ := DataW.trod_int Try.underlying2 e7
  simp only [List.cons.injEq, and_true] at z7
  subst z7
  obtain ⟨y8, e8⟩ := Open.field_one (o := 8) (i := 8) (m := 12) (u := c8) (hf 8 _ rfl) hlen (by omega) (by kernel_rfl) rfl
  obtain ⟨x8, z8, _, w8⟩ := DataW.trod_int Try.underlying2 e8
  simp only [List.cons.injEq, and_true] at z8
  subst z8
  obtain ⟨y9, e9⟩ := Open.field_one (o := 9) (i := 9) (m := 12) (u := c9) (hf 9 _ rfl) hlen (by omega) (by kernel_rfl) rfl
  obtain ⟨x9, z9, _, w9⟩ := DataW.trod_int Try.underlying2 e9
  simp only [List.cons.injEq, and_true] at z9
  subst z9
  obtain ⟨y10, e10⟩ := Open.field_one (o := 10) (i := 10) (m := 12) (u := c10) (hf 10 _ rfl) hlen (by omega) (by kernel_rfl) rfl
  obtain ⟨x10, z10, _, w10⟩ := DataW.trod_int Try.underlying2 e10
  simp only [List.cons.injEq, and_true] at z10
  subst z10
  obtain ⟨y11, e11⟩ := Open.field_one (o := 11) (i := 11) (m := 12) (u := c11) (hf 11 _ rfl) hlen (by omega) (by kernel_rfl) rfl
  obtain ⟨x11, z11, _, w11⟩ := DataW.trod_int Try.underlying2 e11
  simp only [List.cons.injEq, and_true] at z11
  subst z11
  exact ⟨⟨x0, x1, x2, x3, x4, x5, x6, x7, x8, x9, x10, x11⟩, k25_mk w ⟨x0, x1, x2, x3, x4, x5, x6, x7, x8, x9, x10, x11⟩, ⟨w0, w1, w2, w3, w4, w5, w6, w7, w8, w9, w10, w11⟩⟩⟩
set_option maxRecDepth 100000 in
theorem lifted (os : Os) (started : os.Started) (H : Type) (enc : TypeId × Value → H) :
    ReturnsInHanded {} Try.checked os 6 .any (Rows.headOldSpec.pre6 enc Try.prog Try.f6 Rows.headOldRow.domain false) (Rows.headOldSpec.post enc Try.prog Try.f6 false true false false) := by
  refine returnsInHanded_of_change_sized (C := Try.checked) own started (by kernel_rfl) Try.func6
    (ChangeSpec.witness6 (enc := enc) (C := Try.checked) false ⟨#[], #[.agg #[.int .i64 0, .string ByteArray.empty, .string ByteArray.empty, .string ByteArray.empty, .string ByteArray.empty, .string ByteArray.empty, .int .u8 0, .int .i64 0, .int .i64 0, .int .i64 0, .int .i64 0, .int .i64 0], .bool false], []⟩ 8 (by kernel_rfl) (by kernel_rfl) (by kernel_rfl) (by kernel_rfl)) ?_
  intro W base args ds gs before hval0 hW hcnd hsz0 _
  have hsz : (DataW.weightsEach Try.prog (Try.f6.params.toList ++ Rows.headOldSpec.plain.varTypes Try.prog) (ds ++ gs)).all (· ≤ reachBytes) = true := hsz0
  have hval : ∀ (j : Nat) t v, Try.f6.params[j]? = some t → args[j]? = some v → Value.okWide Try.prog W .any base t v := hval0
  have hW' := hW
  obtain ⟨p, q, hA0, hV, rfl, hfz, hnd⟩ := hW
  have hA : DataW.TrodAll enc Try.prog W 0 (fun _ => true) true Try.f6.params.toList args.toList ds p := hA0
  rw [Try.params6] at hA hval hsz
  obtain ⟨v0, vs0, d0, ds0, p0, q0, hargs, rfl, rfl, h0, r0⟩ := trodAll_cons hA
  obtain ⟨v1, vs1, d1, ds1, p1, q1, rfl, rfl, rfl, h1, r1⟩ := trodAll_cons r0
  obtain ⟨rfl, rfl, rfl⟩ := trodAll_nil r1
  obtain rfl : args = #[v0, v1] := by cases args; simp_all
  obtain ⟨rfl, rfl⟩ := trodVars_none hV
  obtain ⟨cs0, rfl, _⟩ := okWide_struct Try.underlying25 (hval 0 25 v0 rfl rfl)
  have k0 := h0
  have lt0 : ∀ x ∈ p0, x.block < W.heap.size := by obtain ⟨m, hm⟩ := k0; exact DataW.trod_lt m _ _ _ hm
  obtain ⟨z0, hK0, w0⟩ := Open.open_whole opens_T25 h0
  obtain rfl : cs0 = #[.int .i64 z0.f0, .string z0.f1, .string z0.f2, .string z0.f3, .string z0.f4, .string z0.f5, .int .u8 z0.f6, .int .i64 z0.f7, .int .i64 z0.f8, .int .i64 z0.f9, .int .i64 z0.f10, .int .i64 z0.f11] := by
    have := k25_open hK0
    cases cs0
    simp only [] at this
    rw [this]
  obtain ⟨w0_0, w0_1, w0_2, w0_3, w0_4, w0_5, w0_6, w0_7, w0_8, w0_9, w0_10, w0_11⟩ := w0
  obtain ⟨a1, rfl, rfl, rfl⟩ := open_bool Try.underlying4 (hval 1 4 v1 rfl rfl) h1
  clear hA0 hval0 hsz0 hsz
  refine (Pure.HeadOld z0.f0 z0.f1 z0.f2 z0.f3 z0.f4 z0.f5 z0.f6 z0.f7 z0.f8 z0.f9 z0.f10 z0.f11 a1 W w0_6 w0_7 w0_8 w0_9 w0_10 w0_11).mono ?_
  rintro e W' ⟨rfl, hd⟩
  have bel : Below W.heap.size W W' := hd
  exact ⟨_, rfl, _, _, _, [], _, [], hW', trodAll_mk1 (shut_bool Try.underlying4 _), (trodAll_cons_mk (Below.trod laidOut (by kernel_rfl) (of_decide_eq_true (by kernel_rfl)) k0 bel lt0) (trodAll_cons_mk (shut_bool Try.underlying4 _) trodAll_mk0)), rfl, bel.frame _, fun h => by cases h⟩
theorem over : Rows.headOldRow.holds Try.pinned (OpenSpec.ofChange Rows.headOldSpec) :=
  OpenClaim.holds_of_wide 6 Try.f6 rfl rfl rfl rfl rfl rfl rfl ⟨rfl, rfl, rfl, rfl, rfl⟩ rfl rfl rfl rfl rfl (by kernel_rfl) Try.func6 (by kernel_rfl)
    (of_decide_eq_true (by kernel_rfl)) (by unfold Func.isWrapper; first | (rw [if_pos (by decide +kernel)]; kernel_rfl) | (rw [if_neg (by decide +kernel)]; exact ⟨rfl, rfl⟩))
    (fun os started H enc _ => lifted os started H enc)
theorem proved : Rows.HeadOldSaid := over
#print axioms proved
end Go.Proofs.Ytchldbhnohicoaa.headOld
namespace Go.Proofs.Ytchldbhnohicoaa
/-- The row, under a short name, for the claim. -/
theorem headOld_holds : Rows.HeadOldSaid := headOld.proved
end Go.Proofs.Ytchldbhnohicoaa
