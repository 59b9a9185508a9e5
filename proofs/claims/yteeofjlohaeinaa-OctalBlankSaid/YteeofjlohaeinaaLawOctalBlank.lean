-- Written by a program of this session (wip/tools/xprint.py) out of the translation's print. Lean checks it.
import Derived.Test.YteeofjlohaeinaaRows
import Derived.Test.YteeofjlohaeinaaXA8
import Derived.Test.YteeofjlohaeinaaPureOctalBlank
import Derived.Test.YteeofjlohaeinaaEOpen
import Derived.WalkKit
import Derived.ProofKit
import Derived.OpenShut
import Derived.ShutString
import Derived.ChangeOld
import Derived.Below
import Derived.SizedLaws
namespace Go.Proofs.Yteeofjlohaeinaa.octalBlank
open Go.ChangeShapes Go.WideShapes Go.ChangeAt Go.RowKit
open Go.ChangeMaps (open_string shut_string)
open Go.Proofs.Yteeofjlohaeinaa.XA Go.Proofs.YteeofjlohaeinaaW.PrintWords
set_option linter.unusedVariables false
theorem own : ownKnob Try.prog.godebug = none := by kernel_rfl
theorem laidOut : laidOutB Try.prog = true := by kernel_rfl
theorem opens_T35 : Open.Opens Try.prog 35 k35 (fun x => ((Lit.int .i64 x.f0).wf = true ∧ (Lit.int .i64 x.f1).wf = true)) := ⟨by kernel_rfl, fun H enc w fuel cs y h => by
  obtain ⟨ys, n, _, _, hl, hlen, hf⟩ := DataW.trod_array Try.underlying35 h
  have hl' : cs.length = 2 := hl.trans (by kernel_rfl)
  obtain ⟨c0, c1, rfl⟩ : ∃ c0 c1, cs = [c0, c1] := by
    match cs, hl' with
    | [c0, c1], _ => exact ⟨c0, c1, rfl⟩
  obtain ⟨y0, e0⟩ := Open.field_one (o := 0 * Try.prog.cellsOf 3) (i := 0) (m := 2) (u := c0) (hf 0 (by omega)) hlen (by omega) (by kernel_rfl) (by rw [show Try.prog.cellsOf 3 = 1 from by kernel_rfl]; rfl)
  obtain ⟨x0, z0, _, w0⟩ := DataW.trod_int Try.underlying3 e0
  simp only [List.cons.injEq, and_true] at z0
  subst z0
  obtain ⟨y1, e1⟩ := Open.field_one (o := 1 * Try.prog.cellsOf 3) (i := 1) (m := 2) (u := c1) (hf 1 (by omega)) hlen (by omega) (by kernel_rfl) (by rw [show Try.prog.cellsOf 3 = 1 from by kernel_rfl]; rfl)
  obtain ⟨x1, z1, _, w1⟩ := DataW.trod_int Try.underlying3 e1
  simp only [List.cons.injEq, and_true] at z1
  subst z1
  exact ⟨⟨x0, x1⟩, k35_mk w ⟨x0, x1⟩, ⟨w0, w1⟩⟩⟩
set_option maxRecDepth 100000 in
theorem lifted (os : Os) (started : os.Started) (H : Type) (enc : TypeId × Value → H) :
    ReturnsInHanded {} Try.checked os 6 .any (Rows.octalBlankSpec.pre6 enc Try.prog Try.f6 Rows.octalBlankRow.domain false) (Rows.octalBlankSpec.post enc Try.prog Try.f6 false true false false) := by
  refine returnsInHanded_of_change_sized (C := Try.checked) own started (by kernel_rfl) Try.func6
    (ChangeSpec.witness6 (enc := enc) (C := Try.checked) false ⟨#[], #[.int .i64 0, .agg #[.int .i64 0, .int .i64 0], .int .u8 0], []⟩ 8 (by kernel_rfl) (by kernel_rfl) (by kernel_rfl) (by kernel_rfl)) ?_
  intro W base args ds gs before hval0 hW hcnd hsz0 _
  have hsz : (DataW.weightsEach Try.prog (Try.f6.params.toList ++ Rows.octalBlankSpec.plain.varTypes Try.prog) (ds ++ gs)).all (· ≤ reachBytes) = true := hsz0
  have hval : ∀ (j : Nat) t v, Try.f6.params[j]? = some t → args[j]? = some v → Value.okWide Try.prog W .any base t v := hval0
  have hW' := hW
  obtain ⟨p, q, hA0, hV, rfl, hfz, hnd⟩ := hW
  have hA : DataW.TrodAll enc Try.prog W 0 (fun _ => true) true Try.f6.params.toList args.toList ds p := hA0
  rw [Try.params6] at hA hval hsz
  obtain ⟨v0, vs0, d0, ds0, p0, q0, hargs, rfl, rfl, h0, r0⟩ := trodAll_cons hA
  obtain ⟨v1, vs1, d1, ds1, p1, q1, rfl, rfl, rfl, h1, r1⟩ := trodAll_cons r0
  obtain ⟨v2, vs2, d2, ds2, p2, q2, rfl, rfl, rfl, h2, r2⟩ := trodAll_cons r1
  obtain ⟨rfl, rfl, rfl⟩ := trodAll_nil r2
  obtain rfl : args = #[v0, v1, v2] := by cases args; simp_all
  obtain ⟨rfl, rfl⟩ := trodVars_none hV
  obtain ⟨a0, rfl, rfl, rfl, w0⟩ := open_int Try.underlying2 (hval 0 2 v0 rfl rfl) h0
  obtain ⟨cs1, rfl, _⟩ := Open.okWide_array Try.underlying35 (hval 1 35 v1 rfl rfl)
  have k1 := h1
  have lt1 : ∀ x ∈ p1, x.block < W.heap.size := by obtain ⟨m, hm⟩ := k1; exact DataW.trod_lt m _ _ _ hm
  obtain ⟨z1, hK1, w1⟩ := Open.open_whole opens_T35 h1
  obtain rfl : cs1 = #[.int .i64 z1.f0, .int .i64 z1.f1] := by
    have := k35_open hK1
    cases cs1
    simp only [] at this
    rw [this]
  obtain ⟨w1_0, w1_1⟩ := w1
  obtain ⟨a2, rfl, rfl, rfl, w2⟩ := open_int Try.underlying5 (hval 2 5 v2 rfl rfl) h2
  clear hA0 hval0 hsz0 hsz
  obtain ⟨k, h⟩ := Pure.OctalBlank a0 z1.f0 z1.f1 a2 w0 w1_0 w1_1 w2
  refine (pannierlaw02_OctalBlank.calls k a0 z1.f0 z1.f1 a2 true W  h).mono ?_
  rintro e W' ⟨rfl, hd⟩
  have bel : Below W.heap.size W W' := hd
  exact ⟨_, rfl, _, _, _, [], _, [], hW', trodAll_mk1 (shut_bool Try.underlying4 _), (trodAll_cons_mk (shut_int Try.underlying2 w0) (trodAll_cons_mk (Below.trod laidOut (by kernel_rfl) (of_decide_eq_true (by kernel_rfl)) k1 bel lt1) (trodAll_cons_mk (shut_int Try.underlying5 w2) trodAll_mk0))), rfl, bel.frame _, fun h => by cases h⟩
theorem over : Rows.octalBlankRow.holds Try.pinned (OpenSpec.ofChange Rows.octalBlankSpec) :=
  OpenClaim.holds_of_wide 6 Try.f6 rfl rfl rfl rfl rfl rfl rfl ⟨rfl, rfl, rfl, rfl, rfl⟩ rfl rfl rfl rfl rfl (by kernel_rfl) Try.func6 (by kernel_rfl)
    (of_decide_eq_true (by kernel_rfl)) (by unfold Func.isWrapper; first | (rw [if_pos (by decide +kernel)]; kernel_rfl) | (rw [if_neg (by decide +kernel)]; exact ⟨rfl, rfl⟩))
    (fun os started H enc _ => lifted os started H enc)
theorem proved : Rows.OctalBlankSaid := over
#print axioms proved
end Go.Proofs.Yteeofjlohaeinaa.octalBlank
namespace Go.Proofs.Yteeofjlohaeinaa
/-- The row, under a short name, for the claim. -/
theorem octalBlank_holds : Rows.OctalBlankSaid := octalBlank.proved
end Go.Proofs.Yteeofjlohaeinaa
