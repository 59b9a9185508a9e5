/- The small head of layer 2's laws: for no input at all it answers true. -/
import Derived.Test.YteeofjlohaeinaaXA2
import Derived.Test.YteeofjlohaeinaaXA3
import Derived.Lib.SlBytesConst

import Derived.WalkLawsBesides
namespace Go.Proofs.Yteeofjlohaeinaa.XA
open Go.RowKit Go.Proofs.YteeofjlohaeinaaW.PrintWords Go.Proofs.YteeofjlohaeinaaW.PrintLast Go.Proofs.YteeofjlohaeinaaW.PrintMore
set_option linter.unusedVariables false
set_option linter.unusedSimpArgs false

def pannierlaw02_reads.f : Option Bool := some true

theorem reads02_parse : octal_Parse.f 40 [48, 48, 48, 48, 54, 52, 52, 0] = some (420, 0) := by
  simp [octal_Parse.f, octal_Parse.l0, octal_Parse.j0, octal_Parse.j2, octal_Parse.j4, octal_Parse.l1, octal_Parse.l2, rd, wrap64]
theorem reads02_format : octal_Format.f 40 420 8 = some ([48, 48, 48, 48, 54, 52, 52, 0], 0) := by
  simp [octal_Format.f, octal_Format.l0, octal_Format.j0, octal_Fits.f, octal_digits.f, octal_digits.l0, wrap64]

theorem reads02_text : ((strOfNums [48, 48, 48, 48, 54, 52, 52, 0]).toList == [48, 48, 48, 48, 54, 52, 52, 0]) = true := by decide +kernel

theorem reads02_cells (w : World) : Kd.C (Kd.int .u8) (w.alloc (.cells #[.int .u8 48, .int .u8 48, .int .u8 48, .int .u8 48, .int .u8 54, .int .u8 52, .int .u8 52, .int .u8 0] 5 (8, 9))) (some ⟨w.heap.size, 0, none⟩) 8 [48, 48, 48, 48, 54, 52, 52, 0] := by
  refine Kd.C_of_reads (d := (0 : Int)) (h1 := fun _ => rfl) ⟨rfl, by omega, fun _ => ⟨_, rfl, fun j hj => ?_⟩⟩
  rw [add_plain, World.cell?_alloc_mark]
  match j, hj with
  | 0, _ | 1, _ | 2, _ | 3, _ | 4, _ | 5, _ | 6, _ | 7, _ => rfl

set_option maxHeartbeats 1000000 in
set_option maxRecDepth 100000 in
theorem pannierlaw02_reads.calls (r : Bool) (w : World) (h : pannierlaw02_reads.f = some r) :
    Calls Try.prog 15 #[] w fun e w' => e = .returned (.bool r) ∧ Below w.heap.size w w' := by
  obtain rfl := Option.some.inj h
  have hu1 := Try.underlying22
  have hu2 := Try.underlying5
  have kc := fun (w : World) (C : Array Value) (n c : Nat) => Lib.run_convert_bytes_const (P := Try.prog) w 22 5 C n c Try.underlying22 Try.underlying5
  go_enter Try.func15, Try.ntmps15
  go_wp2_with fail
  refine (octal_Parse.calls 40 _ _ [48, 48, 48, 48, 54, 52, 52, 0] 420 0 _ (reads02_cells w) (by simp) reads02_parse).mono ?_
  rintro e w1 ⟨rfl, ⟨nd, rfl⟩⟩
  go_wp2_with fail
  refine (octal_Format.calls 40 420 8 [48, 48, 48, 48, 54, 52, 52, 0] 0 _ reads02_format).mono ?_
  rintro e w2 ⟨v, rfl, ho, hb⟩
  have hcv := own_string (P := Try.prog) Try.underlying22 Try.underlying5 Try.underlying9 (Kd.own_of_R ho)
  have HB := Aside0.mk hb
  clear hb ho
  go_wp2
  go_ret
  refine ⟨by show Ending.returned (.bool ((strOfNums [48, 48, 48, 48, 54, 52, 52, 0]).toList == [48, 48, 48, 48, 54, 52, 52, 0])) = _; rw [reads02_text], ?_⟩
  exact below_step (by repeat (first | exact Below.refl _ _ | apply below_alloc | apply pw_below_drewN | apply below_drew1)) HB.out
end Go.Proofs.Yteeofjlohaeinaa.XA
