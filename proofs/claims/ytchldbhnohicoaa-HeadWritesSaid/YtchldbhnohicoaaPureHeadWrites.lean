/- HeadWrites: any header is written as the document says, or refused; and read as it was. No conditions. -/
import Derived.Test.YtchldbhnohicoaaURefEncode
import Derived.Test.YtchldbhnohicoaaXA15
namespace Go.Proofs.Ytchldbhnohicoaa.Pure
open Go.RowKit Go.Proofs.Ytchldbhnohicoaa.XA Go.Proofs.YtchldbhnohicoaaW.PrintWords Go.Proofs.YtchldbhnohicoaaW.PrintLast Go.Proofs.YtchldbhnohicoaaW.PrintMore
set_option linter.unusedSimpArgs false
set_option linter.unusedVariables false

theorem HeadWrites : pannierlaw06_HeadWrites.Pure := by
  intro a0 a1 a2 a3 a4 a5 a6 a7 a8 a9 a10 a11 w0 _ _ _ _ _ w6 w7 w8 w9 w10 w11
  have h6 := u8_wf w6
  have h7 := i64_wf w7
  have h8 := i64_wf w8
  have h9 := i64_wf w9
  have h10 := i64_wf w10
  have h11 := i64_wf w11
  refine Ev.rounds (r := true) ?_
  unfold pannierlaw06_HeadWrites.f
  refine ev_bind reads_ev ?_
  simp only [if_true]
  split
  · exact ev_some _
  · refine ev_bind (encode_ev (a0 := a0) h6 h7 h8 h9 h10 h11) ?_
    unfold pannierlaw06_plain.f
    simp only [Option.bind_some]
    refine ev_bind (refencode_ev (a0 := a0) h6 h7 h8 h9 h10 h11) ?_
    simp only [if_true, bne_self_eq_false]
    refine Ev.step (fun k => by rw [pannierlaw06_HeadWrites.j0]) ?_
    simp only [Bool.false_eq_true, if_false]
    by_cases ht : textsFit a1 a2 a3 a4 a5 = true
    · by_cases hn : numsFit a7 a8 a9 a10 a11 = true
      · rw [encoded_yes ht hn]
        simp only [if_true]
        have hs := textsFit_sizes ht
        have hh := bare_holds (a6 := a6) (a7 := a7) (a8 := a8) (a9 := a9) (a10 := a10) (a11 := a11) hs.1 hs.2.1 hs.2.2.1 hs.2.2.2.1 hs.2.2.2.2 h6
        have hS := hh.sealed
        have hR := sealed_right hh.bytes hh.len
        have hD := dec_holds hS hR ht hn h7.2 h8.2 h9.2 h10.2 h11.2
        refine ev_bind (decode_ev hS.bytes (by rw [hS.len]; omega)) ?_
        rw [hD]
        have hf : formOf [117, 115, 116, 97, 114, 0, 48, 48] = 1 := rfl
        simp only [hf, if_true, show ¬ (1 = 0) by omega, if_false]
        refine ev_eq (ev_some _) ?_
        simp
      · rw [encoded, if_pos ht, if_neg hn]
        simp only [show ¬ ((20 : Int) = 0) by omega, if_false]
        exact ev_some _
    · rw [encoded, if_neg ht]
      simp only [show ¬ ((2 : Int) = 0) by omega, if_false]
      exact ev_some _
end Go.Proofs.Ytchldbhnohicoaa.Pure
