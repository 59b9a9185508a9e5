/- OctalWidth: a number fits into a field of so many bytes just if it is below 8 to the power of one less; into a wider one it fits, too. No conditions. -/
import Derived.Test.YteeofjlohaeinaaUFormat
import Derived.Test.YteeofjlohaeinaaXA7
namespace Go.Proofs.Yteeofjlohaeinaa.Pure
open Go.RowKit Go.Proofs.Yteeofjlohaeinaa.XA Go.Proofs.YteeofjlohaeinaaW.PrintWords Go.Proofs.YteeofjlohaeinaaW.PrintLast Go.Proofs.YteeofjlohaeinaaW.PrintMore

theorem shl_eight (m : Nat) (hm : m ≤ 20) : shl .i64 1 (3 * (m : Int)) = 8 ^ m := by
  have : ∀ m : Fin 21, shl .i64 1 (3 * (m.val : Int)) = 8 ^ m.val := by decide +kernel
  exact this ⟨m, by omega⟩
theorem OctalWidth : pannierlaw02_OctalWidth.Pure := by
  intro n w hn hw
  have hn := i64_wf hn
  have hw := i64_wf hw
  refine Ev.rounds (r := true) ?_
  unfold pannierlaw02_OctalWidth.f pannierlaw02_reads.f
  simp only [Option.bind_some, if_true]
  have bad : Ev (fun k => pannierlaw02_OctalWidth.j0 k n w true) true := by
    refine Ev.step (fun k => by rw [pannierlaw02_OctalWidth.j0]) ?_
    simp only [if_true]
    exact ev_some _
  by_cases h2 : w < 2
  · simp only [h2, if_true]
    exact bad
  · by_cases h21 : w > 21
    · simp only [h2, h21, if_false, decide_true]
      exact bad
    · simp only [h2, h21, if_false, decide_false]
      refine Ev.step (fun k => by rw [pannierlaw02_OctalWidth.j0]) ?_
      have hmore : fits n w = true → fits n (w + 1) = true := by
        simp only [fits, decide_eq_true_eq]
        omega
      simp only [Bool.false_eq_true, if_false, w64 (x := w - 1) (by omega) (by omega), w64 (x := 3 * (w - 1)) (by omega) (by omega), w64 (x := w + 1) (by omega) (by omega), show 0 ≤ 3 * (w - 1) by omega, if_true]
      refine ev_bind (fits_ev (w := w) hn.1 hn.2) ?_
      have tail : Ev (fun k => (octal_Fits.f k n w).bind fun t => if t = true then ((octal_Fits.f k n (w + 1)).bind fun u => some u) else some true) true := by
        refine ev_bind (fits_ev (w := w) hn.1 hn.2) ?_
        by_cases hf : fits n w = true
        · simp only [hf, if_true]
          refine ev_bind (fits_ev (w := w + 1) hn.1 hn.2) ?_
          exact ev_eq (ev_some _) (hmore hf)
        · simp only [hf]
          exact ev_some _
      by_cases h0 : n ≥ 0
      · have e : (fits n w == decide (n < shl .i64 1 (3 * (w - 1)))) = true := by
          have hs := shl_eight (w.toNat - 1) (by omega)
          rw [show ((w.toNat - 1 : Nat) : Int) = w - 1 by omega] at hs
          rw [hs]
          have := digs_le (w.toNat - 2) n h0
          rw [show w.toNat - 2 + 1 = w.toNat - 1 by omega] at this
          rw [beq_iff_eq, Bool.eq_iff_iff]
          simp only [fits, decide_eq_true_eq]
          omega
        simp only [h0, if_true, e]
        exact tail
      · have e : (fits n w == false) = true := by
          rw [beq_iff_eq]
          simp only [fits, decide_eq_false_iff_not]
          omega
        simp only [h0, if_false, e, if_true]
        exact tail
end Go.Proofs.Yteeofjlohaeinaa.Pure
