/- OctalFormats: any number as a field of any width is the document's, or refused; and read it is that number. No conditions. -/
import Derived.Test.YteeofjlohaeinaaURefFormat
import Derived.Test.YteeofjlohaeinaaXA6
namespace Go.Proofs.Yteeofjlohaeinaa.Pure
open Go.RowKit Go.Proofs.Yteeofjlohaeinaa.XA Go.Proofs.YteeofjlohaeinaaW.PrintWords Go.Proofs.YteeofjlohaeinaaW.PrintLast Go.Proofs.YteeofjlohaeinaaW.PrintMore

theorem OctalFormats : pannierlaw02_OctalFormats.Pure := by
  intro n w hn hw
  have hn := i64_wf hn
  have hw := i64_wf hw
  refine Ev.rounds (r := true) ?_
  unfold pannierlaw02_OctalFormats.f pannierlaw02_reads.f
  simp only [Option.bind_some, if_true]
  obtain ⟨t, ht, hb⟩ := refformat_ev (n := n) (w := w) hn.1 hn.2
  refine ev_bind (format_ev (w := w) hn.1 hn.2) ?_
  refine ev_bind ht ?_
  have hbytes : Bytes (fmt n w).1 := hb ▸ bl_bytes t
  have htext : (strOfNums (fmt n w).1).toList = t.toList := by
    have : strOfNums (fmt n w).1 = t := bl_inj (by rw [bl_strOfNums hbytes, hb])
    rw [this]
  simp only [htext, if_true, bne_self_eq_false]
  refine Ev.step (fun k => by rw [pannierlaw02_OctalFormats.j0]) ?_
  simp only [Bool.false_eq_true, if_false]
  have last : Ev (fun k => pannierlaw02_OctalFormats.j1 k n (fmt n w).1 (fmt n w).2 false) true := by
    refine Ev.step (fun k => by rw [pannierlaw02_OctalFormats.j1]) ?_
    simp only [Bool.false_eq_true, if_false]
    by_cases h0 : (fmt n w).2 = 0
    · simp only [h0, if_true]
      have hww : ¬ (w < 2 ∨ 24 < w) := by
        intro h
        rw [fmt, if_pos h] at h0
        simp at h0
      have hf : fits n w = true := by
        rcases Bool.eq_false_or_eq_true (fits n w) with h | h
        · exact h
        · rw [fmt, if_neg hww, h] at h0
          simp at h0
      have he : (fmt n w).1 = oct n (w.toNat - 1) ++ [0] := by rw [fmt, if_neg hww, if_pos hf]
      refine ev_bind (parse_ev (fmt n w).1 hbytes (by rw [he]; simp [oct_length]; omega)) ?_
      rw [he, parse_fmt (w := w.toNat) (by omega) hn.2 (by rw [show ((w.toNat : Nat) : Int) = w by omega]; exact hf)]
      simp only [if_true, beq_self_eq_true]
      exact ev_some _
    · simp only [h0, if_false]
      exact ev_some _
  by_cases h2 : w ≥ 2
  · by_cases h24 : w ≤ 24
    · simp only [h2, h24, if_true]
      refine ev_bind (fits_ev (w := w) hn.1 hn.2) ?_
      have e : (fits n w != ((fmt n w).2 == 0)) = false := by
        rw [fmt, if_neg (by omega)]
        cases hf : fits n w <;> simp
      rw [e]
      exact last
    · simp only [h2, h24, if_true, if_false]
      exact last
  · simp only [h2, if_false]
    exact last
end Go.Proofs.Yteeofjlohaeinaa.Pure
