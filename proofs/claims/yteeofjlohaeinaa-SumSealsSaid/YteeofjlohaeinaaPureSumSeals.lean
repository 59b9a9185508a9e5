/- SumSeals: a sealed header bears its sum and differs there alone; one byte turned is told. No conditions. -/
import Derived.Test.YteeofjlohaeinaaUSum
import Derived.Test.YteeofjlohaeinaaXA14
namespace Go.Proofs.Yteeofjlohaeinaa.Pure
open Go.RowKit Go.Proofs.Yteeofjlohaeinaa.XA Go.Proofs.YteeofjlohaeinaaW.PrintWords Go.Proofs.YteeofjlohaeinaaW.PrintLast Go.Proofs.YteeofjlohaeinaaW.PrintMore
set_option linter.unusedSimpArgs false
set_option linter.unusedVariables false

theorem SumSeals : pannierlaw05_SumSeals.Pure := by
  intro l a v hl hl2 hw ha hv
  have hb := bytes_wf hw
  have hv := u8_wf hv
  refine Ev.rounds (r := true) ?_
  unfold pannierlaw05_SumSeals.f
  refine ev_bind sums_ev ?_
  simp only [if_true]
  by_cases h : l.length = 512
  · have hi : ((l.length : Int) = 512) := by omega
    have hsl := sealed_length h
    have hsi : ((sealed l).length : Int) = 512 := by omega
    have hsb := sealed_bytes hb
    have hdrop := sealed_drop h
    have hf := sealed_field hb h
    have htp := sealed_total plainOne h
    have hright := sealed_right hb h
    simp only [seal_f hb h, Option.bind_some, hi, if_true]
    refine ev_bind (right_ev hsb (by omega)) ?_
    rw [hright]
    simp only [if_true, hsi, show (148 : Int) ≤ 512 by omega, show (156 : Int) ≤ 512 by omega, sealed_take h, hdrop, bne_self_eq_false]
    generalize sealed l = s at *
    have bad : Ev (fun k => pannierlaw05_SumSeals.j1 k a v s true) true := by
      refine Ev.step (fun k => by rw [pannierlaw05_SumSeals.j1]) ?_
      simp only [if_true]
      exact ev_some _
    have good : 0 ≤ a → a < 512 → ¬ (148 ≤ a ∧ a < 156) → Ev (fun k => pannierlaw05_SumSeals.j1 k a v s (v == 0)) true := by
      intro h0 h1 ho
      by_cases hz : v = 0
      · subst hz
        exact bad
      · have hzb : (v == 0) = false := by simpa using hz
        obtain ⟨n, rfl⟩ : ∃ n : Nat, a = n := ⟨a.toNat, by omega⟩
        have hr := rd_byte hsb h0 (by omega)
        have hx := xor_range hr.1 hr.2 hv.1 (by omega)
        have hne := xor_ne hr.1 hr.2 hv.1 (by omega) hz
        refine Ev.step (fun k => by rw [pannierlaw05_SumSeals.j1]) ?_
        simp only [hzb, Bool.false_eq_true, if_false, Option.bind_some, List.nil_append, List.length_nil, show 0 + s.length < 140737488355328 by omega, if_true, h0, hsi, h1, List.length_set, Int.toNat_natCast]
        generalize Go.bits .xor .u8 (rd s (n : Int)) v = x at *
        have hnl : n < s.length := by omega
        have htb := bytes_set hsb n hx.1 hx.2
        have T := total_set plainOne s 0 n x hnl (by omega)
        have hfs := field_set (l := s) (j := n) x (by omega)
        have hlt : (s.set n x).length = 512 := by rw [List.length_set]; exact hsl
        have hrd := rd_set (l := s) (n := n) x hnl
        have hrs := rd_nat s n
        have hpb := plain_bound hsb 0
        have hplain : total plainOne 0 (s.set n x) = total plainOne 0 s + x - rd s (n : Int) := by rw [T, hrs]; rfl
        rw [hrd]
        generalize s.set n x = t at *
        generalize hR : rd s (n : Int) = y at *
        have hc : total plainOne 0 t = wrap64 (total plainOne 0 s + wrap64 (wrap64 x - wrap64 y)) := by
          rw [w64 (x := x) (by omega) (by omega), w64 (x := y) (by omega) (by omega), w64 (x := x - y) (by omega) (by omega), w64 (by omega) (by omega), hplain]
          omega
        simp only [plain_f htb (by omega), plain_f hsb (by omega), Option.bind_some, if_pos hc]
        refine ev_bind (right_ev htb (by omega)) ?_
        simp only [signed_f htb (by omega), Option.bind_some]
        refine ev_eq (ev_some _) ?_
        have hpne : (total plainOne 0 l == total plainOne 0 t) = false := by
          rw [hplain, ← htp, beq_eq_false_iff_ne]
          omega
        simp only [rightB, hlt, hfs, hf, htp, hpne, beq_self_eq_true, decide_true, Bool.true_and, Bool.false_or]
        rw [beq_iff_eq, Bool.eq_iff_iff, beq_iff_eq, beq_iff_eq]
        exact eq_comm
    refine Ev.step (fun k => by rw [pannierlaw05_SumSeals.j0]) ?_
    simp only [Bool.false_eq_true, if_false]
    by_cases h0 : a < 0
    · simp only [h0, if_true]
      exact bad
    · by_cases h1 : a > 511
      · simp only [h0, h1, if_true, if_false]
        exact bad
      · simp only [h0, h1, if_false]
        by_cases h2 : a ≥ 148
        · by_cases h3 : a < 156
          · simp only [h2, h3, if_true]
            exact bad
          · simp only [h2, h3, if_true, if_false]
            exact good (by omega) (by omega) (by omega)
        · simp only [h2, if_false]
          exact good (by omega) (by omega) (by omega)
  · simp only [seal_f_no h, Option.bind_some, show ¬ ((l.length : Int) = 512) by omega, if_false, if_true]
    exact ev_eq (ev_some _) rfl
end Go.Proofs.Yteeofjlohaeinaa.Pure
