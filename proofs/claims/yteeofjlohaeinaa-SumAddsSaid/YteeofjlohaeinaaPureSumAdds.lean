/- SumAdds: one byte greater by so much, and the sum is. No conditions. -/
import Derived.Test.YteeofjlohaeinaaUSum
import Derived.Test.YteeofjlohaeinaaXA15
namespace Go.Proofs.Yteeofjlohaeinaa.Pure
open Go.RowKit Go.Proofs.Yteeofjlohaeinaa.XA Go.Proofs.YteeofjlohaeinaaW.PrintWords Go.Proofs.YteeofjlohaeinaaW.PrintLast Go.Proofs.YteeofjlohaeinaaW.PrintMore
set_option linter.unusedSimpArgs false
set_option linter.unusedVariables false

theorem SumAdds : pannierlaw05_SumAdds.Pure := by
  intro l a v hl hl2 hw ha hv
  have hb := bytes_wf hw
  have hv := u8_wf hv
  refine Ev.rounds (r := true) ?_
  unfold pannierlaw05_SumAdds.f
  refine ev_bind sums_ev ?_
  simp only [if_true]
  have bad : Ev (fun k => pannierlaw05_SumAdds.j0 k l a v true) true := by
    refine Ev.step (fun k => by rw [pannierlaw05_SumAdds.j0]) ?_
    simp only [if_true]
    exact ev_some _
  by_cases h : (l.length : Int) > 2000
  · simp only [h, if_true]
    exact bad
  · by_cases h0 : a < 0
    · simp only [h, h0, if_true, if_false]
      exact bad
    · by_cases h1 : a ≥ (l.length : Int)
      · simp only [h, h0, h1, if_true, if_false]
        exact bad
      · simp only [h, h0, h1, if_false, show (0 : Int) ≤ a by omega, show a < (l.length : Int) by omega, if_true]
        by_cases hg : rd l a > (255 - v) % 256
        · simp only [hg, decide_true]
          exact bad
        · simp only [hg, decide_false]
          obtain ⟨n, rfl⟩ : ∃ n : Nat, a = n := ⟨a.toNat, by omega⟩
          have hr := rd_byte hb (i := (n : Int)) (by omega) (by omega)
          have hnl : n < l.length := by omega
          have hx : (rd l (n : Int) + v) % 256 = rd l (n : Int) + v := by omega
          have hxr : rd l (n : Int) + v < 256 := by omega
          have hrs := rd_nat l n
          have hpb := plain_bound hb 0
          have hsb := signed_bound hb 0
          refine Ev.step (fun k => by rw [pannierlaw05_SumAdds.j0]) ?_
          simp only [Bool.false_eq_true, if_false, Option.bind_some, List.nil_append, List.length_nil, show 0 + l.length < 140737488355328 by omega, if_true, show (0 : Int) ≤ (n : Int) by omega, show (n : Int) < (l.length : Int) by omega, Int.toNat_natCast, hx, plain_f hb (by omega), w64 (x := v) (by omega) (by omega), w64 (x := total plainOne 0 l + v) (by omega) (by omega)]
          have htb := bytes_set hb n (v := rd l (n : Int) + v) (by omega) hxr
          have hlt : (l.set n (rd l (n : Int) + v)).length = l.length := List.length_set
          have away : ¬ (148 ≤ n ∧ n < 156) → Ev (fun k => pannierlaw05_SumAdds.j1 k l (l.set n (rd l (n : Int) + v)) (total plainOne 0 l + v) false) true := by
            intro ho
            have T := total_set plainOne l 0 n (rd l (n : Int) + v) hnl (by omega)
            have hplain : total plainOne 0 (l.set n (rd l (n : Int) + v)) = total plainOne 0 l + v := by rw [T, ← hrs]; simp only [plainOne]; omega
            have hsp := signed_plain (l.set n (rd l (n : Int) + v)) 0
            have hhp := highs_pos (l.set n (rd l (n : Int) + v)) 0
            have hsb2 := signed_bound htb 0
            refine Ev.step (fun k => by rw [pannierlaw05_SumAdds.j1]) ?_
            generalize l.set n (rd l (n : Int) + v) = t at *
            simp only [Bool.false_eq_true, if_false, plain_f htb (by omega), signed_f htb (by omega), Option.bind_some, hplain, if_true]
            have hd : Int.tmod (wrap64 (total plainOne 0 l + v - total signedOne 0 t)) 256 = 0 := by
              rw [w64 (by omega) (by omega), Int.tmod_eq_emod_of_nonneg (by omega)]
              omega
            rw [hplain] at hsp
            simp only [hd, if_true, decide_eq_true (show total signedOne 0 t ≤ total plainOne 0 l + v by omega)]
            exact ev_some _
          by_cases h2 : (n : Int) ≥ 148
          · by_cases h3 : (n : Int) < 156
            · have T1 := total_set_in plainOne l 0 n (rd l (n : Int) + v) (by omega) (by omega)
              have T2 := total_set_in signedOne l 0 n (rd l (n : Int) + v) (by omega) (by omega)
              simp only [h2, h3, if_true, decide_true]
              refine Ev.step (fun k => by rw [pannierlaw05_SumAdds.j1]) ?_
              simp only [if_true, plain_f htb (by omega), signed_f htb (by omega), plain_f hb (by omega), signed_f hb (by omega), Option.bind_some, T1, T2, beq_self_eq_true]
              exact ev_some _
            · simp only [h2, h3, if_true, decide_false]
              exact away (by omega)
          · simp only [h2, if_false]
            exact away (by omega)
end Go.Proofs.Yteeofjlohaeinaa.Pure
