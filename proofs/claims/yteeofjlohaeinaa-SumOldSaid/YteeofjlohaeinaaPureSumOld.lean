/- SumOld: a header that bears the sum of bytes with signs is right. No conditions. -/
import Derived.Test.YteeofjlohaeinaaUSum
import Derived.Test.YteeofjlohaeinaaXA14
namespace Go.Proofs.Yteeofjlohaeinaa.Pure
open Go.RowKit Go.Proofs.Yteeofjlohaeinaa.XA Go.Proofs.YteeofjlohaeinaaW.PrintWords Go.Proofs.YteeofjlohaeinaaW.PrintLast Go.Proofs.YteeofjlohaeinaaW.PrintMore
set_option linter.unusedSimpArgs false
set_option linter.unusedVariables false

theorem old_l0 {P : List Int} (hP : P.length = 148) {r : Bool} : ∀ (m : Nat) (J T : List Int) (q : Int), J.length = m → m ≤ 100 → 0 ≤ q → q ≤ 262144 →
    (∀ q2, Ev (fun k => pannierlaw05_SumOld.l0 k q2 (P ++ oct q m ++ T) 147) r) → Ev (fun k => pannierlaw05_SumOld.l0 k q (P ++ J ++ T) ((147 + m : Nat) : Int)) r
  | 0, J, T, q, hJ, _, _, _, H => by
    obtain rfl := List.length_eq_zero_iff.1 hJ
    exact H q
  | m + 1, J, T, q, hJ, hm, h0, h1, H => by
    obtain ⟨K, c, rfl, hK⟩ := last_of J m hJ
    refine Ev.step (fun k => by rw [pannierlaw05_SumOld.l0]) ?_
    simp only [show ((147 + (m + 1) : Nat) : Int) ≥ 148 by omega, show (0 : Int) ≤ ((147 + (m + 1) : Nat) : Int) by omega, show ((147 + (m + 1) : Nat) : Int) < ((P ++ (K ++ [c]) ++ T).length : Int) by simp; omega, if_true, Int.toNat_natCast, Int.tdiv_eq_ediv_of_nonneg h0, Int.tmod_eq_emod_of_nonneg h0,
      w64 (x := q / 8) (by omega) (by omega), w64 (x := 48 + q % 8) (by omega) (by omega), show (48 + q % 8) % 256 = 48 + q % 8 by omega, set_mid P K c (48 + q % 8) T (n := 147 + (m + 1)) (by omega), show wrap64 (((147 + (m + 1) : Nat) : Int) - 1) = ((147 + m : Nat) : Int) by rw [w64 (by omega) (by omega)]; omega]
    refine old_l0 hP m K ((48 + q % 8) :: T) (q / 8) hK (by omega) (by omega) (by omega) ?_
    intro q2
    have := H q2
    rw [oct] at this
    simpa using this

theorem SumOld : pannierlaw05_SumOld.Pure := by
  intro l hl hl2 hw
  have hb := bytes_wf hw
  refine Ev.rounds (r := true) ?_
  unfold pannierlaw05_SumOld.f
  refine ev_bind sums_ev ?_
  simp only [if_true]
  by_cases h : l.length = 512
  · simp only [show ((l.length : Int) = 512) by omega, if_true, signed_f hb (by omega), Option.bind_some]
    by_cases hn : total signedOne 0 l < 0
    · simp only [hn, if_true]
      exact ev_some _
    · simp only [hn, if_false, List.length_nil, show 0 + l.length < 140737488355328 by omega, if_true, List.nil_append]
      have hsb := signed_bound hb 0
      have hst := total_swap signedOne l
      have hfs := field_swap l
      have hls := length_swap l
      have h3 := three l (by omega)
      have hf8 := field_length (l := l) (by omega)
      have hP : (l.take 148).length = 148 := by rw [List.length_take]; omega
      have hbs : Bytes (l.take 148 ++ (oct (total signedOne 0 l) 6 ++ [0, 32]) ++ l.drop 156) := bytes_swap hb (tail_bytes _)
      have e8 : (oct (total signedOne 0 l) 6 ++ [0, 32]).length = 8 := tail_length _
      have hst := hst _ (by omega) e8
      have hfs := hfs _ (by omega) e8
      have hls := hls _ (by omega) e8
      rcases hfe : field l with _ | ⟨a0, _ | ⟨a1, _ | ⟨a2, _ | ⟨a3, _ | ⟨a4, _ | ⟨a5, _ | ⟨a6, _ | ⟨a7, _ | ⟨a8, a9⟩⟩⟩⟩⟩⟩⟩⟩⟩
      all_goals first | (rw [hfe] at hf8; simp at hf8; done) | skip
      rw [hfe] at h3
      have key := old_l0 hP (r := true) 6 [a0, a1, a2, a3, a4, a5] (a6 :: a7 :: l.drop 156) (total signedOne 0 l) rfl (by omega) (by omega) (by omega) ?_
      · have eL : l.take 148 ++ [a0, a1, a2, a3, a4, a5] ++ (a6 :: a7 :: l.drop 156) = l := by
          conv => rhs; rw [h3]
          simp
        rw [eL] at key
        exact key
      · intro q2
        generalize total signedOne 0 l = n at *
        have ho := oct_length 6 n
        have e1 : ((l.take 148 ++ oct n 6 ++ (a6 :: a7 :: l.drop 156)).set 154 0).set 155 32 = l.take 148 ++ (oct n 6 ++ [0, 32]) ++ l.drop 156 := by
          rw [List.set_append_right _ _ (by simp; omega), List.length_append, ho, hP, List.set_append_right _ _ (by simp; omega), List.length_append, ho, hP]
          simp
        have e2 : (l.take 148 ++ oct n 6 ++ (a6 :: a7 :: l.drop 156)).length = 512 := by simp [ho]; omega
        refine Ev.step (fun k => by rw [pannierlaw05_SumOld.l0]) ?_
        simp only [show ¬ ((147 : Int) ≥ 148) by omega, if_false, e2, show (154 : Int) < ((512 : Nat) : Int) by omega, show (155 : Int) < ((512 : Nat) : Int) by omega, if_true, show (154 : Int).toNat = 154 from rfl, show (155 : Int).toNat = 155 from rfl, e1]
        refine ev_bind (right_ev hbs (by omega)) ?_
        refine ev_eq (ev_some _) ?_
        have hp := parse_field (n := n) (by omega) (by omega) 0 [0, 32] (by simp)
        rw [List.replicate_zero, List.nil_append] at hp
        simp only [rightB, hls, h, hfs, hp, hst, beq_self_eq_true, decide_true, Bool.true_and, Bool.or_true]
  · simp only [show ¬ ((l.length : Int) = 512) by omega, if_false]
    exact ev_some _
end Go.Proofs.Yteeofjlohaeinaa.Pure
