/- SumField: a header is right just by what stands in its sum's field. No conditions. -/
import Derived.Test.YteeofjlohaeinaaUSum
import Derived.Test.YteeofjlohaeinaaXA16
namespace Go.Proofs.Yteeofjlohaeinaa.Pure
open Go.RowKit Go.Proofs.Yteeofjlohaeinaa.XA Go.Proofs.YteeofjlohaeinaaW.PrintWords Go.Proofs.YteeofjlohaeinaaW.PrintLast Go.Proofs.YteeofjlohaeinaaW.PrintMore
set_option linter.unusedSimpArgs false
set_option linter.unusedVariables false

theorem field_l1 {P : List Int} {b : Nat} (hP : P.length = 148 + b) (hb : b ≤ 2) {r : Bool} {x0 : List Int} {x1 x8 : Int} : ∀ (m : Nat) (J T : List Int) (q : Int), J.length = m → m ≤ 100 → 0 ≤ q → q ≤ 262144 →
    (∀ q2, Ev (fun k => pannierlaw05_SumField.l1 k x0 x1 b (P ++ oct q m ++ T) x8 q2 (-1)) r) → Ev (fun k => pannierlaw05_SumField.l1 k x0 x1 b (P ++ J ++ T) x8 q ((m : Int) - 1)) r
  | 0, J, T, q, hJ, _, _, _, H => by
    obtain rfl := List.length_eq_zero_iff.1 hJ
    exact H q
  | m + 1, J, T, q, hJ, hm, h0, h1, H => by
    obtain ⟨K, c, rfl, hK⟩ := last_of J m hJ
    refine Ev.step (fun k => by rw [pannierlaw05_SumField.l1]) ?_
    have e1 : wrap64 (wrap64 (148 + (b : Int)) + (((m + 1 : Nat) : Int) - 1)) = ((148 + b + m : Nat) : Int) := by
      rw [w64 (x := 148 + (b : Int)) (by omega) (by omega), w64 (by omega) (by omega)]
      omega
    simp only [e1, show (((m + 1 : Nat) : Int) - 1) ≥ 0 by omega, show (0 : Int) ≤ ((148 + b + m : Nat) : Int) by omega, show ((148 + b + m : Nat) : Int) < ((P ++ (K ++ [c]) ++ T).length : Int) by simp; omega, if_true, Int.toNat_natCast, Int.tdiv_eq_ediv_of_nonneg h0, Int.tmod_eq_emod_of_nonneg h0,
      w64 (x := q / 8) (by omega) (by omega), w64 (x := 48 + q % 8) (by omega) (by omega), show (48 + q % 8) % 256 = 48 + q % 8 by omega, set_mid P K c (48 + q % 8) T (n := 148 + b + m) (by omega), show wrap64 ((((m + 1 : Nat) : Int) - 1) - 1) = (m : Int) - 1 by rw [w64 (by omega) (by omega)]; omega]
    refine field_l1 hP hb m K ((48 + q % 8) :: T) (q / 8) hK (by omega) (by omega) (by omega) ?_
    intro q2
    have := H q2
    rw [oct] at this
    simpa using this

theorem field_l0 {P : List Int} (hP : P.length = 148) {r : Bool} {x0 : List Int} {x1 x2 x8 : Int} {T : List Int} : ∀ (m i : Nat) (J : List Int), J.length = m → i + m = 8 →
    Ev (fun k => pannierlaw05_SumField.l1 k x0 x1 x2 (P ++ List.replicate 8 32 ++ T) x8 x1 5) r → Ev (fun k => pannierlaw05_SumField.l0 k x0 x1 x2 (P ++ List.replicate i 32 ++ (J ++ T)) x8 (i : Int)) r
  | 0, i, J, hJ, hi, H => by
    obtain rfl := List.length_eq_zero_iff.1 hJ
    obtain rfl : i = 8 := by omega
    refine Ev.step (fun k => by rw [pannierlaw05_SumField.l0]) ?_
    simp only [show ¬ (((8 : Nat) : Int) < 8) by omega, if_false]
    exact H
  | m + 1, i, J, hJ, hi, H => by
    cases J with
    | nil => simp at hJ
    | cons c J =>
      refine Ev.step (fun k => by rw [pannierlaw05_SumField.l0]) ?_
      have hset : (P ++ List.replicate i 32 ++ ((c :: J) ++ T)).set (148 + i) 32 = P ++ List.replicate (i + 1) 32 ++ (J ++ T) := by
        rw [List.set_append_right _ _ (by simp; omega), List.length_append, hP, List.length_replicate, Nat.sub_self]
        simp [List.replicate_succ']
      simp only [show ((i : Int) < 8) by omega, if_true, show wrap64 (148 + (i : Int)) = ((148 + i : Nat) : Int) by rw [w64 (by omega) (by omega)]; omega, show (0 : Int) ≤ ((148 + i : Nat) : Int) by omega, show ((148 + i : Nat) : Int) < ((P ++ List.replicate i 32 ++ ((c :: J) ++ T)).length : Int) by simp; omega, Int.toNat_natCast, hset, wnext (i := i) (by omega)]
      exact field_l0 hP m (i + 1) J (by simpa using hJ) (by omega) H

theorem SumField : pannierlaw05_SumField.Pure := by
  intro l n b hl hl2 hw hn hbl
  have hb := bytes_wf hw
  refine Ev.rounds (r := true) ?_
  unfold pannierlaw05_SumField.f
  refine ev_bind sums_ev ?_
  simp only [if_true]
  have bad : Ev (fun k => pannierlaw05_SumField.j0 k l n b true) true := by
    refine Ev.step (fun k => by rw [pannierlaw05_SumField.j0]) ?_
    simp only [if_true]
    exact ev_some _
  by_cases h : l.length = 512
  · simp only [show ((l.length : Int) = 512) by omega, if_true]
    by_cases h0 : n < 0
    · simp only [h0, if_true]
      exact bad
    · by_cases h1 : n > 262143
      · simp only [h0, h1, if_true, if_false]
        exact bad
      · by_cases h2 : b < 0
        · simp only [h0, h1, h2, if_true, if_false]
          exact bad
        · by_cases h3 : b > 2
          · simp only [h0, h1, h2, h3, if_false, decide_true]
            exact bad
          · simp only [h0, h1, h2, h3, if_false, decide_false]
            obtain ⟨b, rfl⟩ : ∃ c : Nat, b = c := ⟨b.toNat, by omega⟩
            refine Ev.step (fun k => by rw [pannierlaw05_SumField.j0]) ?_
            simp only [Bool.false_eq_true, if_false, Option.bind_some, List.length_nil, show 0 + l.length < 140737488355328 by omega, if_true, List.nil_append, plain_f hb (by omega)]
            have hf8 := field_length (l := l) (by omega)
            have hP : (l.take 148).length = 148 := by rw [List.length_take]; omega
            have key := field_l0 (x0 := l) (x1 := n) (x2 := (b : Int)) (x8 := total plainOne 0 l) (T := l.drop 156) hP (r := true) 8 0 (field l) hf8 rfl ?_
            · rw [List.replicate_zero, List.append_nil, ← List.append_assoc, ← three l (by omega)] at key
              exact key
            · have e8 : l.take 148 ++ List.replicate 8 32 ++ l.drop 156 = (l.take 148 ++ List.replicate b 32) ++ List.replicate 6 32 ++ (List.replicate (2 - b) 32 ++ l.drop 156) := by
                rw [show (8 : Nat) = b + (6 + (2 - b)) by omega]
                rw [show List.replicate (b + (6 + (2 - b))) (32 : Int) = List.replicate b 32 ++ (List.replicate 6 32 ++ List.replicate (2 - b) 32) by rw [List.replicate_append_replicate, List.replicate_append_replicate]]
                simp only [List.append_assoc]
              rw [e8]
              refine field_l1 (P := l.take 148 ++ List.replicate b 32) (b := b) (by rw [List.length_append, hP, List.length_replicate]) (by omega) 6 (List.replicate 6 32) (List.replicate (2 - b) 32 ++ l.drop 156) n (by simp) (by omega) (by omega) (by omega) ?_
              intro q2
              have em : (l.take 148 ++ List.replicate b 32) ++ oct n 6 ++ (List.replicate (2 - b) 32 ++ l.drop 156) = l.take 148 ++ (List.replicate b 32 ++ (oct n 6 ++ List.replicate (2 - b) 32)) ++ l.drop 156 := by simp only [List.append_assoc]
              have hm8 : (List.replicate b (32 : Int) ++ (oct n 6 ++ List.replicate (2 - b) 32)).length = 8 := by
                simp only [List.length_append, List.length_replicate, oct_length]
                omega
              have hmb : Bytes (List.replicate b (32 : Int) ++ (oct n 6 ++ List.replicate (2 - b) 32)) := by
                have hr : ∀ c, Bytes (List.replicate c (32 : Int)) := fun c x hx => by have := List.eq_of_mem_replicate hx; omega
                exact (hr b).append ((oct_bytes 6 n).append (hr _))
              have hp := parse_field (n := n) (by omega) (by omega) b (List.replicate (2 - b) 32) (fun c hc => Or.inr (List.eq_of_mem_replicate hc))
              have hst := total_swap signedOne l _ (by omega) hm8
              have hpt := total_swap plainOne l _ (by omega) hm8
              have hfs := field_swap l _ (by omega) hm8
              have hls := length_swap l _ (by omega) hm8
              have hbs := bytes_swap hb hmb
              rw [← hfs] at hp
              rw [em]
              generalize l.take 148 ++ (List.replicate b 32 ++ (oct n 6 ++ List.replicate (2 - b) 32)) ++ l.drop 156 = t at *
              refine Ev.step (fun k => by rw [pannierlaw05_SumField.l1]) ?_
              simp only [show ¬ ((-1 : Int) ≥ 0) by omega, if_false]
              refine ev_bind (right_ev hbs (by omega)) ?_
              have hR : rightB t = (n == total plainOne 0 l || n == total signedOne 0 l) := by
                simp only [rightB, hls, h, hp, hpt, hst, beq_self_eq_true, decide_true, Bool.true_and]
              rw [hR]
              by_cases hc : n = total plainOne 0 l
              · simp only [if_pos hc]
                exact ev_eq (ev_some _) (by rw [← hc]; simp)
              · simp only [if_neg hc, signed_f hb (by omega), Option.bind_some]
                have : (n == total plainOne 0 l) = false := by simpa using hc
                exact ev_eq (ev_some _) (by rw [this, Bool.false_or, beq_self_eq_true])
  · simp only [show ¬ ((l.length : Int) = 512) by omega, if_false]
    exact bad
end Go.Proofs.Yteeofjlohaeinaa.Pure
