/- HeadOdd: a header of which one byte is another one isn't read, but for sums of bytes with signs. No conditions. -/
import Derived.Test.YtchldbhnohicoaaUCodes
import Derived.Test.YtchldbhnohicoaaXA16
namespace Go.Proofs.Ytchldbhnohicoaa.Pure
open Go.RowKit Go.Proofs.Ytchldbhnohicoaa.XA Go.Proofs.YtchldbhnohicoaaW.PrintWords Go.Proofs.YtchldbhnohicoaaW.PrintLast Go.Proofs.YtchldbhnohicoaaW.PrintMore
set_option linter.unusedSimpArgs false
set_option linter.unusedVariables false

theorem odd_right {M : List Int} (hb : Bytes M) (hl : M.length = 512) {j : Nat} {v : Int} (hj : j < 512) (ho : ¬ (148 ≤ j ∧ j < 156)) (h0 : 0 ≤ v) (h1 : v < 256) (hv : v ≠ rd (sealed M) (j : Int)) : rightB ((sealed M).set j v) = false := by
  have hS := sealed_bytes hb
  have hSl := sealed_length hl
  have hf : field ((sealed M).set j v) = field (sealed M) := field_set v ho
  have hp := sealed_field hb hl
  have htot := sealed_total plainOne hl
  have hr := rd_byte hS (i := (j : Int)) (by omega) (by omega)
  rw [rd_nat] at hr hv
  have ht : total plainOne 0 ((sealed M).set j v) = total plainOne 0 M + v - (sealed M).getD j 0 := by
    rw [total_set plainOne (sealed M) 0 j v (by omega) (by simpa using ho), htot]
    rfl
  have hsg := signed_plain ((sealed M).set j v) 0
  have hhp := highs_pos ((sealed M).set j v) 0
  have n1 : ¬ (total plainOne 0 M = total plainOne 0 ((sealed M).set j v)) := by omega
  have n2 : ¬ (total plainOne 0 M = total signedOne 0 ((sealed M).set j v)) := by omega
  simp [rightB, hf, hp, n1, n2]
section
variable {a0 a6 a7 a8 a9 a10 a11 : Int} {a1 a2 a3 a4 a5 : ByteArray}
theorem HeadOdd : pannierlaw06_HeadOdd.Pure := by
  intro a0 a1 a2 a3 a4 a5 a6 a7 a8 a9 a10 a11 at_ tn w0 _ _ _ _ _ w6 w7 w8 w9 w10 w11 wa wt
  have h6 := u8_wf w6
  have h7 := i64_wf w7
  have h8 := i64_wf w8
  have h9 := i64_wf w9
  have h10 := i64_wf w10
  have h11 := i64_wf w11
  have htn := u8_wf wt
  refine Ev.rounds (r := true) ?_
  unfold pannierlaw06_HeadOdd.f
  refine ev_bind reads_ev ?_
  simp only [if_true]
  refine ev_bind (encode_ev (a0 := a0) h6 h7 h8 h9 h10 h11) ?_
  by_cases ht : textsFit a1 a2 a3 a4 a5 = true
  · by_cases hn : numsFit a7 a8 a9 a10 a11 = true
    · rw [encoded_yes ht hn]
      simp only [if_true]
      have hs := textsFit_sizes ht
      have hh := bare_holds (a6 := a6) (a7 := a7) (a8 := a8) (a9 := a9) (a10 := a10) (a11 := a11) hs.1 hs.2.1 hs.2.2.1 hs.2.2.2.1 hs.2.2.2.2 h6
      generalize bareRow a1 a2 a3 a4 a5 a6 a7 a8 a9 a10 a11 = M at *
      have hSl := sealed_length hh.len
      have hSb := sealed_bytes hh.bytes
      -- the row with the byte turned
      have key : ∀ (h1 : 0 ≤ at_) (h2 : at_ ≤ 511) (ho : ¬ (148 ≤ at_ ∧ at_ < 156)) (hz : tn ≠ 0),
          Ev (fun k => (head_Decode.f k ((sealed M).set at_.toNat (Go.bits .xor .u8 (rd (sealed M) at_) tn))).bind fun bt308 => (if tn ≥ 128 then (if bt308.2.2.2.2.2.2.2.2.2.2.2.2 = 0 then (some true) else (some true)) else (if bt308.2.2.2.2.2.2.2.2.2.2.2.2 = 0 then (some (decide ((rd ((sealed M).set at_.toNat (Go.bits .xor .u8 (rd (sealed M) at_) tn)) at_) ≥ 128))) else (some true)))) true := by
        intro h1 h2 ho hz
        obtain ⟨j, rfl⟩ := Int.eq_ofNat_of_zero_le h1
        have hr := rd_byte hSb (i := (j : Int)) (by omega) (by omega)
        have hx := xor_range (a := rd (sealed M) (j : Int)) (b := tn) hr.1 hr.2 htn.1 (by omega)
        have hxn := xor_ne (a := rd (sealed M) (j : Int)) (b := tn) hr.1 hr.2 htn.1 (by omega) hz
        rw [Int.toNat_natCast]
        have hb2 : Bytes ((sealed M).set j (Go.bits .xor .u8 (rd (sealed M) (j : Int)) tn)) := bytes_set hSb j hx.1 hx.2
        have hl2 : ((sealed M).set j (Go.bits .xor .u8 (rd (sealed M) (j : Int)) tn)).length = 512 := by rw [List.length_set]; exact hSl
        have hR := odd_right hh.bytes hh.len (j := j) (by omega) (by omega) hx.1 hx.2 hxn
        generalize (sealed M).set j (Go.bits .xor .u8 (rd (sealed M) (j : Int)) tn) = L at *
        refine ev_bind (decode_ev hb2 (by omega)) ?_
        have hd : dec L = dbad 50 := by
          unfold dec
          rw [if_pos hl2, hR]
          rfl
        rw [hd]
        simp only [dbad, show ¬ ((50 : Int) = 0) by omega, if_false]
        split <;> exact ev_some _
      by_cases c1 : at_ < 0
      · simp only [if_pos c1]; exact ev_some _
      · simp only [if_neg c1]
        by_cases c2 : at_ > 511
        · simp only [if_pos c2]; exact ev_some _
        · simp only [if_neg c2]
          by_cases c3 : at_ ≥ 148
          · simp only [if_pos c3]
            by_cases c4 : at_ < 156
            · simp only [if_pos c4]; exact ev_some _
            · simp only [if_neg c4]
              by_cases c5 : tn = 0
              · simp only [if_pos c5]; exact ev_some _
              · simp only [if_neg c5, show (0 : Int) ≤ at_ by omega, if_true, hSl, show at_ < ((512 : Nat) : Int) by omega, Option.bind_some]
                exact key (by omega) (by omega) (by omega) c5
          · simp only [if_neg c3]
            by_cases c5 : tn = 0
            · simp only [if_pos c5]; exact ev_some _
            · simp only [if_neg c5, show (0 : Int) ≤ at_ by omega, if_true, hSl, show at_ < ((512 : Nat) : Int) by omega, Option.bind_some]
              exact key (by omega) (by omega) (by omega) c5
    · rw [encoded, if_pos ht, if_neg hn]
      simp only [show ¬ ((20 : Int) = 0) by omega, if_false]
      exact ev_some _
  · rw [encoded, if_neg ht]
    simp only [show ¬ ((2 : Int) = 0) by omega, if_false]
    exact ev_some _
end
end Go.Proofs.Ytchldbhnohicoaa.Pure
