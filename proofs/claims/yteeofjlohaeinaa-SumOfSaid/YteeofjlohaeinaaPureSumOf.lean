/- SumOf: both sums of any bytes are the document's. No conditions. -/
import Derived.Test.YteeofjlohaeinaaUSum
import Derived.Test.YteeofjlohaeinaaXA13
namespace Go.Proofs.Yteeofjlohaeinaa.Pure
open Go.RowKit Go.Proofs.Yteeofjlohaeinaa.XA Go.Proofs.YteeofjlohaeinaaW.PrintWords Go.Proofs.YteeofjlohaeinaaW.PrintLast Go.Proofs.YteeofjlohaeinaaW.PrintMore
set_option linter.unusedSimpArgs false
set_option linter.unusedVariables false

theorem refplain_f {l : List Int} (hb : Bytes l) (hl : l.length ≤ 1000000) : pannierref05_Plain.f (strOfNums l) = some (total plainOne 0 l) := by
  unfold pannierref05_Plain.f
  rw [if_pos (by rw [strOfNums_size]; exact hl), show bytesOf (strOfNums l) = l from bl_strOfNums hb]
theorem refsigned_f {l : List Int} (hb : Bytes l) (hl : l.length ≤ 1000000) : pannierref05_Signed.f (strOfNums l) = some (total signedOne 0 l) := by
  unfold pannierref05_Signed.f
  rw [if_pos (by rw [strOfNums_size]; exact hl), show bytesOf (strOfNums l) = l from bl_strOfNums hb]
theorem bl_extract (s : ByteArray) (i j : Nat) : bl (s.extract i j) = ((bl s).take j).drop i := by
  simp only [bl, ByteArray.data_extract, Array.toList_extract, List.extract_eq_take_drop, List.map_take, List.map_drop, List.drop_take]
theorem refright_ev {l : List Int} (hb : Bytes l) (hl : l.length ≤ 1000000) : Ev (fun k => pannierref05_Right.f k (strOfNums l)) (rightB l) := by
  unfold pannierref05_Right.f
  by_cases h : l.length = 512
  · simp only [strOfNums_size, show (l.length : Int) = 512 by omega, if_true, show (148 : Int) ≤ 156 by omega, show (156 : Int) ≤ 512 by omega, refplain_f hb hl, refsigned_f hb hl, Option.bind_some]
    have hx : bl ((strOfNums l).extract 148 156) = field l := by
      rw [bl_extract, bl_strOfNums hb]
      rfl
    refine ev_bind (refparse_ev (s := (strOfNums l).extract 148 156) (by rw [ByteArray.size_extract]; omega)) ?_
    rw [hx]
    by_cases h2 : (parse (field l)).2 = 0
    · simp only [h2, if_true]
      by_cases h3 : (parse (field l)).1 = total plainOne 0 l
      · simp only [h3, if_true]
        exact ev_eq (ev_some _) (by simp [rightB, h, h2, h3])
      · simp only [h3, if_false]
        exact ev_eq (ev_some _) (by simp [rightB, h, h2, h3])
    · simp only [h2, if_false]
      exact ev_eq (ev_some _) (by simp [rightB, h2])
  · simp only [strOfNums_size, show ¬ (l.length : Int) = 512 by omega, if_false]
    exact ev_eq (ev_some _) (by simp [rightB, h])

theorem SumOf : pannierlaw05_SumOf.Pure := by
  intro l hl hl2 hw
  have hb := bytes_wf hw
  refine Ev.rounds (r := true) ?_
  unfold pannierlaw05_SumOf.f
  refine ev_bind sums_ev ?_
  simp only [if_true]
  by_cases h : (l.length : Int) > 2000
  · simp only [h, if_true]
    exact ev_some _
  · simp only [h, if_false, plain_f hb (show l.length ≤ 1000000 by omega), signed_f hb (show l.length ≤ 1000000 by omega), refplain_f hb (show l.length ≤ 1000000 by omega), refsigned_f hb (show l.length ≤ 1000000 by omega), Option.bind_some, if_true]
    refine ev_bind (right_ev hb (by omega)) ?_
    refine ev_bind (refright_ev hb (by omega)) ?_
    exact ev_eq (ev_some _) (beq_self_eq_true _)
end Go.Proofs.Yteeofjlohaeinaa.Pure
