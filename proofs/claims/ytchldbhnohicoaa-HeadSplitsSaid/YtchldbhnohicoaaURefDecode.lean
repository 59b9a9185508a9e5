/- The document's header of a block is head.Decode's. -/
import Derived.Test.YtchldbhnohicoaaURefText
import Derived.Test.YtchldbhnohicoaaURefParse
import Derived.Test.YtchldbhnohicoaaERefDecode
namespace Go.Proofs.Ytchldbhnohicoaa.Pure
open Go.RowKit Go.Proofs.Ytchldbhnohicoaa.XA Go.Proofs.YtchldbhnohicoaaW.PrintWords Go.Proofs.YtchldbhnohicoaaW.PrintLast Go.Proofs.YtchldbhnohicoaaW.PrintMore
set_option linter.unusedSimpArgs false
set_option linter.unusedVariables false

theorem refplain_f' {l : List Int} (hb : Bytes l) (hl : l.length ≤ 1000000) : pannierref05_Plain.f (strOfNums l) = some (total plainOne 0 l) := by
  unfold pannierref05_Plain.f
  rw [if_pos (by rw [strOfNums_size]; exact hl), show bytesOf (strOfNums l) = l from bl_strOfNums hb]
theorem refsigned_f' {l : List Int} (hb : Bytes l) (hl : l.length ≤ 1000000) : pannierref05_Signed.f (strOfNums l) = some (total signedOne 0 l) := by
  unfold pannierref05_Signed.f
  rw [if_pos (by rw [strOfNums_size]; exact hl), show bytesOf (strOfNums l) = l from bl_strOfNums hb]
theorem ext_fl {l : List Int} (hb : Bytes l) (i j : Nat) : (strOfNums l).extract i j = strOfNums (fl l i j) := by
  apply bl_inj
  rw [bl_extract, bl_strOfNums hb, bl_strOfNums (fl_bytes hb i j)]
  rfl
theorem refright_ev' {l : List Int} (hb : Bytes l) (hl : l.length ≤ 1000000) : Ev (fun k => pannierref05_Right.f k (strOfNums l)) (rightB l) := by
  unfold pannierref05_Right.f
  by_cases h : l.length = 512
  · simp only [strOfNums_size, show (l.length : Int) = 512 by omega, if_true, show (148 : Int) ≤ 156 by omega, show (156 : Int) ≤ 512 by omega, refplain_f' hb hl, refsigned_f' hb hl, Option.bind_some]
    have hx : bl ((strOfNums l).extract 148 156) = field l := by
      rw [bl_extract, bl_strOfNums hb]
      rfl
    refine ev_bind (refparse_ev (s := (strOfNums l).extract 148 156) (by rw [ByteArray.size_extract]; omega)) ?_
    rw [hx]
    by_cases h2 : (parse (field l)).2 = 0
    · simp only [h2, if_true]
      by_cases h3 : (parse (field l)).1 = total plainOne 0 l
      · simp only [h3, if_true]
        exact ev_eq (ev_some _) (by simp [rightB, h, h2, h3])
      · simp only [h3, if_false]
        exact ev_eq (ev_some _) (by simp [rightB, h, h2, h3])
    · simp only [h2, if_false]
      exact ev_eq (ev_some _) (by simp [rightB, h2])
  · simp only [strOfNums_size, show ¬ (l.length : Int) = 512 by omega, if_false]
    exact ev_eq (ev_some _) (by simp [rightB, h])
section
variable {l : List Int}
theorem text_fl (hb : Bytes l) (i j : Nat) (hj : j ≤ 1000) : Ev (fun k => pannierref06_text.f k ((strOfNums l).extract i j)) (tx (fl l i j)) := by
  have := reftext_ev (s := (strOfNums l).extract i j) (by rw [ByteArray.size_extract]; omega)
  rw [ext_fl hb, bl_strOfNums (fl_bytes hb i j)] at this
  rw [ext_fl hb]
  exact this
theorem refnums_ev (hb : Bytes l) : ∀ n i ns, Ev (fun k => pannierref06_Decode.nums k (strOfNums l) n i ns) (dnums l n i ns)
  | 0, i, ns => ev_some _
  | n + 1, i, ns => by
    simp only [pannierref06_Decode.nums]
    have hfr : fr (i + 1) ≤ 148 := by
      unfold fr head_Decode.fr
      match i with
      | 0 => decide
      | 1 => decide
      | 2 => decide
      | 3 => decide
      | 4 => decide
      | n + 5 => exact Nat.zero_le _
    refine ev_bind (refparse_ev (s := (strOfNums l).extract (fr i) (fr (i + 1))) (by rw [ByteArray.size_extract]; omega)) ?_
    rw [ext_fl hb, bl_strOfNums (fl_bytes hb _ _), dnums]
    by_cases h : (parse (fl l (fr i) (fr (i + 1)))).2 = 0
    · simp only [if_pos h]
      exact refnums_ev hb n (i + 1) _
    · simp only [if_neg h]
      exact ev_some _
theorem reftail_ev (hb : Bytes l) (hl : l.length = 512) (ns : List Int) : Ev (fun k => pannierref06_Decode.tail k (strOfNums l) (tx (fl l 0 100)) (tx (fl l 157 257)) (bt (strOfNums l) 156) ns) (turn (dtail l ns)) := by
  have hm : ∀ m : List UInt8, (((strOfNums l).extract 257 265).toList = m) = (fl l 257 265 = nums8 m) := fun m => by rw [ext_fl hb]; exact propext (strOfNums_lit (fl_bytes hb 257 265) m)
  have hbt : bt (strOfNums l) 156 = rd l 156 := by rw [bt_bl, bl_strOfNums hb]
  unfold pannierref06_Decode.tail pannierref06_Decode.ends
  simp only [hm, hbt]
  have e1 : nums8 [117, 115, 116, 97, 114, 0, 48, 48] = [117, 115, 116, 97, 114, 0, 48, 48] := rfl
  have e2 : nums8 [117, 115, 116, 97, 114, 32, 32, 0] = [117, 115, 116, 97, 114, 32, 32, 0] := rfl
  rw [e1, e2]
  by_cases h1 : fl l 257 265 = [117, 115, 116, 97, 114, 0, 48, 48]
  · have hmg : mg l = 1 := by unfold mg; rw [if_pos h1]
    simp only [if_pos h1]
    refine ev_bind (text_fl hb 345 500 (by omega)) ?_
    refine ev_bind (text_fl hb 265 297 (by omega)) ?_
    refine ev_bind (text_fl hb 297 329 (by omega)) ?_
    refine ev_eq (ev_some _) ?_
    unfold turn dtail
    rw [hmg]
    rfl
  · simp only [if_neg h1]
    by_cases h2 : fl l 257 265 = [117, 115, 116, 97, 114, 32, 32, 0]
    · have hmg : mg l = 2 := by unfold mg; rw [if_neg h1, if_pos h2]
      simp only [if_pos h2]
      refine ev_bind (text_fl hb 265 297 (by omega)) ?_
      refine ev_bind (text_fl hb 297 329 (by omega)) ?_
      refine ev_eq (ev_some _) ?_
      unfold turn dtail
      rw [hmg]
      rfl
    · have hmg : mg l = 0 := by unfold mg; rw [if_neg h1, if_neg h2]
      simp only [if_neg h2]
      refine ev_eq (ev_some _) ?_
      unfold turn dtail
      rw [hmg]
      rfl
theorem refdecode_ev (hb : Bytes l) (hl : l.length ≤ 1000000) : Ev (fun k => pannierref06_Decode.f k (strOfNums l)) (turn (dec l)) := by
  unfold pannierref06_Decode.f dec
  by_cases h : l.length = 512
  · simp only [strOfNums_size, show (l.length : Int) = 512 by omega, if_true, if_pos h]
    refine ev_bind (refright_ev' hb hl) ?_
    by_cases hr : rightB l = true
    · simp only [if_pos hr]
      refine ev_bind (text_fl hb 0 100 (by omega)) ?_
      refine ev_bind (text_fl hb 157 257 (by omega)) ?_
      unfold pannierref06_Decode.after
      refine ev_bind (refnums_ev hb (5 - 0) 0 [0, 0, 0, 0, 0]) ?_
      unfold dbody
      by_cases hn : (dnums l 5 0 [0, 0, 0, 0, 0]).2 = 0
      · simp only [Nat.sub_zero, if_pos hn]
        exact reftail_ev hb h _
      · simp only [Nat.sub_zero, if_neg hn]
        exact ev_some _
    · simp only [if_neg hr]
      exact ev_some _
  · simp only [strOfNums_size, show ¬ (l.length : Int) = 512 by omega, if_false, if_neg h]
    exact ev_some _
end
end Go.Proofs.Ytchldbhnohicoaa.Pure
