/- The document's text of a field is head's. -/
import Derived.Test.YtchldbhnohicoaaUCodes
import Derived.Test.YtchldbhnohicoaaXA11
namespace Go.Proofs.Ytchldbhnohicoaa.Pure
open Go.RowKit Go.Proofs.Ytchldbhnohicoaa.XA Go.Proofs.YtchldbhnohicoaaW.PrintWords Go.Proofs.YtchldbhnohicoaaW.PrintLast Go.Proofs.YtchldbhnohicoaaW.PrintMore
set_option linter.unusedSimpArgs false
set_option linter.unusedVariables false

/-- The text up to the first byte 0. -/
theorem reftext_l0 {s : ByteArray} (hs : s.size ≤ 1000000) : ∀ (rest : List Int) (i : Nat), (bl s).drop i = rest → upto0 (bl s) = (bl s).take i ++ upto0 rest →
    ∃ t, Ev (fun k => pannierref06_text.l0 k s (i : Int)) t ∧ bl t = upto0 (bl s)
  | [], i, h, hu => by
    have := drop_ge h
    rw [bl_length] at this
    refine ⟨s, Ev.step (fun k => by rw [pannierref06_text.l0]) ?_, ?_⟩
    · simp only [show ¬ ((i : Int) < (s.size : Int)) by omega, if_false]
      exact ev_some _
    · rw [hu, List.take_of_length_le (by rw [bl_length]; omega)]
      simp [upto0]
  | c :: cs, i, h, hu => by
    have hlt := drop_lt h
    rw [bl_length] at hlt
    by_cases hc : c = 0
    · refine ⟨s.extract 0 i, Ev.step (fun k => by rw [pannierref06_text.l0]) ?_, ?_⟩
      · simp only [show (i : Int) < (s.size : Int) by omega, show (0 : Int) ≤ (i : Int) by omega, if_true, bt_bl, rd_drop h, hc, Int.toNat_natCast, show (i : Int) ≤ (s.size : Int) by omega]
        exact ev_some _
      · rw [bl_extract, hu, hc]
        simp [upto0]
    · obtain ⟨t, ht, e⟩ := reftext_l0 hs cs (i + 1) (drop_next h) (by
        rw [hu, upto0, if_neg hc, List.take_succ_eq_append_getElem (by rw [bl_length]; exact hlt), List.append_assoc]
        congr 1
        have : (bl s)[i]'(by rw [bl_length]; exact hlt) = c := by
          have h2 : ((bl s).drop i)[0]? = some c := by rw [h]; rfl
          rw [List.getElem?_drop, Nat.add_zero, List.getElem?_eq_getElem (by rw [bl_length]; exact hlt)] at h2
          exact Option.some.inj h2
        rw [this]
        rfl)
      refine ⟨t, Ev.step (fun k => by rw [pannierref06_text.l0]) ?_, e⟩
      simp only [show (i : Int) < (s.size : Int) by omega, show (0 : Int) ≤ (i : Int) by omega, if_true, bt_bl, rd_drop h, hc, if_false, wnext (i := i) (by omega)]
      exact ht
theorem reftext_ev {s : ByteArray} (hs : s.size ≤ 1000000) : Ev (fun k => pannierref06_text.f k s) (tx (bl s)) := by
  obtain ⟨t, ht, e⟩ := reftext_l0 hs (bl s) 0 rfl (by simp)
  have : t = tx (bl s) := by
    apply bl_inj
    rw [e, tx, bl_strOfNums (upto0_bytes (bl_bytes s))]
  rw [← this]
  exact ht
abbrev RR6 := Int × Int × ByteArray × ByteArray × ByteArray × ByteArray × ByteArray × Int × Int × Int × Int × Int × Int
def turn (r : DR) : RR6 := (r.1, r.2.2.2.2.2.2.1, r.2.1, r.2.2.1, r.2.2.2.1, r.2.2.2.2.1, r.2.2.2.2.2.1, r.2.2.2.2.2.2.2.1, r.2.2.2.2.2.2.2.2.1, r.2.2.2.2.2.2.2.2.2.1, r.2.2.2.2.2.2.2.2.2.2.1, r.2.2.2.2.2.2.2.2.2.2.2.1, r.2.2.2.2.2.2.2.2.2.2.2.2)
end Go.Proofs.Ytchldbhnohicoaa.Pure
