/- What a block that is no header is told as. -/
import Derived.Test.YtchldbhnohicoaaUReads
namespace Go.Proofs.Ytchldbhnohicoaa.Pure
open Go.RowKit Go.Proofs.Ytchldbhnohicoaa.XA Go.Proofs.YtchldbhnohicoaaW.PrintWords Go.Proofs.YtchldbhnohicoaaW.PrintLast Go.Proofs.YtchldbhnohicoaaW.PrintMore
set_option linter.unusedSimpArgs false
set_option linter.unusedVariables false

def dcode (r : DR) : Int := r.2.2.2.2.2.2.2.2.2.2.2.2
def C2 (r : Int × Int) : Prop := r.2 = 0 ∨ r.2 = 20
theorem C2_ite {c : Prop} [Decidable c] {a b : Int × Int} (ha : C2 a) (hb : C2 b) : C2 (if c then a else b) := by split <;> assumption
theorem trail_code (l : List Int) (acc : Int) : C2 (trail l acc) := by
  unfold trail
  exact C2_ite (Or.inl rfl) (Or.inr rfl)
theorem octs_code : ∀ (l : List Int) (acc : Int), C2 (octs l acc)
  | [], acc => by simp only [octs]; exact Or.inl rfl
  | c :: cs, acc => by
    simp only [octs]
    repeat' (first | exact octs_code cs _ | exact trail_code _ _ | exact Or.inl rfl | exact Or.inr rfl | refine C2_ite ?_ ?_)
theorem blanks_code : ∀ l : List Int, C2 (blanks l)
  | [] => by simp only [blanks]; exact Or.inl rfl
  | c :: cs => by
    simp only [blanks]
    repeat' (first | exact blanks_code cs | exact octs_code _ _ | exact Or.inl rfl | exact Or.inr rfl | refine C2_ite ?_ ?_)
theorem binf_code : ∀ (n : Int) (l : List Int), C2 (binf n l)
  | n, [] => by simp only [binf]; exact Or.inl rfl
  | n, c :: cs => by
    simp only [binf]
    repeat' (first | exact binf_code _ cs | exact Or.inl rfl | exact Or.inr rfl | refine C2_ite ?_ ?_)
theorem parse_code (l : List Int) : C2 (parse l) := by
  cases l with
  | nil => simp only [parse]; first | exact Or.inl rfl | exact blanks_code _
  | cons c cs =>
    simp only [parse, binp]
    repeat' (first | exact binf_code _ _ | exact blanks_code _ | exact Or.inl rfl | exact Or.inr rfl | refine C2_ite ?_ ?_)
theorem dnums_code (l : List Int) : ∀ n i ns, (dnums l n i ns).2 = 0 ∨ (dnums l n i ns).2 = 20
  | 0, _, _ => Or.inl rfl
  | n + 1, i, ns => by
    rw [dnums]
    split
    · exact dnums_code l n _ _
    · exact parse_code _
theorem dec_code (l : List Int) : (l.length ≠ 512 ∧ dec l = dbad 1) ∨ (l.length = 512 ∧ rightB l = false ∧ dec l = dbad 50) ∨ (l.length = 512 ∧ rightB l = true ∧ (dcode (dec l) = 0 ∨ dcode (dec l) = 20)) := by
  unfold dec
  by_cases h : l.length = 512
  · rw [if_pos h]
    cases hr : rightB l with
    | false => exact Or.inr (Or.inl ⟨h, rfl, by simp⟩)
    | true =>
      refine Or.inr (Or.inr ⟨h, rfl, ?_⟩)
      rw [if_pos rfl, dbody]
      rcases dnums_code l 5 0 [0, 0, 0, 0, 0] with hd | hd
      · rw [if_pos hd]; exact Or.inl rfl
      · rw [if_neg (by rw [hd]; decide), hd]; exact Or.inr rfl
  · rw [if_neg h]
    exact Or.inl ⟨h, rfl⟩
set_option maxRecDepth 100000 in
theorem right_zeros : rightB (List.replicate 512 (0 : Int)) = false := by decide +kernel
theorem blank_right {l : List Int} (h : blankB l = true) : rightB l = false := by
  simp only [blankB, zeroB, Bool.and_eq_true, decide_eq_true_eq, List.all_eq_true, beq_iff_eq] at h
  have : l = List.replicate 512 0 := List.eq_replicate_iff.2 ⟨h.2, h.1⟩
  rw [this]
  exact right_zeros
end Go.Proofs.Ytchldbhnohicoaa.Pure
