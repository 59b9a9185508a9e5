/- Which clean paths lie in which: by their parts. -/
import Derived.Test.YtolpamojbiipaaaDoorUCmp
import Derived.Test.YtolpamojbiipaaaDoorUComp
namespace Go.Proofs.YtolpamojbiipaaaDoor.Pure
open Go.RowKit Go.Proofs.YtolpamojbiipaaaDoor.XA Go.Proofs.YtolpamojbiipaaaDoorW.PrintWords Go.Proofs.YtolpamojbiipaaaDoorW.PrintLast Go.Proofs.YtolpamojbiipaaaDoorW.PrintMore
set_option linter.unusedSimpArgs false
set_option linter.unusedVariables false

theorem join_append : ∀ {d t : List (List UInt8)}, d ≠ [] → t ≠ [] → joinS (d ++ t) = joinS d ++ 47 :: joinS t
  | [], _, h, _ => absurd rfl h
  | [p], t, _, ht => by rw [List.singleton_append, joinS_cons ht]; rfl
  | p :: q :: r, t, _, ht => by
    rw [List.cons_append, joinS_cons (by simp), joinS_cons (r := q :: r) (by simp), join_append (d := q :: r) (by simp) ht]
    simp
theorem join_inj {x y : List (List UInt8)} (hx : ∀ p ∈ x, Good p) (hy : ∀ p ∈ y, Good p) (h : joinS x = joinS y) : x = y := by
  rw [← parts_join hx, h, parts_join hy]
theorem join_nil {x : List (List UInt8)} (hx : ∀ p ∈ x, Good p) (h : joinS x = []) : x = [] := by
  by_cases e : x = []
  · exact e
  · exact absurd h (join_ne hx e)
theorem under_iff {d x : List (List UInt8)} (hd : ∀ p ∈ d, Good p) (hx : ∀ p ∈ x, Good p) : underS (joinS d) (joinS x) = true ↔ ∃ t, x = d ++ t := by
  unfold underS
  simp only [Bool.or_eq_true, beq_iff_eq]
  constructor
  · rintro (h | h | h)
    · rw [join_nil hd h]; exact ⟨x, rfl⟩
    · rw [join_inj hx hd h]; exact ⟨[], (List.append_nil _).symm⟩
    · have e : joinS x = joinS d ++ 47 :: (joinS x).drop ((joinS d).length + 1) := by
        conv => lhs; rw [← List.take_append_drop ((joinS d).length + 1) (joinS x), h]
        simp
      by_cases d0 : d = []
      · subst d0; exact ⟨x, rfl⟩
      · have x0 : x ≠ [] := by
          rintro rfl
          simp [joinS] at e
        have c1 := cutS_join x0 fun p hp => (hx p hp).slash
        have c2 := cutS_join d0 fun p hp => (hd p hp).slash
        rw [e, cutS_append, c2] at c1
        exact ⟨_, c1.symm⟩
  · rintro ⟨t, rfl⟩
    by_cases d0 : d = []
    · subst d0; exact .inl rfl
    by_cases t0 : t = []
    · subst t0; right; left; rw [List.append_nil]
    · right; right
      rw [join_append d0 t0, show joinS d ++ 47 :: joinS t = (joinS d ++ [47]) ++ joinS t by simp, List.take_append_of_le_length (by simp), List.take_of_length_le (by simp)]
end Go.Proofs.YtolpamojbiipaaaDoor.Pure
