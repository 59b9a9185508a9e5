/- The order of clean paths is one: plain laws. -/
import Derived.Test.YtolpamojbiipaaaDoorUOrd
namespace Go.Proofs.YtolpamojbiipaaaDoor.Pure
open Go.RowKit Go.Proofs.YtolpamojbiipaaaDoor.XA Go.Proofs.YtolpamojbiipaaaDoorW.PrintWords Go.Proofs.YtolpamojbiipaaaDoorW.PrintLast Go.Proofs.YtolpamojbiipaaaDoorW.PrintMore
set_option linter.unusedSimpArgs false
set_option linter.unusedVariables false

theorem cb_cons (a b : UInt8) (at_ bt_ : List UInt8) : Lib.compareBytes (a :: at_) (b :: bt_) = if a < b then -1 else if b < a then 1 else Lib.compareBytes at_ bt_ := by
  rw [Lib.compareBytes]
theorem cb_range : ∀ (a b : List UInt8), Lib.compareBytes a b = -1 ∨ Lib.compareBytes a b = 0 ∨ Lib.compareBytes a b = 1
  | [], [] => by simp [Lib.compareBytes]
  | [], _ :: _ => by simp [Lib.compareBytes]
  | _ :: _, [] => by simp [Lib.compareBytes]
  | a :: at_, b :: bt_ => by
    rw [cb_cons]
    split
    · exact .inl rfl
    · split
      · exact .inr (.inr rfl)
      · exact cb_range at_ bt_
theorem cb_zero : ∀ {a b : List UInt8}, Lib.compareBytes a b = 0 ↔ a = b
  | [], [] => by simp [Lib.compareBytes]
  | [], _ :: _ => by simp [Lib.compareBytes]
  | _ :: _, [] => by simp [Lib.compareBytes]
  | a :: at_, b :: bt_ => by
    rw [cb_cons]
    by_cases h1 : a < b
    · rw [if_pos h1]
      refine ⟨fun h => by omega, fun h => ?_⟩
      injection h with h _
      subst h
      exact absurd h1 (UInt8.lt_irrefl _)
    rw [if_neg h1]
    by_cases h2 : b < a
    · rw [if_pos h2]
      refine ⟨fun h => by omega, fun h => ?_⟩
      injection h with h _
      subst h
      exact absurd h2 (UInt8.lt_irrefl _)
    rw [if_neg h2, cb_zero]
    have e : a = b := UInt8.le_antisymm (UInt8.not_lt.1 h2) (UInt8.not_lt.1 h1)
    subst e
    simp
theorem cb_neg : ∀ (a b : List UInt8), Lib.compareBytes b a = -Lib.compareBytes a b
  | [], [] => by simp [Lib.compareBytes]
  | [], _ :: _ => by simp [Lib.compareBytes]
  | _ :: _, [] => by simp [Lib.compareBytes]
  | a :: at_, b :: bt_ => by
    rw [cb_cons, cb_cons]
    by_cases h1 : a < b
    · have h2 := UInt8.lt_asymm h1
      simp [h1, h2]
    by_cases h2 : b < a
    · simp [h1, h2]
    · simp only [h1, h2, if_false]
      exact cb_neg at_ bt_
theorem cb_trans : ∀ {a b c : List UInt8}, Lib.compareBytes a b < 0 → Lib.compareBytes b c < 0 → Lib.compareBytes a c < 0
  | [], [], _, h, _ => by simp [Lib.compareBytes] at h
  | _ :: _, [], _, h, _ => by simp [Lib.compareBytes] at h
  | _, _ :: _, [], _, h => by simp [Lib.compareBytes] at h
  | [], _ :: _, _ :: _, _, _ => by simp [Lib.compareBytes]
  | a :: at_, b :: bt_, c :: ct_, h1, h2 => by
    rw [cb_cons] at h1 h2 ⊢
    by_cases ab : a < b
    · by_cases bc : b < c
      · rw [if_pos (UInt8.lt_trans ab bc)]; omega
      · rw [if_neg bc] at h2
        by_cases cb : c < b
        · rw [if_pos cb] at h2; omega
        · have e : b = c := UInt8.le_antisymm (UInt8.not_lt.1 cb) (UInt8.not_lt.1 bc)
          subst e
          rw [if_pos ab]; omega
    · rw [if_neg ab] at h1
      by_cases ba : b < a
      · rw [if_pos ba] at h1; omega
      · rw [if_neg ba] at h1
        have e : a = b := UInt8.le_antisymm (UInt8.not_lt.1 ba) (UInt8.not_lt.1 ab)
        subst e
        by_cases bc : a < c
        · rw [if_pos bc]; omega
        · rw [if_neg bc] at h2 ⊢
          by_cases cb : c < a
          · rw [if_pos cb] at h2; omega
          · rw [if_neg cb] at h2 ⊢
            exact cb_trans h1 h2

theorem cmp_zero : ∀ {x y : List (List UInt8)}, cmpP x y = 0 ↔ x = y
  | [], [] => by simp [cmpP]
  | [], _ :: _ => by simp [cmpP]; omega
  | _ :: _, [] => by simp [cmpP]; omega
  | p :: r, q :: t => by
    rw [cmpP]
    by_cases h : Lib.compareBytes p q = 0
    · rw [if_pos h, cmp_zero]
      rw [cb_zero] at h
      subst h
      simp
    · rw [if_neg h]
      refine ⟨fun h2 => absurd h2 h, fun h2 => ?_⟩
      injection h2 with h2 _
      exact absurd (cb_zero.2 h2) h
theorem cmp_neg : ∀ (x y : List (List UInt8)), cmpP y x = -cmpP x y
  | [], [] => by simp [cmpP]
  | [], _ :: _ => by simp [cmpP]
  | _ :: _, [] => by simp [cmpP]
  | p :: r, q :: t => by
    rw [cmpP, cmpP, cb_neg p q]
    by_cases h : Lib.compareBytes p q = 0
    · rw [if_pos (by omega), if_pos h]
      exact cmp_neg r t
    · rw [if_neg (by omega), if_neg h]
theorem cmp_trans : ∀ {x y z : List (List UInt8)}, cmpP x y < 0 → cmpP y z < 0 → cmpP x z < 0
  | [], [], _, h, _ => by simp [cmpP] at h
  | _ :: _, [], _, h, _ => by simp [cmpP] at h; omega
  | _, _ :: _, [], _, h => by simp [cmpP] at h; omega
  | [], _ :: _, _ :: _, _, _ => by simp only [cmpP, List.length_cons]; omega
  | p :: r, q :: t, s :: u, h1, h2 => by
    rw [cmpP] at h1 h2 ⊢
    by_cases pq : Lib.compareBytes p q = 0
    · rw [if_pos pq] at h1
      rw [cb_zero] at pq
      subst pq
      by_cases qs : Lib.compareBytes p s = 0
      · rw [if_pos qs] at h2 ⊢
        exact cmp_trans h1 h2
      · rw [if_neg qs] at h2 ⊢
        exact h2
    · rw [if_neg pq] at h1
      by_cases qs : Lib.compareBytes q s = 0
      · rw [if_pos qs] at h2
        rw [cb_zero] at qs
        subst qs
        rw [if_neg pq]
        exact h1
      · rw [if_neg qs] at h2
        have := cb_trans h1 h2
        rw [if_neg (by omega)]
        exact this
theorem cmp_le_trans {x y z : List (List UInt8)} (h1 : cmpP x y ≤ 0) (h2 : cmpP y z ≤ 0) : cmpP x z ≤ 0 := by
  by_cases e1 : cmpP x y = 0
  · rw [cmp_zero.1 e1]; exact h2
  by_cases e2 : cmpP y z = 0
  · rw [← cmp_zero.1 e2]; exact h1
  have := cmp_trans (x := x) (y := y) (z := z) (by omega) (by omega)
  omega
/-- What lies ahead of a directory's things, and behind it, lies in it. -/
theorem cmp_between : ∀ {d x r : List (List UInt8)}, cmpP d x ≤ 0 → cmpP x (d ++ r) ≤ 0 → ∃ t, x = d ++ t
  | [], x, _, _, _ => ⟨x, rfl⟩
  | p :: d, [], _, h, _ => by simp [cmpP] at h; omega
  | p :: d, q :: x, r, h1, h2 => by
    rw [List.cons_append] at h2
    rw [cmpP] at h1 h2
    have hn := cb_neg p q
    by_cases pq : Lib.compareBytes p q = 0
    · rw [if_pos pq] at h1
      rw [if_pos (by omega)] at h2
      obtain ⟨t, rfl⟩ := cmp_between h1 h2
      rw [cb_zero] at pq
      subst pq
      exact ⟨t, rfl⟩
    · rw [if_neg pq] at h1
      rw [if_neg (by omega)] at h2
      omega
end Go.Proofs.YtolpamojbiipaaaDoor.Pure
