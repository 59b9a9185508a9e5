/- Sums below a number. -/
import Derived.Test.YtolpamojbiipaaaDoorUAdd
namespace Go.Proofs.YtolpamojbiipaaaDoor.Pure
set_option linter.unusedSimpArgs false
set_option linter.unusedVariables false

def sumN (f : Nat → Int) : Nat → Int
  | 0 => 0
  | k + 1 => sumN f k + f k
theorem sum_le {f g : Nat → Int} : ∀ n, (∀ i, i < n → f i ≤ g i) → sumN f n ≤ sumN g n
  | 0, _ => Int.le_refl _
  | n + 1, h => by have := sum_le n (fun i hi => h i (by omega)); have := h n (by omega); simp only [sumN]; omega
theorem sum_eq {f g : Nat → Int} : ∀ n, (∀ i, i < n → f i = g i) → sumN f n = sumN g n
  | 0, _ => rfl
  | n + 1, h => by rw [sumN, sumN, sum_eq n (fun i hi => h i (by omega)), h n (by omega)]
theorem sum_zero : ∀ n, sumN (fun _ => 0) n = 0
  | 0 => rfl
  | n + 1 => by rw [sumN, sum_zero n]; rfl
theorem sum_nonneg {f : Nat → Int} (n : Nat) (h : ∀ i, i < n → 0 ≤ f i) : 0 ≤ sumN f n := by
  have := sum_le (f := fun _ => 0) (g := f) n h
  rwa [sum_zero] at this
/-- One place differs. -/
theorem sum_point {f g : Nat → Int} {a : Nat} : ∀ n, a < n → (∀ i, i < n → i ≠ a → f i = g i) → sumN f n = sumN g n + (f a - g a)
  | 0, h, _ => by omega
  | n + 1, h, he => by
    rw [sumN, sumN]
    by_cases e : a = n
    · subst e
      rw [sum_eq a (fun i hi => he i (by omega) (by omega))]; omega
    · rw [sum_point n (by omega) (fun i hi hne => he i (by omega) hne), he n (by omega) (by omega)]; omega
theorem sum_more {f : Nat → Int} {n : Nat} : ∀ m, n ≤ m → (∀ i, n ≤ i → i < m → f i = 0) → sumN f m = sumN f n
  | 0, h, _ => by have : n = 0 := by omega
                  rw [this]
  | m + 1, h, hz => by
    by_cases e : n = m + 1
    · rw [e]
    · rw [sumN, sum_more m (by omega) (fun i h1 h2 => hz i h1 (by omega)), hz m (by omega) (by omega)]; omega
theorem sum_grow {f : Nat → Int} {n : Nat} : ∀ m, n ≤ m → (∀ i, n ≤ i → i < m → 0 ≤ f i) → sumN f n ≤ sumN f m
  | 0, h, _ => by have : n = 0 := by omega
                  rw [this]; exact Int.le_refl _
  | m + 1, h, hz => by
    by_cases e : n = m + 1
    · rw [e]; exact Int.le_refl _
    · have := sum_grow m (by omega) (fun i h1 h2 => hz i h1 (by omega))
      have := hz m (by omega) (by omega)
      simp only [sumN]; omega
/-- At most one a place. -/
theorem sum_cap {f : Nat → Int} {n : Nat} : ∀ m, n ≤ m → (∀ i, n ≤ i → i < m → f i ≤ 1) → sumN f m ≤ sumN f n + ((m : Int) - n)
  | 0, h, _ => by have : n = 0 := by omega
                  subst this; simp
  | m + 1, h, hz => by
    by_cases e : n = m + 1
    · subst e; omega
    · have := sum_cap m (by omega) (fun i h1 h2 => hz i h1 (by omega))
      have := hz m (by omega) (by omega)
      simp only [sumN]; omega

end Go.Proofs.YtolpamojbiipaaaDoor.Pure
