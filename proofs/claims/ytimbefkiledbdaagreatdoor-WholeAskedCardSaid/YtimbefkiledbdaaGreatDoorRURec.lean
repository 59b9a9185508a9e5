/- Numbers in decimal digits, texts cut at a byte, and records as bytes: plain laws. -/
import Derived.Lib.AtoiTie
import Derived.Lib.ItoaNum
import Derived.Lib.ItoaMem
import Derived.Lib.IndexMore
import Derived.Lib.IndexAny
namespace Go.Proofs.YtimbefkiledbdaaGreatDoor.Pure
set_option linter.unusedSimpArgs false
set_option linter.unusedVariables false
open Go.Lib

theorem dd_small {n : Nat} (h : n < 10) : decDigits n = [UInt8.ofNat (48 + n)] := by rw [decDigits, dif_pos h]
theorem dd_step {n : Nat} (h : 10 ≤ n) : decDigits n = decDigits (n / 10) ++ [UInt8.ofNat (48 + n % 10)] := by rw [decDigits, dif_neg (by omega)]
theorem digit_nat {d : Nat} (h : d < 10) : (UInt8.ofNat (48 + d)).toNat = 48 + d := by simp [UInt8.toNat_ofNat']; omega
theorem dd_bytes : ∀ (n : Nat), ∀ b ∈ decDigits n, 48 ≤ b.toNat ∧ b.toNat ≤ 57 := by
  intro n
  induction n using Nat.strongRecOn with
  | ind n ih =>
    intro b hb
    by_cases h : n < 10
    · rw [dd_small h, List.mem_singleton] at hb
      subst hb
      rw [digit_nat h]; omega
    · rw [dd_step (by omega), List.mem_append, List.mem_singleton] at hb
      rcases hb with hb | rfl
      · exact ih (n / 10) (by omega) b hb
      · rw [digit_nat (Nat.mod_lt _ (by omega))]; omega
theorem dd_ne (n : Nat) : decDigits n ≠ [] := by
  by_cases h : n < 10
  · rw [dd_small h]; simp
  · rw [dd_step (by omega)]; simp
theorem dd_pos (n : Nat) : 1 ≤ (decDigits n).length := by
  have := dd_ne n
  cases h : decDigits n with
  | nil => exact absurd h this
  | cons a t => simp
theorem dd_len : ∀ (k n : Nat), n < 10 ^ (k + 1) → (decDigits n).length ≤ k + 1 := by
  intro k
  induction k with
  | zero => intro n h; rw [dd_small (by simpa using h)]; simp
  | succ k ih =>
    intro n h
    by_cases h1 : n < 10
    · rw [dd_small h1]; simp
    · rw [dd_step (by omega), List.length_append]
      have := ih (n / 10) (by rw [Nat.div_lt_iff_lt_mul (by omega)]; rw [Nat.pow_succ] at h; omega)
      simp only [List.length_cons, List.length_nil]; omega
theorem dl (n : Nat) (h : n < 10000) : (decDigits n).length = if n < 10 then 1 else if n < 100 then 2 else if n < 1000 then 3 else 4 := by
  by_cases h1 : n < 10
  · rw [if_pos h1, dd_small h1]; rfl
  · rw [if_neg h1, dd_step (by omega), List.length_append]
    by_cases h2 : n < 100
    · rw [if_pos h2, dd_small (by omega)]; rfl
    · rw [if_neg h2, dd_step (n := n / 10) (by omega), List.length_append]
      by_cases h3 : n < 1000
      · rw [if_pos h3, dd_small (by omega)]; rfl
      · rw [if_neg h3, dd_step (n := n / 10 / 10) (by omega), List.length_append, dd_small (by omega)]; rfl
theorem decFrom_app : ∀ (a b : List UInt8) (acc m : Nat), decFrom acc a = some m → decFrom acc (a ++ b) = decFrom m b
  | [], b, acc, m, h => by simp only [decFrom, Option.some.injEq] at h; rw [h]; rfl
  | c :: a, b, acc, m, h => by
    rw [List.cons_append, decFrom]
    rw [decFrom] at h
    cases hv : digitVal c with
    | none => rw [hv] at h; cases h
    | some d => rw [hv] at h; exact decFrom_app a b _ m h
theorem decFrom_dd : ∀ n : Nat, decFrom 0 (decDigits n) = some n := by
  intro n
  induction n using Nat.strongRecOn with
  | ind n ih =>
    have dv : ∀ d : Nat, d < 10 → digitVal (UInt8.ofNat (48 + d)) = some d := fun d h => by
      unfold digitVal
      rw [digit_nat h, if_pos ⟨by omega, by omega⟩]
      congr 1; omega
    by_cases h : n < 10
    · rw [dd_small h, decFrom, dv n h]
      simp only [decFrom]; congr 1; omega
    · rw [dd_step (by omega), decFrom_app _ _ _ _ (ih (n / 10) (by omega)), decFrom, dv _ (Nat.mod_lt _ (by omega))]
      simp only [decFrom]; congr 1; omega
theorem atoi_dd {n : Nat} (h : n < 10 ^ 18) : atoiAll (decDigits n) = .ok (n : Int) := by
  rw [atoiAll_short _ (dd_len 17 n h)]
  have hb := dd_bytes n
  have hd := decFrom_dd n
  cases hl : decDigits n with
  | nil => exact absurd hl (dd_ne n)
  | cons b r =>
    rw [hl] at hb hd
    have h1 := hb b List.mem_cons_self
    have e45 : (b == 45) = false := by rw [beq_eq_false_iff_ne]; rintro rfl; revert h1; decide
    have e43 : (b == 43) = false := by rw [beq_eq_false_iff_ne]; rintro rfl; revert h1; decide
    simp only [atoi, e45, e43, Bool.false_eq_true, if_false, decNat, List.isEmpty_cons, hd, Option.map, NumEnd.ofOption]
/-- Cut at the first of a byte. -/
theorem index_at (a b : List UInt8) (c : UInt8) (h : c ∉ a) : index (a ++ c :: b) [c] = (a.length : Int) := by
  induction a with
  | nil => simp [index, List.isPrefixOf]
  | cons x a ih =>
    simp only [List.mem_cons, not_or] at h
    have hx : (c == x) = false := beq_eq_false_iff_ne.2 h.1
    rw [List.cons_append, index, ih h.2]
    simp only [List.isPrefixOf, hx, Bool.false_and, Bool.false_eq_true, if_false, List.length_cons]
    rw [if_neg (by rw [beq_iff_eq]; omega)]
    omega
theorem index_no (a : List UInt8) (c : UInt8) (h : c ∉ a) : index a [c] = -1 := by
  induction a with
  | nil => simp [index]
  | cons x a ih =>
    simp only [List.mem_cons, not_or] at h
    have hx : (c == x) = false := beq_eq_false_iff_ne.2 h.1
    rw [index, ih h.2]
    simp [List.isPrefixOf, hx]
theorem cut_at (a b : List UInt8) (c : UInt8) (h : c ∉ a) : cut (a ++ c :: b) [c] = (a, b, true) := by
  unfold cut
  rw [index_at a b c h, if_pos (by omega)]
  simp
theorem cut_no (a : List UInt8) (c : UInt8) (h : c ∉ a) : cut a [c] = (a, [], false) := by
  unfold cut
  rw [index_no a c h, if_neg (by omega)]
theorem any_no (s cs : List UInt8) : indexAny s cs < 0 ↔ ∀ b ∈ s, b ∉ cs := by
  induction s with
  | nil => simp [indexAny]
  | cons b s ih =>
    have := indexAny_ge cs s
    rw [indexAny]
    by_cases hb : b ∈ cs
    · simp [hb]
    · simp only [List.contains_eq_mem, hb, decide_false, Bool.false_eq_true, if_false, List.mem_cons, forall_eq_or_imp, not_false_eq_true, true_and]
      rw [← ih]
      by_cases h1 : indexAny s cs = -1
      · rw [h1]; simp
      · rw [if_neg (by rw [beq_iff_eq]; exact h1)]; omega
/-- How many bytes a record takes; a record's bytes. -/
def lenR (k v : Nat) : Nat := let n := k + v + 3
  let d := (decDigits n).length
  if d < (decDigits (n + d)).length then n + d + 1 else n + d
theorem lenR_eq (k v : Nat) (h : k + v ≤ 4096) : lenR k v = k + v + 3 + (decDigits (lenR k v)).length ∧ lenR k v ≤ 4103 ∧ (decDigits (lenR k v)).length ≤ 4 ∧ k + v + 3 < lenR k v := by
  have e : lenR k v = k + v + 3 + (if k + v + 3 < 9 then 1 else if k + v + 3 < 98 then 2 else if k + v + 3 < 997 then 3 else 4) := by
    unfold lenR
    simp only
    rw [dl (k + v + 3) (by omega)]
    rw [dl _ (by split <;> (try split) <;> (try split) <;> omega)]
    repeat' split
    all_goals omega
  have e2 : (decDigits (lenR k v)).length = (if k + v + 3 < 9 then 1 else if k + v + 3 < 98 then 2 else if k + v + 3 < 997 then 3 else 4) := by
    rw [dl _ (by rw [e]; split <;> (try split) <;> (try split) <;> omega), e]
    repeat' split
    all_goals omega
  refine ⟨by rw [e2]; exact e, ?_, ?_, ?_⟩
  · rw [e]; repeat' split
    all_goals omega
  · rw [e2]; repeat' split
    all_goals omega
  · rw [e]; repeat' split
    all_goals omega
def recB (k v : List UInt8) : List UInt8 := decDigits (lenR k.length v.length) ++ 32 :: (k ++ 61 :: (v ++ [10]))
theorem recB_len (k v : List UInt8) (h : k.length + v.length ≤ 4096) : (recB k v).length = lenR k.length v.length := by
  have := (lenR_eq k.length v.length h).1
  simp [recB]; omega
/-- May a record be. -/
def okR (k v : List UInt8) : Prop := k ≠ [] ∧ (∀ b ∈ k, b ≠ 61 ∧ b ≠ 0 ∧ b ≠ 10) ∧ k.length + v.length ≤ 4096
theorem one_head (k v r : List UInt8) : cut (recB k v ++ r) [32] = (decDigits (lenR k.length v.length), k ++ 61 :: (v ++ [10]) ++ r, true) := by
  unfold recB
  rw [List.append_assoc, List.cons_append]
  refine cut_at _ _ _ (fun h => ?_)
  have := dd_bytes _ _ h
  revert this; decide
theorem one_mid (k v r : List UInt8) (h : k.length + v.length ≤ 4096) : ((recB k v ++ r).take (lenR k.length v.length - 1)).drop ((decDigits (lenR k.length v.length)).length + 1) = k ++ 61 :: v := by
  have h1 := (lenR_eq k.length v.length h)
  have e : recB k v ++ r = (decDigits (lenR k.length v.length) ++ [32] ++ (k ++ 61 :: v)) ++ (10 :: r) := by simp [recB]
  rw [e, List.take_left' (by simp; omega), List.drop_left' (by simp)]
theorem one_end (k v r : List UInt8) (h : k.length + v.length ≤ 4096) : (recB k v ++ r)[lenR k.length v.length - 1]? = some 10 ∧ (recB k v ++ r).drop (lenR k.length v.length) = r := by
  have h1 := (lenR_eq k.length v.length h)
  have e : recB k v ++ r = (decDigits (lenR k.length v.length) ++ [32] ++ (k ++ 61 :: v)) ++ (10 :: r) := by simp [recB]
  constructor
  · rw [e, List.getElem?_append_right (by simp; omega)]
    have : lenR k.length v.length - 1 - (decDigits (lenR k.length v.length) ++ [32] ++ (k ++ 61 :: v)).length = 0 := by simp; omega
    rw [this]; rfl
  · rw [← recB_len k v h, List.drop_left]
end Go.Proofs.YtimbefkiledbdaaGreatDoor.Pure
