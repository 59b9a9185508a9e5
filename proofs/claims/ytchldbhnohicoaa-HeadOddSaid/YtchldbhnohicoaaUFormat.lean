/- Layer 2 in plain words: numbers written as fields. -/
import Derived.Test.YtchldbhnohicoaaUOctal
namespace Go.Proofs.Ytchldbhnohicoaa.Pure
open Go.RowKit Go.Proofs.Ytchldbhnohicoaa.XA Go.Proofs.YtchldbhnohicoaaW.PrintWords Go.Proofs.YtchldbhnohicoaaW.PrintLast Go.Proofs.YtchldbhnohicoaaW.PrintMore
set_option linter.unusedSimpArgs false

/-- The last m octal digits of a number. -/
def oct (n : Int) : Nat → List Int
  | 0 => []
  | m + 1 => oct (n / 8) m ++ [48 + n % 8]
theorem oct_length (m : Nat) : ∀ n, (oct n m).length = m := by
  induction m with
  | zero => intro n; rfl
  | succ m ih => intro n; simp [oct, ih]
/-- How many octal digits a number has. -/
def digs (n : Int) : Nat := if h : 8 ≤ n then digs (n / 8) + 1 else 1
termination_by n.toNat
decreasing_by omega
theorem digs_pos (n : Int) : 1 ≤ digs n := by rw [digs]; split <;> omega
theorem digs_small {n : Int} (h : n < 8) : digs n = 1 := by rw [digs, dif_neg (by omega)]
theorem digs_big {n : Int} (h : 8 ≤ n) : digs n = digs (n / 8) + 1 := by rw [digs, dif_pos h]
theorem digs_le : ∀ (m : Nat) (n : Int), 0 ≤ n → (digs n ≤ m + 1 ↔ n < 8 ^ (m + 1))
  | 0, n, h0 => by
    by_cases h : 8 ≤ n
    · rw [digs_big h]
      have := digs_pos (n / 8)
      have e : (8 : Int) ^ (0 + 1) = 8 := by decide
      omega
    · rw [digs_small (by omega)]
      have e : (8 : Int) ^ (0 + 1) = 8 := by decide
      omega
  | m + 1, n, h0 => by
    have e : (8 : Int) ^ (m + 1 + 1) = 8 ^ (m + 1) * 8 := Int.pow_succ ..
    have hp : 0 < (8 : Int) ^ (m + 1) := Int.pow_pos (by omega)
    by_cases h : 8 ≤ n
    · rw [digs_big h]
      have := digs_le m (n / 8) (by omega)
      omega
    · rw [digs_small (by omega)]
      omega
theorem digs_le21 {n : Int} (h0 : 0 ≤ n) (h : n < 9223372036854775808) : digs n ≤ 21 := by
  have := (digs_le 20 n h0).2
  have e : (8 : Int) ^ (20 + 1) = 9223372036854775808 := by decide
  omega

theorem digits_l0 : ∀ (d : Nat) (n : Int) (k : Nat), 0 ≤ n → n ≤ 9223372036854775807 → digs n = d + 1 → k + d ≤ 1000 → Ev (fun r => octal_digits.l0 r n (k : Int)) ((k + d : Nat) : Int)
  | 0, n, k, h0, h1, hd, hk => by
    have hn : ¬ n ≥ 8 := by
      intro h
      rw [digs_big h] at hd
      have := digs_pos (n / 8)
      omega
    refine Ev.step (fun r => by rw [octal_digits.l0]) ?_
    simp only [hn, if_false]
    exact ev_some _
  | d + 1, n, k, h0, h1, hd, hk => by
    have hn : n ≥ 8 := by
      rcases Int.lt_or_le n 8 with h | h
      · rw [digs_small h] at hd; omega
      · exact h
    refine Ev.step (fun r => by rw [octal_digits.l0]) ?_
    simp only [hn, if_true, Int.tdiv_eq_ediv_of_nonneg h0, w64 (x := n / 8) (by omega) (by omega), wnext (i := k) (by omega)]
    have := digits_l0 d (n / 8) (k + 1) (by omega) (by omega) (by rw [digs_big hn] at hd; omega) (by omega)
    exact ev_eq this (by omega)
theorem digits_ev {n : Int} (h0 : 0 ≤ n) (h1 : n ≤ 9223372036854775807) : Ev (fun r => octal_digits.f r n) (digs n : Int) := by
  have hp := digs_pos n
  have hb := digs_le21 h0 (by omega)
  have := digits_l0 (digs n - 1) n 1 h0 h1 (by omega) (by omega)
  unfold octal_digits.f
  exact ev_eq this (by omega)
def fits (n w : Int) : Bool := decide (0 ≤ n ∧ 2 ≤ w ∧ (digs n : Int) < w)
theorem fits_ev {n w : Int} (h : -9223372036854775808 ≤ n) (h1 : n ≤ 9223372036854775807) : Ev (fun r => octal_Fits.f r n w) (fits n w) := by
  unfold octal_Fits.f
  by_cases h0 : n ≥ 0
  · by_cases h2 : w ≥ 2
    · simp only [h0, h2, if_true]
      refine ev_bind (digits_ev h0 h1) ?_
      exact ev_eq (ev_some _) (by simp [fits, show 0 ≤ n from h0, show 2 ≤ w from h2])
    · simp only [h0, h2, if_true, if_false]
      exact ev_eq (ev_some _) (by simp [fits]; omega)
  · simp only [h0, if_false]
    exact ev_eq (ev_some _) (by simp [fits]; omega)

theorem format_l0 : ∀ (m : Nat) (n : Int) (tl : List Int), 0 ≤ n → n ≤ 9223372036854775807 → m + tl.length ≤ 1000 →
    Ev (fun r => octal_Format.l0 r n (List.replicate m 0 ++ tl) ((m : Int) - 1)) (oct n m ++ tl, 0)
  | 0, n, tl, h0, h1, hm => by
    refine Ev.step (fun r => by rw [octal_Format.l0]) ?_
    simp only [show ¬ (((0 : Nat) : Int) - 1 ≥ 0) by omega, if_false]
    exact ev_some _
  | m + 1, n, tl, h0, h1, hm => by
    have hlen : ((List.replicate (m + 1) (0 : Int) ++ tl).length : Int) = ((m + 1 + tl.length : Nat) : Int) := by simp
    refine Ev.step (fun r => by rw [octal_Format.l0]) ?_
    rw [hlen]
    simp only [show ((m + 1 : Nat) : Int) - 1 = (m : Int) by omega, show ((m : Int) ≥ 0) by omega, show (0 : Int) ≤ (m : Int) by omega, show (m : Int) < ((m + 1 + tl.length : Nat) : Int) by omega, if_true, Int.toNat_natCast, Int.tdiv_eq_ediv_of_nonneg h0, Int.tmod_eq_emod_of_nonneg h0,
      w64 (x := n / 8) (by omega) (by omega), w64 (x := 48 + n % 8) (by omega) (by omega), show (48 + n % 8) % 256 = 48 + n % 8 by omega, w64 (x := (m : Int) - 1) (by omega) (by omega)]
    have hset : (List.replicate (m + 1) (0 : Int) ++ tl).set m (48 + n % 8) = List.replicate m 0 ++ ((48 + n % 8) :: tl) := by
      rw [List.replicate_succ', List.append_assoc, List.set_append_right _ _ (by simp)]
      simp
    rw [hset]
    refine ev_eq (format_l0 m (n / 8) ((48 + n % 8) :: tl) (by omega) (by omega) (by simp only [List.length_cons] at hm ⊢; omega)) ?_
    simp [oct]

/-- What Format answers. -/
def fmt (n w : Int) : List Int × Int := if w < 2 ∨ 24 < w then ([], 1) else if fits n w then (oct n (w.toNat - 1) ++ [0], 0) else ([], 20)
theorem format_ev {n w : Int} (h : -9223372036854775808 ≤ n) (h1 : n ≤ 9223372036854775807) : Ev (fun r => octal_Format.f r n w) (fmt n w) := by
  have bad : (w < 2 ∨ 24 < w) → Ev (fun r => octal_Format.j0 r n w true) (fmt n w) := fun hw => by
    refine Ev.step (fun r => by rw [octal_Format.j0]) ?_
    simp only [if_true]
    exact ev_eq (ev_some _) (by rw [fmt, if_pos hw])
  unfold octal_Format.f
  by_cases h2 : w < 2
  · simp only [h2, if_true]
    exact bad (Or.inl h2)
  · by_cases h3 : w > 24
    · simp only [h2, h3, if_false, decide_true]
      exact bad (Or.inr h3)
    · simp only [h2, h3, if_false, decide_false]
      have hw : ¬ (w < 2 ∨ 24 < w) := by omega
      refine Ev.step (fun r => by rw [octal_Format.j0]) ?_
      simp only [Bool.false_eq_true, if_false]
      refine ev_bind (fits_ev h h1) ?_
      by_cases hf : fits n w = true
      · have h0 : 0 ≤ n := by simp [fits] at hf; omega
        simp only [hf, if_true, show 0 ≤ w by omega, show w.toNat ≤ 281474976710656 by omega, w64 (x := w - 2) (by omega) (by omega)]
        have := format_l0 (w.toNat - 1) n [0] h0 h1 (by simp; omega)
        have e1 : List.replicate (w.toNat - 1) (0 : Int) ++ [0] = List.replicate w.toNat 0 := by
          rw [← List.replicate_succ', show w.toNat - 1 + 1 = w.toNat by omega]
        rw [e1, show ((w.toNat - 1 : Nat) : Int) - 1 = w - 2 by omega] at this
        exact ev_eq this (by rw [fmt, if_neg hw, if_pos hf])
      · simp only [hf]
        exact ev_eq (ev_some _) (by rw [fmt, if_neg hw, if_neg hf])

theorem oct_dig (m : Nat) : ∀ (n : Int) (c : Int), c ∈ oct n m → 48 ≤ c ∧ c ≤ 55 := by
  induction m with
  | zero => intro n c hc; cases hc
  | succ m ih =>
    intro n c hc
    rcases List.mem_append.1 hc with h | h
    · exact ih _ c h
    · simp at h; omega
theorem oct_bytes (m : Nat) (n : Int) : Bytes (oct n m) := fun c hc => by have := oct_dig m n c hc; omega
/-- Digits are read as their number. -/
theorem octs_oct (tl : List Int) : ∀ (m : Nat) (n : Int), 0 ≤ n → n < 9223372036854775808 → n < 8 ^ m → ∀ (more : List Int), octs (oct n m ++ more) 0 = octs more n
  | 0, n, h0, h1, hn, more => by
    have e : (8 : Int) ^ 0 = 1 := by decide
    have : n = 0 := by omega
    subst this
    rfl
  | m + 1, n, h0, h1, hn, more => by
    have e : (8 : Int) ^ (m + 1) = 8 ^ m * 8 := Int.pow_succ ..
    simp only [oct, List.append_assoc, List.singleton_append]
    rw [octs_oct tl m (n / 8) (by omega) (by omega) (by omega)]
    simp only [octs]
    rw [if_pos (by omega), if_neg (by omega)]
    congr 1
    omega
theorem fits_pow {n : Int} {w : Nat} (h : fits n w = true) : 0 ≤ n ∧ n < 8 ^ (w - 1) := by
  simp only [fits, decide_eq_true_eq] at h
  refine ⟨h.1, ?_⟩
  have := (digs_le (w - 2) n h.1).1 (by omega)
  rw [show w - 2 + 1 = w - 1 by omega] at this
  exact this
/-- What is written is read as it was. -/
theorem parse_fmt {n : Int} {w : Nat} (hw : 2 ≤ w) (h1 : n ≤ 9223372036854775807) (h : fits n w = true) : parse (oct n (w - 1) ++ [0]) = (n, 0) := by
  obtain ⟨h0, hn⟩ := fits_pow h
  have key : octs (oct n (w - 1) ++ [0]) 0 = (n, 0) := by
    rw [octs_oct [] (w - 1) n h0 (by omega) hn]
    simp [octs, trail]
  obtain ⟨c, cs, hc⟩ : ∃ c cs, oct n (w - 1) ++ [0] = c :: cs := by
    cases hh : oct n (w - 1) ++ [0] with
    | nil => simp at hh
    | cons c cs => exact ⟨c, cs, rfl⟩
  have hcd : 48 ≤ c ∧ c ≤ 55 := by
    refine oct_dig (w - 1) n c ?_
    have hl := oct_length (w - 1) n
    cases ho : oct n (w - 1) with
    | nil => rw [ho] at hl; simp at hl; omega
    | cons d ds => rw [ho] at hc; simp at hc; rw [hc.1]; simp
  rw [hc] at key ⊢
  simp only [parse]
  rw [if_neg (by omega)]
  simp only [blanks]
  rw [if_neg (by omega)]
  exact key
end Go.Proofs.Ytchldbhnohicoaa.Pure
