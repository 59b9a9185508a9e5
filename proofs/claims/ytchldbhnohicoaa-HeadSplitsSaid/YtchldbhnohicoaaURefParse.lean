/- Layer 2: the document's Parse comes to the same as the program's, in plain words. -/
import Derived.Test.YtchldbhnohicoaaUFormat
import Derived.Test.YtchldbhnohicoaaXA10
namespace Go.Proofs.Ytchldbhnohicoaa.Pure
open Go.RowKit Go.Proofs.Ytchldbhnohicoaa.XA Go.Proofs.YtchldbhnohicoaaW.PrintWords Go.Proofs.YtchldbhnohicoaaW.PrintLast Go.Proofs.YtchldbhnohicoaaW.PrintMore
set_option linter.unusedSimpArgs false

/-! big -/
theorem binf_pos {n : Int} {l : List Int} (hb : Bytes l) (hl : 8 ≤ l.length) (hn : 1 ≤ n) : binf n l = (0, 20) := by
  match l, hl with
  | b1 :: b2 :: b3 :: b4 :: b5 :: b6 :: b7 :: b8 :: rest, _ =>
    have h1 := hb b1 (by simp)
    have h2 := hb b2 (by simp)
    have h3 := hb b3 (by simp)
    have h4 := hb b4 (by simp)
    have h5 := hb b5 (by simp)
    have h6 := hb b6 (by simp)
    have h7 := hb b7 (by simp)
    simp only [binf]
    iterate 7 (split; · rfl)
    rw [if_pos (by omega)]
theorem binf_neg {n : Int} {l : List Int} (hb : Bytes l) (hl : 8 ≤ l.length) (hn : n ≤ -2) : binf n l = (0, 20) := by
  match l, hl with
  | b1 :: b2 :: b3 :: b4 :: b5 :: b6 :: b7 :: b8 :: rest, _ =>
    have h1 := hb b1 (by simp)
    have h2 := hb b2 (by simp)
    have h3 := hb b3 (by simp)
    have h4 := hb b4 (by simp)
    have h5 := hb b5 (by simp)
    have h6 := hb b6 (by simp)
    have h7 := hb b7 (by simp)
    simp only [binf]
    iterate 7 (split; · rfl)
    rw [if_pos (by omega)]

def sgn (minus : Bool) : Int := if minus then 255 else 0
def base (minus : Bool) : Int := if minus then -1 else 0
def told (r : Int × Int) : Int × Bool := if r.2 = 0 then (r.1, true) else (0, false)
theorem binf_sign (minus : Bool) (l : List Int) : binf (base minus) (sgn minus :: l) = binf (base minus) l := by
  cases minus <;> simp [binf, base, sgn]
theorem binf_other {minus : Bool} {c : Int} {l : List Int} (hb : Bytes (c :: l)) (hc : c ≠ sgn minus) (hl : 8 ≤ l.length) : binf (base minus) (c :: l) = (0, 20) := by
  have := hb.head
  cases minus
  · simp only [binf, base, sgn] at hc ⊢
    simp at hc ⊢
    exact binf_pos hb.tail hl (by omega)
  · simp only [binf, base, sgn] at hc ⊢
    simp at hc ⊢
    exact binf_neg hb.tail hl (by omega)
theorem binf_eight {minus : Bool} {b0 b1 b2 b3 b4 b5 b6 b7 : Int} (hb : Bytes [b0, b1, b2, b3, b4, b5, b6, b7]) :
    told (binf (base minus) [b0, b1, b2, b3, b4, b5, b6, b7]) = if ((decide (b0 ≥ 128)) != minus) = true then (0, false) else
      ((((((b0 * 256 + b1) * 256 + b2) * 256 + b3) - (if minus then 4294967296 else 0)) * 4294967296) + (((b4 * 256 + b5) * 256 + b6) * 256 + b7), true) := by
  have h0 := hb b0 (by simp)
  have h1 := hb b1 (by simp)
  have h2 := hb b2 (by simp)
  have h3 := hb b3 (by simp)
  have h4 := hb b4 (by simp)
  have h5 := hb b5 (by simp)
  have h6 := hb b6 (by simp)
  have h7 := hb b7 (by simp)
  cases minus
  · simp only [binf, base, Bool.false_eq_true, if_false, Bool.bne_false, decide_eq_true_eq]
    iterate 7 rw [if_neg (by omega)]
    by_cases h : b0 ≥ 128
    · rw [if_pos (by omega), if_pos h]
      rfl
    · rw [if_neg (by omega), if_neg h]
      simp only [told, if_true]
      congr 1
      omega
  · simp only [binf, base, if_true, Bool.bne_true, Bool.not_eq_true', decide_eq_false_iff_not]
    iterate 7 rw [if_neg (by omega)]
    by_cases h : b0 ≥ 128
    · rw [if_neg (by omega), if_neg (by omega)]
      simp only [told, if_true]
      congr 1
      omega
    · rw [if_pos (by omega), if_pos h]
      rfl

theorem big_l2_step {s : ByteArray} {minus : Bool} {kk i : Nat} {h l : Int} {r : Int × Bool} (hk : kk + 8 ≤ s.size) (hs : s.size ≤ 140737488355336) (hi : i < 4) (h0 : 0 ≤ h) (h1 : h < 16777216) (l0 : 0 ≤ l) (l1 : l < 16777216)
    (e : Ev (fun k => pannierref02_big.l2 k s minus (kk : Int) (h * 256 + rd (bl s) ((kk + i : Nat) : Int)) (l * 256 + rd (bl s) ((kk + 4 + i : Nat) : Int)) ((i + 1 : Nat) : Int)) r) :
    Ev (fun k => pannierref02_big.l2 k s minus (kk : Int) h l (i : Int)) r := by
  have hr : ∀ j : Nat, 0 ≤ rd (bl s) (j : Int) ∧ rd (bl s) (j : Int) ≤ 255 := fun j => by rw [← bt_bl]; exact bt_range s _
  have r1 := hr (kk + i)
  have r2 := hr (kk + 4 + i)
  refine Ev.step (fun k => by rw [pannierref02_big.l2]) ?_
  simp only [show (i : Int) < 4 by omega, if_true, show wrap64 ((kk : Int) + (i : Int)) = ((kk + i : Nat) : Int) by rw [w64 (by omega) (by omega)]; omega, show wrap64 ((kk : Int) + 4) = ((kk + 4 : Nat) : Int) by rw [w64 (by omega) (by omega)]; omega,
    show wrap64 (((kk + 4 : Nat) : Int) + (i : Int)) = ((kk + 4 + i : Nat) : Int) by rw [w64 (by omega) (by omega)]; omega, bt_bl,
    show (0 : Int) ≤ ((kk + i : Nat) : Int) by omega, show ((kk + i : Nat) : Int) < (s.size : Int) by omega, show (0 : Int) ≤ ((kk + 4 + i : Nat) : Int) by omega, show ((kk + 4 + i : Nat) : Int) < (s.size : Int) by omega, wnext (i := i) (by omega)]
  rw [w64 (x := rd (bl s) ((kk + i : Nat) : Int)) (by omega) (by omega), w64 (x := rd (bl s) ((kk + 4 + i : Nat) : Int)) (by omega) (by omega), w64 (x := h * 256) (by omega) (by omega), w64 (x := l * 256) (by omega) (by omega), w64 (x := h * 256 + _) (by omega) (by omega), w64 (x := l * 256 + _) (by omega) (by omega)]
  exact e

theorem big_l2 {s : ByteArray} {minus : Bool} {kk : Nat} {b0 b1 b2 b3 b4 b5 b6 b7 : Int} (hd : (bl s).drop kk = [b0, b1, b2, b3, b4, b5, b6, b7]) (hs : s.size ≤ 140737488355336) (hm : ¬ ((decide (b0 ≥ 128)) != minus) = true) :
    Ev (fun k => pannierref02_big.l2 k s minus (kk : Int) 0 0 0) (((((((b0 * 256 + b1) * 256 + b2) * 256 + b3) - (if minus then 4294967296 else 0)) * 4294967296) + (((b4 * 256 + b5) * 256 + b6) * 256 + b7), true)) := by
  have hb : Bytes [b0, b1, b2, b3, b4, b5, b6, b7] := hd ▸ (bl_bytes s).drop kk
  have h0 := hb b0 (by simp)
  have h1 := hb b1 (by simp)
  have h2 := hb b2 (by simp)
  have h3 := hb b3 (by simp)
  have h4 := hb b4 (by simp)
  have h5 := hb b5 (by simp)
  have h6 := hb b6 (by simp)
  have h7 := hb b7 (by simp)
  have hk : kk + 8 = s.size := by
    have := congrArg List.length hd
    rw [List.length_drop, bl_length] at this
    simp at this
    omega
  have d1 := drop_next hd
  have d2 := drop_next d1
  have d3 := drop_next d2
  have d4 := drop_next d3
  have d5 := drop_next d4
  have d6 := drop_next d5
  have d7 := drop_next d6
  have r0 : rd (bl s) ((kk + 0 : Nat) : Int) = b0 := rd_drop hd
  have r1 : rd (bl s) ((kk + 1 : Nat) : Int) = b1 := rd_drop d1
  have r2 : rd (bl s) ((kk + 2 : Nat) : Int) = b2 := rd_drop d2
  have r3 : rd (bl s) ((kk + 3 : Nat) : Int) = b3 := rd_drop d3
  have r4 : rd (bl s) ((kk + 4 + 0 : Nat) : Int) = b4 := rd_drop d4
  have r5 : rd (bl s) ((kk + 4 + 1 : Nat) : Int) = b5 := rd_drop d5
  have r6 : rd (bl s) ((kk + 4 + 2 : Nat) : Int) = b6 := rd_drop d6
  have r7 : rd (bl s) ((kk + 4 + 3 : Nat) : Int) = b7 := rd_drop d7
  refine big_l2_step (i := 0) (by omega) hs (by omega) (by omega) (by omega) (by omega) (by omega) ?_
  rw [r0, r4]
  refine big_l2_step (i := 1) (by omega) hs (by omega) (by omega) (by omega) (by omega) (by omega) ?_
  rw [r1, r5]
  refine big_l2_step (i := 2) (by omega) hs (by omega) (by omega) (by omega) (by omega) (by omega) ?_
  rw [r2, r6]
  refine big_l2_step (i := 3) (by omega) hs (by omega) (by omega) (by omega) (by omega) (by omega) ?_
  rw [r3, r7]
  refine Ev.step (fun k => by rw [pannierref02_big.l2]) ?_
  simp only [show ¬ (((3 + 1 : Nat) : Int) < 4) by omega, if_false]
  cases minus
  · simp only [Bool.bne_false, decide_eq_true_eq, Bool.false_eq_true, if_false] at hm ⊢
    rw [w64 (x := _ * 4294967296) (by omega) (by omega), w64 (by omega) (by omega)]
    exact ev_eq (ev_some _) (by congr 1; omega)
  · simp only [Bool.bne_true, Bool.not_eq_true', decide_eq_false_iff_not, if_true] at hm ⊢
    rw [w64 (x := _ - _) (by omega) (by omega), w64 (x := _ * 4294967296) (by omega) (by omega), w64 (by omega) (by omega)]
    exact ev_eq (ev_some _) (by congr 1; omega)

theorem big_l1 {s : ByteArray} {minus : Bool} (hs8 : 8 ≤ s.size) (hs : s.size ≤ 140737488355336) : ∀ (d i : Nat), i + d + 8 = s.size → binf (base minus) (bl s) = binf (base minus) ((bl s).drop i) →
    Ev (fun k => pannierref02_big.l1 k s minus (sgn minus) ((s.size : Int) - 8) (i : Int)) (told (binf (base minus) (bl s)))
  | 0, i, hi, he => by
    have e8 : ((bl s).drop i).length = 8 := by rw [List.length_drop, bl_length]; omega
    obtain ⟨b0, b1, b2, b3, b4, b5, b6, b7, hd⟩ : ∃ b0 b1 b2 b3 b4 b5 b6 b7, (bl s).drop i = [b0, b1, b2, b3, b4, b5, b6, b7] := by
      match h : (bl s).drop i, e8 with
      | [b0, b1, b2, b3, b4, b5, b6, b7], _ => exact ⟨b0, b1, b2, b3, b4, b5, b6, b7, rfl⟩
    have hb : Bytes [b0, b1, b2, b3, b4, b5, b6, b7] := hd ▸ (bl_bytes s).drop i
    rw [he, hd, binf_eight hb]
    refine Ev.step (fun k => by rw [pannierref02_big.l1]) ?_
    rw [show (s.size : Int) - 8 = (i : Int) by omega]
    simp only [Int.lt_irrefl, if_false, show (0 : Int) ≤ (i : Int) by omega, show (i : Int) < (s.size : Int) by omega, if_true, bt_bl, rd_drop hd]
    by_cases hm : ((decide (b0 ≥ 128)) != minus) = true
    · simp only [hm, if_true]
      exact ev_some _
    · rw [if_neg hm]
      simp only [hm, Bool.false_eq_true, if_false]
      exact big_l2 hd hs hm
  | d + 1, i, hi, he => by
    obtain ⟨c, cs, hd⟩ : ∃ c cs, (bl s).drop i = c :: cs := by
      match h : (bl s).drop i with
      | [] => exact absurd (drop_ge h) (by rw [bl_length]; omega)
      | c :: cs => exact ⟨c, cs, rfl⟩
    have hb : Bytes (c :: cs) := hd ▸ (bl_bytes s).drop i
    refine Ev.step (fun k => by rw [pannierref02_big.l1]) ?_
    simp only [show ((i : Int) < (s.size : Int) - 8) by omega, if_true, show (0 : Int) ≤ (i : Int) by omega, show (i : Int) < (s.size : Int) by omega, bt_bl, rd_drop hd, wnext (i := i) (by omega)]
    by_cases hc : c = sgn minus
    · simp only [hc, if_true]
      refine big_l1 hs8 hs d (i + 1) (by omega) ?_
      rw [he, hd, hc, binf_sign, drop_next hd]
    · simp only [hc, if_false]
      have hcl : cs.length + 1 = s.size - i := by
        have := congrArg List.length hd
        rw [List.length_drop, bl_length] at this
        simpa using this.symm
      exact ev_eq (ev_some _) (by rw [he, hd, binf_other hb hc (by omega)]; rfl)

theorem big_l0 {minus : Bool} : ∀ (d : Nat) (s : ByteArray), 8 - s.size = d → s.size ≤ 140737488355336 → Ev (fun k => pannierref02_big.l0 k s minus (sgn minus)) (told (binf (base minus) (bl s)))
  | 0, s, hd, hs => by
    refine Ev.step (fun k => by rw [pannierref02_big.l0]) ?_
    simp only [show ¬ ((s.size : Int) < 8) by omega, if_false, w64 (x := (s.size : Int) - 8) (by omega) (by omega)]
    exact big_l1 (by omega) hs (s.size - 8) 0 (by omega) rfl
  | d + 1, s, hd, hs => by
    have hsg : Bytes [sgn minus] := by intro x hx; simp at hx; subst hx; cases minus <;> simp [sgn]
    refine Ev.step (fun k => by rw [pannierref02_big.l0]) ?_
    simp only [show ((s.size : Int) < 8) by omega, if_true, Option.bind_some, strOfNums_size, List.length_singleton, show 1 + s.size ≤ 9223372036854775807 by omega]
    refine ev_eq (big_l0 d (strOfNums [sgn minus] ++ s) ?_ ?_) ?_
    · rw [ByteArray.size_append, strOfNums_size]; simp; omega
    · rw [ByteArray.size_append, strOfNums_size]; simp; omega
    · rw [bl_append, bl_strOfNums hsg, List.singleton_append, binf_sign]

theorem big_ev (s : ByteArray) (minus : Bool) (hs : s.size ≤ 140737488355336) : Ev (fun k => pannierref02_big.f k s minus) (told (binf (base minus) (bl s))) := by
  have h := big_l0 (minus := minus) _ s rfl hs
  unfold pannierref02_big.f
  cases minus
  · simp only [Bool.false_eq_true, if_false]
    exact Ev.step (fun k => by rw [pannierref02_big.j0]) (show Ev (fun k => pannierref02_big.l0 k s false 0) _ from h)
  · simp only [if_true]
    exact Ev.step (fun k => by rw [pannierref02_big.j0]) (show Ev (fun k => pannierref02_big.l0 k s true 255) _ from h)

/-! the octal digits -/
def dig (c : Int) : Prop := 48 ≤ c ∧ c ≤ 55
def run : List Int → Int → Option Int
  | [], acc => some acc
  | c :: cs, acc => if 1152921504606846976 ≤ acc then none else run cs (8 * acc + (c - 48))
def end8 (r : Option Int) (tl : List Int) : Int × Int := match r with
  | none => (0, 20)
  | some v => trail tl v
theorem octs_run : ∀ (ds tl : List Int) (acc : Int), (∀ c ∈ ds, dig c) → (∀ c cs, tl = c :: cs → ¬ dig c) → octs (ds ++ tl) acc = end8 (run ds acc) tl
  | [], tl, acc, _, ht => by
    cases tl with
    | nil => simp [octs, run, end8, trail]
    | cons c cs => simp only [List.nil_append, octs, run, end8]; rw [if_neg (show ¬ (48 ≤ c ∧ c ≤ 55) from ht c cs rfl)]
  | d :: ds, tl, acc, hd, ht => by
    simp only [List.cons_append, octs, run]
    rw [if_pos (show 48 ≤ d ∧ d ≤ 55 from hd d (by simp))]
    by_cases h : 1152921504606846976 ≤ acc
    · rw [if_pos h, if_pos h]; rfl
    · rw [if_neg h, if_neg h]
      exact octs_run ds tl _ (fun c hc => hd c (by simp [hc])) ht
theorem eight_pos (n : Nat) : (1 : Int) ≤ 8 ^ n := by
  have : 0 < (8 : Int) ^ n := Int.pow_pos (by omega)
  omega
theorem run_some : ∀ (ds : List Int) (acc : Int), 0 ≤ acc → (∀ c ∈ ds, dig c) → (acc + 1) * 8 ^ ds.length ≤ 9223372036854775808 → ∃ v, run ds acc = some v ∧ 0 ≤ v ∧ v < 9223372036854775808
  | [], acc, h0, _, h => ⟨acc, rfl, h0, by simp at h; omega⟩
  | d :: ds, acc, h0, hd, h => by
    have hp := eight_pos ds.length
    have hdd := hd d (by simp)
    simp only [dig] at hdd
    rw [List.length_cons, Int.pow_succ] at h
    have h2 : (acc + 1) * 8 ≤ (acc + 1) * (8 ^ ds.length * 8) := Int.mul_le_mul_of_nonneg_left (by omega) (by omega)
    simp only [run]
    rw [if_neg (by omega)]
    refine run_some ds _ (by omega) (fun c hc => hd c (by simp [hc])) ?_
    have h3 : (8 * acc + (d - 48) + 1) * 8 ^ ds.length ≤ ((acc + 1) * 8) * 8 ^ ds.length := Int.mul_le_mul_of_nonneg_right (by omega) (by omega)
    have h4 : (acc + 1) * (8 ^ ds.length * 8) = ((acc + 1) * 8) * 8 ^ ds.length := by rw [Int.mul_assoc, Int.mul_comm 8]
    omega
theorem run_none : ∀ (ds : List Int) (acc : Int), 0 ≤ acc → acc < 9223372036854775808 → (∀ c ∈ ds, dig c) → 9223372036854775808 ≤ acc * 8 ^ ds.length → run ds acc = none
  | [], acc, h0, h1, _, h => by simp at h; omega
  | d :: ds, acc, h0, h1, hd, h => by
    have hp := eight_pos ds.length
    have hdd := hd d (by simp)
    simp only [dig] at hdd
    simp only [run]
    by_cases hov : 1152921504606846976 ≤ acc
    · rw [if_pos hov]
    · rw [if_neg hov]
      refine run_none ds _ (by omega) (by omega) (fun c hc => hd c (by simp [hc])) ?_
      rw [List.length_cons, Int.pow_succ] at h
      have h3 : (acc * 8) * 8 ^ ds.length ≤ (8 * acc + (d - 48)) * 8 ^ ds.length := Int.mul_le_mul_of_nonneg_right (by omega) (by omega)
      have h4 : acc * (8 ^ ds.length * 8) = (acc * 8) * 8 ^ ds.length := by rw [Int.mul_assoc, Int.mul_comm 8]
      omega
theorem eight_mono {a b : Nat} (h : a ≤ b) : (8 : Int) ^ a ≤ 8 ^ b := by
  have := Nat.pow_le_pow_right (n := 8) (by omega) h
  exact_mod_cast this
/-- The first digit is no nought: just 21 digits fit. -/
theorem run_first {c : Int} {cs : List Int} (hd : ∀ x ∈ c :: cs, dig x) (hc : c ≠ 48) : (run (c :: cs) 0 = none ∧ 21 < (c :: cs).length) ∨ (∃ v, run (c :: cs) 0 = some v ∧ 0 ≤ v ∧ v < 9223372036854775808 ∧ (c :: cs).length ≤ 21) := by
  have hcc := hd c (by simp)
  simp only [dig] at hcc
  by_cases h : (c :: cs).length ≤ 21
  · right
    obtain ⟨v, h1, h2, h3⟩ := run_some (c :: cs) 0 (by omega) hd (by
      have := eight_mono h
      have e : (8 : Int) ^ 21 = 9223372036854775808 := by decide
      omega)
    exact ⟨v, h1, h2, h3, h⟩
  · left
    refine ⟨?_, by omega⟩
    simp only [run]
    rw [if_neg (by omega)]
    refine run_none cs _ (by omega) (by omega) (fun x hx => hd x (by simp [hx])) ?_
    have h1 := eight_mono (a := 21) (b := cs.length) (by simp only [List.length_cons] at h; omega)
    have e : (8 : Int) ^ 21 = 9223372036854775808 := by decide
    have h2 : 1 * 8 ^ cs.length ≤ (8 * 0 + (c - 48)) * 8 ^ cs.length := Int.mul_le_mul_of_nonneg_right (by omega) (by have := eight_pos cs.length; omega)
    omega

section
variable {s : ByteArray} (hs : s.size ≤ 140737488355328)
include hs
theorem ref_l4 {t : Nat} (ht : t ≤ s.size) : ∀ (ds : List Int) (i : Nat) (acc v : Int) (tl : List Int), 0 ≤ acc → (bl s).drop i = ds ++ tl → i + ds.length = t → (∀ c ∈ ds, dig c) → run ds acc = some v →
    Ev (fun k => pannierref02_Parse.l4 k s (t : Int) acc (i : Int)) (v, 0)
  | [], i, acc, v, tl, h0, hd, hi, _, hr => by
    simp only [run, Option.some.injEq] at hr
    subst hr
    refine Ev.step (fun k => by rw [pannierref02_Parse.l4]) ?_
    simp only [show ¬ ((i : Int) < (t : Int)) by simp at hi; omega, if_false]
    exact ev_some _
  | d :: ds, i, acc, v, tl, h0, hd, hi, hdig, hr => by
    have hdd := hdig d (by simp)
    simp only [dig] at hdd
    have hlt := drop_lt hd
    rw [bl_length] at hlt
    simp only [List.length_cons] at hi
    simp only [run] at hr
    by_cases hov : 1152921504606846976 ≤ acc
    · rw [if_pos hov] at hr; cases hr
    · rw [if_neg hov] at hr
      refine Ev.step (fun k => by rw [pannierref02_Parse.l4]) ?_
      simp only [show ((i : Int) < (t : Int)) by omega, if_true, show (0 : Int) ≤ (i : Int) by omega, show (i : Int) < (s.size : Int) by omega, bt_bl, rd_drop hd, wnext (i := i) (by omega), show (d - 48) % 256 = d - 48 by omega, w64 (x := 8 * acc) (by omega) (by omega), w64 (x := 8 * acc + (d - 48)) (by omega) (by omega)]
      exact ref_l4 ht ds (i + 1) _ v tl (by omega) (drop_next hd) (by omega) (fun c hc => hdig c (by simp [hc])) hr

theorem ref_l3 {t : Nat} (ht : t ≤ s.size) (tl : List Int) (htl : trail tl = fun acc => (acc, 0)) : ∀ (ds : List Int) (f : Nat), (bl s).drop f = ds ++ tl → f + ds.length = t → (∀ c ∈ ds, dig c) →
    Ev (fun k => pannierref02_Parse.l3 k s (f : Int) (t : Int)) (end8 (run ds 0) tl)
  | [], f, hd, hi, _ => by
    simp at hi
    refine Ev.step (fun k => by rw [pannierref02_Parse.l3]) ?_
    simp only [show ¬ ((f : Int) < (t : Int)) by omega, if_false]
    refine Ev.step (fun k => by rw [pannierref02_Parse.j8]) ?_
    simp only [w64 (x := (t : Int) - (f : Int)) (by omega) (by omega), show ¬ ((t : Int) - (f : Int) > 21) by omega, if_false]
    refine ev_eq (ref_l4 hs ht [] f 0 0 tl (by omega) hd (by simpa using hi) (by simp) rfl) ?_
    simp [end8, run, htl]
  | d :: ds, f, hd, hi, hdig => by
    have hdd := hdig d (by simp)
    have hlt := drop_lt hd
    rw [bl_length] at hlt
    have hi' := hi
    simp only [List.length_cons] at hi
    refine Ev.step (fun k => by rw [pannierref02_Parse.l3]) ?_
    simp only [show ((f : Int) < (t : Int)) by omega, if_true, show (0 : Int) ≤ (f : Int) by omega, show (f : Int) < (s.size : Int) by omega, bt_bl, rd_drop hd, wnext (i := f) (by omega)]
    by_cases h0 : d = 48
    · simp only [h0, if_true]
      refine ev_eq (ref_l3 ht tl htl ds (f + 1) (drop_next hd) (by omega) (fun c hc => hdig c (by simp [hc]))) ?_
      simp only [run]
      rw [if_neg (by omega)]
      rfl
    · simp only [h0, if_false]
      refine Ev.step (fun k => by rw [pannierref02_Parse.j8]) ?_
      rcases run_first hdig h0 with ⟨hr, hl⟩ | ⟨v, hr, hv0, hv1, hl⟩
      · simp only [List.length_cons] at hl
        simp only [w64 (x := (t : Int) - (f : Int)) (by omega) (by omega), show ((t : Int) - (f : Int) > 21) by omega, if_true]
        exact ev_eq (ev_some _) (by rw [hr]; rfl)
      · have hl' := hl
        simp only [List.length_cons] at hl
        simp only [w64 (x := (t : Int) - (f : Int)) (by omega) (by omega), show ¬ ((t : Int) - (f : Int) > 21) by omega, if_false]
        refine ev_eq (ref_l4 hs ht (d :: ds) f 0 v tl (by omega) hd hi' hdig hr) ?_
        rw [hr]
        simp [end8, htl]

theorem ref_l2 {f t : Nat} {R : Int × Int} : ∀ (rest : List Int) (i : Nat), (bl s).drop i = rest → ((rest.all (fun c => c == 0 || c == 32)) = true → Ev (fun k => pannierref02_Parse.l3 k s (f : Int) (t : Int)) R) →
    Ev (fun k => pannierref02_Parse.l2 k s (f : Int) (t : Int) (i : Int)) (if rest.all (fun c => c == 0 || c == 32) then R else (0, 20))
  | [], i, hd, e => by
    have hge := drop_ge hd
    rw [bl_length] at hge
    refine Ev.step (fun k => by rw [pannierref02_Parse.l2]) ?_
    simp only [show ¬ ((i : Int) < (s.size : Int)) by omega, if_false]
    exact ev_eq (e rfl) (by simp)
  | c :: cs, i, hd, e => by
    have hlt := drop_lt hd
    rw [bl_length] at hlt
    refine Ev.step (fun k => by rw [pannierref02_Parse.l2]) ?_
    simp only [show ((i : Int) < (s.size : Int)) by omega, if_true, show (0 : Int) ≤ (i : Int) by omega, bt_bl, rd_drop hd, wnext (i := i) (by omega)]
    by_cases h0 : c = 0
    · simp only [h0, if_true]
      refine ev_eq (ref_l2 (R := R) cs (i + 1) (drop_next hd) (fun h => e (by simpa [h0] using h))) (by simp [h0])
    · by_cases h1 : c = 32
      · simp only [h1, if_true, if_false, show ¬ ((32 : Int) = 0) by omega]
        refine ev_eq (ref_l2 (R := R) cs (i + 1) (drop_next hd) (fun h => e (by simpa [h1] using h))) (by simp [h1])
      · simp only [h0, h1, if_false]
        exact ev_eq (ev_some _) (by simp [h0, h1])

theorem ref_j5 {f t : Nat} (ds tl : List Int) (hf : (bl s).drop f = ds ++ tl) (ht : (bl s).drop t = tl) (hlen : f + ds.length = t) (hts : t ≤ s.size) (hdig : ∀ c ∈ ds, dig c) (htl : ∀ c cs, tl = c :: cs → ¬ dig c) :
    Ev (fun k => pannierref02_Parse.j5 k s (f : Int) (t : Int)) (octs ((bl s).drop f) 0) := by
  refine Ev.step (fun k => by rw [pannierref02_Parse.j5]) ?_
  refine ev_eq (ref_l2 hs (R := end8 (run ds 0) tl) tl t ht (fun h => ref_l3 hs hts tl (by funext acc; simp only [trail]; rw [if_pos h]) ds f hf hlen hdig)) ?_
  rw [hf, octs_run ds tl 0 hdig htl]
  by_cases h : tl.all (fun c => c == 0 || c == 32) = true
  · rw [if_pos h]
  · rw [if_neg h]
    cases run ds 0 with
    | none => rfl
    | some v => simp only [end8, trail]; rw [if_neg h]

theorem ref_l1 {f : Nat} : ∀ (rest : List Int) (t : Nat) (ds : List Int), (bl s).drop t = rest → (bl s).drop f = ds ++ rest → f + ds.length = t → t ≤ s.size → (∀ c ∈ ds, dig c) →
    Ev (fun k => pannierref02_Parse.l1 k s (f : Int) (t : Int)) (octs ((bl s).drop f) 0)
  | [], t, ds, ht, hf, hlen, hts, hdig => by
    have hge := drop_ge ht
    rw [bl_length] at hge
    refine Ev.step (fun k => by rw [pannierref02_Parse.l1]) ?_
    simp only [show ¬ ((t : Int) < (s.size : Int)) by omega, if_false]
    exact ref_j5 hs ds [] hf ht hlen hts hdig (by simp)
  | c :: cs, t, ds, ht, hf, hlen, hts, hdig => by
    have hlt := drop_lt ht
    rw [bl_length] at hlt
    refine Ev.step (fun k => by rw [pannierref02_Parse.l1]) ?_
    simp only [show ((t : Int) < (s.size : Int)) by omega, if_true, show (0 : Int) ≤ (t : Int) by omega, bt_bl, rd_drop ht, wnext (i := t) (by omega)]
    by_cases h1 : c ≥ 48
    · by_cases h2 : c ≤ 55
      · simp only [h1, h2, if_true]
        refine ref_l1 cs (t + 1) (ds ++ [c]) (drop_next ht) (by rw [hf]; simp) (by simp; omega) (by omega) ?_
        intro x hx
        rcases List.mem_append.1 hx with h | h
        · exact hdig x h
        · simp at h; subst h; exact ⟨h1, h2⟩
      · simp only [h1, h2, if_true, if_false]
        exact ref_j5 hs ds (c :: cs) hf ht hlen hts hdig (by intro c' cs' e; cases e; simp only [dig]; omega)
    · simp only [h1, if_false]
      exact ref_j5 hs ds (c :: cs) hf ht hlen hts hdig (by intro c' cs' e; cases e; simp only [dig]; omega)

theorem ref_l0 : ∀ (rest : List Int) (i : Nat), i ≤ s.size → (bl s).drop i = rest → Ev (fun k => pannierref02_Parse.l0 k s (i : Int)) (blanks rest)
  | [], i, hi, hd => by
    have hge := drop_ge hd
    rw [bl_length] at hge
    refine Ev.step (fun k => by rw [pannierref02_Parse.l0]) ?_
    simp only [show ¬ ((i : Int) < (s.size : Int)) by omega, if_false]
    refine Ev.step (fun k => by rw [pannierref02_Parse.j3]) ?_
    refine ev_eq (ref_l1 hs [] i [] hd (by simpa using hd) (by simp) hi (by simp)) ?_
    rw [hd]
    rfl
  | c :: cs, i, hi, hd => by
    have hlt := drop_lt hd
    rw [bl_length] at hlt
    refine Ev.step (fun k => by rw [pannierref02_Parse.l0]) ?_
    simp only [show ((i : Int) < (s.size : Int)) by omega, if_true, show (0 : Int) ≤ (i : Int) by omega, bt_bl, rd_drop hd, wnext (i := i) (by omega)]
    by_cases h0 : c = 32
    · simp only [h0, if_true]
      exact ev_eq (ref_l0 cs (i + 1) (by omega) (drop_next hd)) (by simp [blanks])
    · simp only [h0, if_false]
      refine Ev.step (fun k => by rw [pannierref02_Parse.j3]) ?_
      refine ev_eq (ref_l1 hs (c :: cs) i [] hd (by simpa using hd) (by simp) hi (by simp)) ?_
      rw [hd]
      simp only [blanks]
      rw [if_neg h0]

theorem refparse_ev : Ev (fun k => pannierref02_Parse.f k s) (parse (bl s)) := by
  have hj0 : Ev (fun k => pannierref02_Parse.j0 k s false) (blanks (bl s)) := by
    refine Ev.step (fun k => by rw [pannierref02_Parse.j0]) ?_
    simp only [Bool.false_eq_true, if_false]
    exact ref_l0 hs (bl s) 0 (by omega) rfl
  unfold pannierref02_Parse.f
  rw [toList_data]
  cases h : bl s with
  | nil =>
    have hz : s.size = 0 := by rw [← bl_length, h]; rfl
    have hd : s.data.toList = [] := List.eq_nil_of_length_eq_zero (by rw [Array.length_toList]; exact hz)
    simp only [hd, if_true]
    rw [h] at hj0
    exact hj0
  | cons c cs =>
    have hn : ¬ (s.data.toList = []) := by
      intro e
      simp [bl, e] at h
    have hz : s.size = cs.length + 1 := by rw [← bl_length, h]; rfl
    have hr : bt s 0 = c := by rw [bt_bl, h]; rfl
    have hcs : bl (s.extract 1 s.size) = cs := by
      have : bl (s.extract 1 s.size) = (bl s).drop 1 := by
        simp only [bl, ByteArray.data_extract, Array.toList_extract, List.extract_eq_take_drop, List.map_take, List.map_drop]
        rw [List.take_of_length_le]
        rw [List.length_drop, List.length_map, Array.length_toList]
        exact Nat.le_refl _
      rw [this, h]
      rfl
    simp only [hn, if_false, show (0 : Int) < (s.size : Int) by omega, if_true, hr]
    by_cases h128 : c ≥ 128
    · simp only [h128, decide_true]
      refine Ev.step (fun k => by rw [pannierref02_Parse.j0]) ?_
      simp only [if_true, show (0 : Int) < (s.size : Int) by omega, hr]
      have hp : parse (c :: cs) = binp c cs := by simp only [parse]; rw [if_pos h128]
      rw [hp]
      have hj1 : (c = 128 ∨ c = 255) → Ev (fun k => pannierref02_Parse.j1 k s false) (binp c cs) := fun hc => by
        refine Ev.step (fun k => by rw [pannierref02_Parse.j1]) ?_
        simp only [Bool.false_eq_true, if_false, show (1 : Int) ≤ (s.size : Int) by omega, show (0 : Int) < (s.size : Int) by omega, if_true, hr]
        refine ev_bind (big_ev (s.extract 1 s.size) (c == 255) (by simp only [ByteArray.size_extract]; omega)) ?_
        have hb : binf (base (c == 255)) cs = binp c cs := by
          rcases hc with rfl | rfl <;> simp [binp, base]
        rw [hcs, hb]
        by_cases hz : (binp c cs).2 = 0
        · simp only [told, hz, if_true]
          exact ev_eq (ev_some _) (by rw [← hz])
        · have : ∀ (l : List Int) (n : Int), (binf n l).2 = 0 ∨ binf n l = (0, 20) := by
            intro l
            induction l with
            | nil => intro n; left; rfl
            | cons b bs ih =>
              intro n
              simp only [binf]
              split
              · right; rfl
              · exact ih _
          simp only [told, hz, if_false]
          rw [← hb] at hz ⊢
          rcases this cs (base (c == 255)) with h1 | h1
          · exact absurd h1 hz
          · rw [h1]
            exact ev_some _
      by_cases h1 : c = 128
      · simp only [h1, if_true]
        rw [h1] at hj1
        exact hj1 (Or.inl rfl)
      · by_cases h2 : c = 255
        · simp only [h2, if_true, if_false, show ¬ ((255 : Int) = 128) by omega, show ((255 : Int) != 255) = false from rfl]
          rw [h2] at hj1
          exact hj1 (Or.inr rfl)
        · simp only [h1, if_false, show (c != 255) = true from bne_iff_ne.2 h2]
          refine Ev.step (fun k => by rw [pannierref02_Parse.j1]) ?_
          simp only [if_true]
          exact ev_eq (ev_some _) (by simp [binp, h1, h2])
    · simp only [h128, decide_false]
      rw [h] at hj0
      refine ev_eq hj0 ?_
      simp only [parse]
      rw [if_neg (by omega)]
end
end Go.Proofs.Ytchldbhnohicoaa.Pure
