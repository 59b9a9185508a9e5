/- What head.Encode writes, in plain words. -/
import Derived.Test.YtchldbhnohicoaaUHead
import Derived.Test.YtchldbhnohicoaaXA8
namespace Go.Proofs.Ytchldbhnohicoaa.Pure
open Go.RowKit Go.Proofs.Ytchldbhnohicoaa.XA Go.Proofs.YtchldbhnohicoaaW.PrintWords Go.Proofs.YtchldbhnohicoaaW.PrintLast Go.Proofs.YtchldbhnohicoaaW.PrintMore
set_option linter.unusedSimpArgs false
set_option linter.unusedVariables false

/-- Bytes laid over a row from a place on. -/
def lay (l : List Int) (i : Nat) (b : List Int) : List Int := l.take i ++ b ++ l.drop (i + b.length)
theorem lay_length {l b : List Int} {i : Nat} (h : i + b.length ≤ l.length) : (lay l i b).length = l.length := by
  simp only [lay, List.length_append, List.length_take, List.length_drop]
  omega
theorem lay_bytes {l b : List Int} (i : Nat) (hl : Bytes l) (hb : Bytes b) : Bytes (lay l i b) := ((hl.take _).append hb).append (hl.drop _)
theorem field_after {l b : List Int} {i p n : Nat} (h : i + b.length ≤ l.length) (ho : p + n ≤ i ∨ i + b.length ≤ p) : ((lay l i b).take (p + n)).drop p = (l.take (p + n)).drop p := by
  apply List.ext_getElem?
  intro j
  simp only [List.getElem?_drop, List.getElem?_take, lay]
  by_cases hj : p + j < p + n
  · rw [if_pos hj, if_pos hj]
    rcases ho with ho | ho
    · rw [List.append_assoc, List.getElem?_append_left (by rw [List.length_take]; omega), List.getElem?_take, if_pos (by omega)]
    · rw [List.getElem?_append_right (by simp only [List.length_append, List.length_take]; omega), List.getElem?_drop]
      congr 1
      simp only [List.length_append, List.length_take]
      omega
  · rw [if_neg hj, if_neg hj]
theorem field_own {l b : List Int} {i n : Nat} (h : i + b.length ≤ l.length) (hn : b.length ≤ n) : ((lay l i b).take (i + n)).drop i = b ++ (l.take (i + n)).drop (i + b.length) := by
  apply List.ext_getElem?
  intro j
  simp only [List.getElem?_drop, List.getElem?_take, lay]
  by_cases hb : j < b.length
  · rw [if_pos (by omega), List.append_assoc, List.getElem?_append_right (by simp only [List.length_take]; omega), List.getElem?_append_left (by simp only [List.length_take]; omega), List.getElem?_append_left hb]
    congr 1
    simp only [List.length_take]
    omega
  · rw [List.getElem?_append_right (l₁ := b) (by omega), List.getElem?_drop, List.getElem?_take]
    by_cases hj : i + j < i + n
    · rw [if_pos hj, if_pos (by omega), List.getElem?_append_right (by simp only [List.length_append, List.length_take]; omega), List.getElem?_drop]
      congr 1
      simp only [List.length_append, List.length_take]
      omega
    · rw [if_neg hj, if_neg (by omega)]

/-- Does a text fit into so many bytes? -/
def fitsT (s : ByteArray) (n : Int) : Bool := decide ((s.size : Int) ≤ n) && no0 (bl s)
theorem fitsT_size {s : ByteArray} {n : Int} (h : fitsT s n = true) : (s.size : Int) ≤ n := by
  simp only [fitsT, Bool.and_eq_true, decide_eq_true_eq] at h
  exact h.1
theorem fitsT_no0 {s : ByteArray} {n : Int} (h : fitsT s n = true) : no0 (bl s) = true := by
  simp only [fitsT, Bool.and_eq_true] at h
  exact h.2

section
variable {a0 a6 a7 a8 a9 a10 a11 : Int} {a1 a2 a3 a4 a5 : ByteArray}
theorem enc_l0_step {ys : List S61} {row : List Int} {i p q : Nat} {s : ByteArray} {r : List Int × Int} (hrow : row.length = 512) (hi : i < 5) (hy : ys.length = 5) (hs : rd_T61 ys (i : Int) = ⟨s, (p : Int), (q : Int)⟩) (hpq : p ≤ q) (hq : q < 512)
    (hno : fitsT s ((q : Int) - p) = false → r = ([], 2))
    (hyes : fitsT s ((q : Int) - p) = true → Ev (fun k => head_Encode.l0 k (lay row p (bl s)) ys 5 ((i + 1 : Nat) : Int) a0 a1 a2 a3 a4 a5 a6 a7 a8 a9 a10 a11) r) :
    Ev (fun k => head_Encode.l0 k row ys 5 (i : Int) a0 a1 a2 a3 a4 a5 a6 a7 a8 a9 a10 a11) r := by
  refine Ev.step (fun k => by rw [head_Encode.l0]) ?_
  simp only [hs, hy, hrow, show ((i : Int) < 5) by omega, show (0 : Int) ≤ (i : Int) by omega, show (i : Int) < ((5 : Nat) : Int) by omega, if_true, w64 (x := (q : Int) - p) (by omega) (by omega), headfits_f, Option.bind_some]
  change Ev (fun k => if fitsT s ((q : Int) - p) = true then _ else _) r
  by_cases h : fitsT s ((q : Int) - p) = true
  · have hsz := fitsT_size h
    have hbl := bl_length s
    simp only [h, if_true, show (0 : Int) ≤ (p : Int) by omega, show (p : Int) ≤ ((512 : Nat) : Int) by omega, show (p : Int) < ((512 : Nat) : Int) by omega, Int.toNat_natCast, show p + s.size ≤ 512 by omega, wnext (i := i) (by omega)]
    have := hyes h
    unfold lay at this
    rw [hbl] at this
    exact this
  · have h' : fitsT s ((q : Int) - p) = false := by simpa using h
    simp only [h', Bool.false_eq_true, if_false]
    rw [hno h']
    exact ev_some _
theorem enc_l1_step {ys : List S63} {row : List Int} {i p w : Nat} {n : Int} {r : List Int × Int} (hrow : row.length = 512) (hi : i < 5) (hy : ys.length = 5) (hs : rd_T63 ys (i : Int) = ⟨n, (p : Int), (w : Int)⟩) (hp : p + w ≤ 512) (hw : 2 ≤ w) (hw2 : w ≤ 20)
    (h0 : -9223372036854775808 ≤ n) (h1 : n ≤ 9223372036854775807)
    (hno : fits n w = false → r = ([], 20))
    (hyes : fits n w = true → Ev (fun k => head_Encode.l1 k (lay row p (oct n (w - 1) ++ [0])) ys 5 ((i + 1 : Nat) : Int) a0 a1 a2 a3 a4 a5 a6 a7 a8 a9 a10 a11) r) :
    Ev (fun k => head_Encode.l1 k row ys 5 (i : Int) a0 a1 a2 a3 a4 a5 a6 a7 a8 a9 a10 a11) r := by
  refine Ev.step (fun k => by rw [head_Encode.l1]) ?_
  simp only [hs, hy, hrow, show ((i : Int) < 5) by omega, show (0 : Int) ≤ (i : Int) by omega, show (i : Int) < ((5 : Nat) : Int) by omega, if_true]
  refine ev_bind (format_ev (n := n) (w := (w : Int)) h0 h1) ?_
  by_cases h : fits n w = true
  · have hf : fmt n (w : Int) = (oct n (w - 1) ++ [0], 0) := by
      simp only [fmt, h]
      rw [if_neg (by omega)]
      simp
    have hl : (oct n (w - 1) ++ [0]).length = w := by rw [List.length_append, oct_length]; simp; omega
    have := hyes h
    unfold lay at this
    rw [hf]
    simp only [if_true, show (0 : Int) ≤ (p : Int) by omega, show (p : Int) ≤ ((512 : Nat) : Int) by omega, show (p : Int) < ((512 : Nat) : Int) by omega, Int.toNat_natCast, hl, show p + w ≤ 512 by omega, wnext (i := i) (by omega)]
    rw [hl] at this
    exact this
  · have h' : fits n w = false := by simpa using h
    have hf : fmt n (w : Int) = ([], 20) := by
      simp only [fmt, h']
      rw [if_neg (by omega)]
      simp
    rw [hf]
    simp only [show ¬ ((20 : Int) = 0) by omega, if_false]
    rw [hno h']
    exact ev_some _
end
end Go.Proofs.Ytchldbhnohicoaa.Pure
