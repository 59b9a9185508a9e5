/- joined by merge_u.py: UDecode, UEncode, UEncode2, UHolds -/
import Derived.Test.YtchldbhnohicoaaUHead
import Derived.Test.YtchldbhnohicoaaEDecode
import Derived.Test.YtchldbhnohicoaaXA8
/- What head.Decode answers, in plain words. -/
namespace Go.Proofs.Ytchldbhnohicoaa.Pure
open Go.RowKit Go.Proofs.Ytchldbhnohicoaa.XA Go.Proofs.YtchldbhnohicoaaW.PrintWords Go.Proofs.YtchldbhnohicoaaW.PrintLast Go.Proofs.YtchldbhnohicoaaW.PrintMore
set_option linter.unusedSimpArgs false
set_option linter.unusedVariables false

def fl (l : List Int) (i j : Nat) : List Int := (l.take j).drop i
theorem fl_bytes {l : List Int} (hb : Bytes l) (i j : Nat) : Bytes (fl l i j) := (hb.take _).drop _
theorem fl_length (l : List Int) {i j : Nat} (h : j ≤ l.length) : (fl l i j).length = j - i := by simp only [fl, List.length_drop, List.length_take]; omega
theorem fl_len_le (l : List Int) (i j : Nat) : (fl l i j).length ≤ j := by simp only [fl, List.length_drop, List.length_take]; omega
/-- A field's text. -/
def tx (l : List Int) : ByteArray := strOfNums (upto0 l)
theorem upto0_bytes {l : List Int} (hb : Bytes l) : Bytes (upto0 l) := by
  induction l with
  | nil => intro x hx; simp [upto0] at hx
  | cons c cs ih =>
    intro x hx
    rw [upto0] at hx
    split at hx
    · simp at hx
    · rcases List.mem_cons.1 hx with rfl | hx
      · exact hb.head
      · exact ih hb.tail x hx
theorem text_tx {l : List Int} (hb : Bytes l) (hl : l.length ≤ 1000000) : head_text.f l = some (tx l) := by
  obtain ⟨t, ht, e⟩ := text_f hb hl
  rw [ht]
  congr 1
  apply bl_inj
  rw [e, tx, bl_strOfNums (upto0_bytes hb)]
def fr (i : Nat) : Nat := head_Decode.fr i
def dnums (l : List Int) : Nat → Nat → List Int → List Int × Int
  | 0, _, ns => (ns, 0)
  | n + 1, i, ns => if (parse (fl l (fr i) (fr (i + 1)))).2 = 0 then dnums l n (i + 1) (ns.set i (parse (fl l (fr i) (fr (i + 1)))).1) else (ns, (parse (fl l (fr i) (fr (i + 1)))).2)
def mg (l : List Int) : Nat := if fl l 257 265 = [117, 115, 116, 97, 114, 0, 48, 48] then 1 else if fl l 257 265 = [117, 115, 116, 97, 114, 32, 32, 0] then 2 else 0
abbrev DR := Int × ByteArray × ByteArray × ByteArray × ByteArray × ByteArray × Int × Int × Int × Int × Int × Int × Int
def dtail (l : List Int) (ns : List Int) : DR :=
  ((mg l : Int), tx (fl l 0 100), tx (fl l 157 257), if mg l = 1 then tx (fl l 345 500) else ⟨#[]⟩, if mg l = 0 then ⟨#[]⟩ else tx (fl l 265 297), if mg l = 0 then ⟨#[]⟩ else tx (fl l 297 329), rd l 156, ns.getD 0 0, ns.getD 1 0, ns.getD 2 0, ns.getD 3 0, ns.getD 4 0, 0)
def dbad (e : Int) : DR := (0, ⟨#[]⟩, ⟨#[]⟩, ⟨#[]⟩, ⟨#[]⟩, ⟨#[]⟩, 0, 0, 0, 0, 0, 0, e)
def dbody (l : List Int) : DR := if (dnums l 5 0 [0, 0, 0, 0, 0]).2 = 0 then dtail l (dnums l 5 0 [0, 0, 0, 0, 0]).1 else dbad (dnums l 5 0 [0, 0, 0, 0, 0]).2
def dec (l : List Int) : DR := if l.length = 512 then (if rightB l = true then dbody l else dbad 50) else dbad 1
theorem nums_ev {l : List Int} (hb : Bytes l) : ∀ n i ns, Ev (fun k => head_Decode.nums k l n i ns) (dnums l n i ns)
  | 0, i, ns => ev_some _
  | n + 1, i, ns => by
    simp only [head_Decode.nums]
    have hl := fl_len_le l (fr i) (fr (i + 1))
    have hfr : fr (i + 1) ≤ 148 := by
      unfold fr head_Decode.fr
      match i with
      | 0 => decide
      | 1 => decide
      | 2 => decide
      | 3 => decide
      | 4 => decide
      | n + 5 => exact Nat.zero_le _
    refine ev_bind (parse_ev (fl l (fr i) (fr (i + 1))) (fl_bytes hb _ _) (by omega)) ?_
    rw [dnums]
    by_cases h : (parse (fl l (fr i) (fr (i + 1)))).2 = 0
    · simp only [if_pos h]
      exact nums_ev hb n (i + 1) _
    · simp only [if_neg h]
      exact ev_some _
theorem strOfNums_lit {l : List Int} (hb : Bytes l) (m : List UInt8) : (strOfNums l).toList = m ↔ l = nums8 m := by
  constructor
  · intro h
    have : bl (strOfNums l) = nums8 m := by rw [bl_nums8, ← toList_data, h]
    rw [bl_strOfNums hb] at this
    exact this
  · intro h
    rw [toList_data]
    have : nums8 (strOfNums l).data.toList = nums8 m := by rw [← bl_nums8, bl_strOfNums hb]; exact h
    have hi : Function.Injective (fun b : UInt8 => (b.toNat : Int)) := fun a b hab => UInt8.toNat_inj.1 (Int.ofNat_inj.1 hab)
    exact (List.map_inj_right (fun a b hab => hi hab)).1 this
theorem magic_iff {l : List Int} (hb : Bytes l) (m : List UInt8) : ((strOfNums (head_Decode.fld l 257 265)).toList = m) = (fl l 257 265 = nums8 m) := propext (strOfNums_lit (fl_bytes hb 257 265) m)
theorem tail_f {l : List Int} (hb : Bytes l) (ns : List Int) : head_Decode.tail l (tx (fl l 0 100)) (tx (fl l 157 257)) (rd l 156) ns = some (dtail l ns) := by
  have t1 : head_text.f (head_Decode.fld l 345 500) = some (tx (fl l 345 500)) := text_tx (fl_bytes hb _ _) (Nat.le_trans (show (head_Decode.fld l 345 500).length ≤ 500 from fl_len_le l 345 500) (by omega))
  have t2 : head_text.f (head_Decode.fld l 265 297) = some (tx (fl l 265 297)) := text_tx (fl_bytes hb _ _) (Nat.le_trans (show (head_Decode.fld l 265 297).length ≤ 297 from fl_len_le l 265 297) (by omega))
  have t3 : head_text.f (head_Decode.fld l 297 329) = some (tx (fl l 297 329)) := text_tx (fl_bytes hb _ _) (Nat.le_trans (show (head_Decode.fld l 297 329).length ≤ 329 from fl_len_le l 297 329) (by omega))
  unfold head_Decode.tail head_Decode.ends
  simp only [magic_iff hb, t1, t2, t3, Option.bind_some]
  have e1 : nums8 [117, 115, 116, 97, 114, 0, 48, 48] = [117, 115, 116, 97, 114, 0, 48, 48] := rfl
  have e2 : nums8 [117, 115, 116, 97, 114, 32, 32, 0] = [117, 115, 116, 97, 114, 32, 32, 0] := rfl
  rw [e1, e2]
  unfold dtail mg
  by_cases h1 : fl l 257 265 = [117, 115, 116, 97, 114, 0, 48, 48]
  · simp only [if_pos h1]
    rfl
  · simp only [if_neg h1]
    by_cases h2 : fl l 257 265 = [117, 115, 116, 97, 114, 32, 32, 0]
    · simp only [if_pos h2]
      rfl
    · simp only [if_neg h2]
      rfl
theorem decode_ev {l : List Int} (hb : Bytes l) (hl : l.length ≤ 1000000) : Ev (fun k => head_Decode.f k l) (dec l) := by
  unfold head_Decode.f dec
  by_cases h : l.length = 512
  · simp only [show (l.length : Int) = 512 by omega, if_true, if_pos h]
    refine ev_bind (right_ev hb hl) ?_
    by_cases hr : rightB l = true
    · simp only [if_pos hr]
      have t1 : head_text.f (head_Decode.fld l 0 100) = some (tx (fl l 0 100)) := text_tx (fl_bytes hb _ _) (Nat.le_trans (show (head_Decode.fld l 0 100).length ≤ 100 from fl_len_le l 0 100) (by omega))
      have t2 : head_text.f (head_Decode.fld l 157 257) = some (tx (fl l 157 257)) := text_tx (fl_bytes hb _ _) (Nat.le_trans (show (head_Decode.fld l 157 257).length ≤ 257 from fl_len_le l 157 257) (by omega))
      simp only [t1, t2, Option.bind_some]
      unfold head_Decode.after
      refine ev_bind (nums_ev hb (5 - 0) 0 [0, 0, 0, 0, 0]) ?_
      unfold dbody
      by_cases hn : (dnums l 5 0 [0, 0, 0, 0, 0]).2 = 0
      · simp only [Nat.sub_zero, if_pos hn, tail_f hb]
        exact ev_some _
      · simp only [Nat.sub_zero, if_neg hn]
        exact ev_some _
    · simp only [if_neg hr]
      exact ev_some _
  · simp only [show ¬ (l.length : Int) = 512 by omega, if_false, if_neg h]
    exact ev_some _
end Go.Proofs.Ytchldbhnohicoaa.Pure

/- What head.Encode writes, in plain words. -/
namespace Go.Proofs.Ytchldbhnohicoaa.Pure
open Go.RowKit Go.Proofs.Ytchldbhnohicoaa.XA Go.Proofs.YtchldbhnohicoaaW.PrintWords Go.Proofs.YtchldbhnohicoaaW.PrintLast Go.Proofs.YtchldbhnohicoaaW.PrintMore
set_option linter.unusedSimpArgs false
set_option linter.unusedVariables false

/-- Bytes laid over a row from a place on. -/
def lay (l : List Int) (i : Nat) (b : List Int) : List Int := l.take i ++ b ++ l.drop (i + b.length)
theorem lay_length {l b : List Int} {i : Nat} (h : i + b.length ≤ l.length) : (lay l i b).length = l.length := by
  simp only [lay, List.length_append, List.length_take, List.length_drop]
  omega
theorem lay_bytes {l b : List Int} (i : Nat) (hl : Bytes l) (hb : Bytes b) : Bytes (lay l i b) := ((hl.take _).append hb).append (hl.drop _)
theorem field_after {l b : List Int} {i p n : Nat} (h : i + b.length ≤ l.length) (ho : p + n ≤ i ∨ i + b.length ≤ p) : ((lay l i b).take (p + n)).drop p = (l.take (p + n)).drop p := by
  apply List.ext_getElem?
  intro j
  simp only [List.getElem?_drop, List.getElem?_take, lay]
  by_cases hj : p + j < p + n
  · rw [if_pos hj, if_pos hj]
    rcases ho with ho | ho
    · rw [List.append_assoc, List.getElem?_append_left (by rw [List.length_take]; omega), List.getElem?_take, if_pos (by omega)]
    · rw [List.getElem?_append_right (by simp only [List.length_append, List.length_take]; omega), List.getElem?_drop]
      congr 1
      simp only [List.length_append, List.length_take]
      omega
  · rw [if_neg hj, if_neg hj]
theorem field_own {l b : List Int} {i n : Nat} (h : i + b.length ≤ l.length) (hn : b.length ≤ n) : ((lay l i b).take (i + n)).drop i = b ++ (l.take (i + n)).drop (i + b.length) := by
  apply List.ext_getElem?
  intro j
  simp only [List.getElem?_drop, List.getElem?_take, lay]
  by_cases hb : j < b.length
  · rw [if_pos (by omega), List.append_assoc, List.getElem?_append_right (by simp only [List.length_take]; omega), List.getElem?_append_left (by simp only [List.length_take]; omega), List.getElem?_append_left hb]
    congr 1
    simp only [List.length_take]
    omega
  · rw [List.getElem?_append_right (l₁ := b) (by omega), List.getElem?_drop, List.getElem?_take]
    by_cases hj : i + j < i + n
    · rw [if_pos hj, if_pos (by omega), List.getElem?_append_right (by simp only [List.length_append, List.length_take]; omega), List.getElem?_drop]
      congr 1
      simp only [List.length_append, List.length_take]
      omega
    · rw [if_neg hj, if_neg (by omega)]

/-- Does a text fit into so many bytes? -/
def fitsT (s : ByteArray) (n : Int) : Bool := decide ((s.size : Int) ≤ n) && no0 (bl s)
theorem fitsT_size {s : ByteArray} {n : Int} (h : fitsT s n = true) : (s.size : Int) ≤ n := by
  simp only [fitsT, Bool.and_eq_true, decide_eq_true_eq] at h
  exact h.1
theorem fitsT_no0 {s : ByteArray} {n : Int} (h : fitsT s n = true) : no0 (bl s) = true := by
  simp only [fitsT, Bool.and_eq_true] at h
  exact h.2

section
variable {a0 a6 a7 a8 a9 a10 a11 : Int} {a1 a2 a3 a4 a5 : ByteArray}
theorem enc_l0_step {ys : List S61} {row : List Int} {i p q : Nat} {s : ByteArray} {r : List Int × Int} (hrow : row.length = 512) (hi : i < 5) (hy : ys.length = 5) (hs : rd_T61 ys (i : Int) = ⟨s, (p : Int), (q : Int)⟩) (hpq : p ≤ q) (hq : q < 512)
    (hno : fitsT s ((q : Int) - p) = false → r = ([], 2))
    (hyes : fitsT s ((q : Int) - p) = true → Ev (fun k => head_Encode.l0 k (lay row p (bl s)) ys 5 ((i + 1 : Nat) : Int) a0 a1 a2 a3 a4 a5 a6 a7 a8 a9 a10 a11) r) :
    Ev (fun k => head_Encode.l0 k row ys 5 (i : Int) a0 a1 a2 a3 a4 a5 a6 a7 a8 a9 a10 a11) r := by
  refine Ev.step (fun k => by rw [head_Encode.l0]) ?_
  simp only [hs, hy, hrow, show ((i : Int) < 5) by omega, show (0 : Int) ≤ (i : Int) by omega, show (i : Int) < ((5 : Nat) : Int) by omega, if_true, w64 (x := (q : Int) - p) (by omega) (by omega), headfits_f, Option.bind_some]
  change Ev (fun k => if fitsT s ((q : Int) - p) = true then _ else _) r
  by_cases h : fitsT s ((q : Int) - p) = true
  · have hsz := fitsT_size h
    have hbl := bl_length s
    simp only [h, if_true, show (0 : Int) ≤ (p : Int) by omega, show (p : Int) ≤ ((512 : Nat) : Int) by omega, show (p : Int) < ((512 : Nat) : Int) by omega, Int.toNat_natCast, show p + s.size ≤ 512 by omega, wnext (i := i) (by omega)]
    have := hyes h
    unfold lay at this
    rw [hbl] at this
    exact this
  · have h' : fitsT s ((q : Int) - p) = false := by simpa using h
    simp only [h', Bool.false_eq_true, if_false]
    rw [hno h']
    exact ev_some _
theorem enc_l1_step {ys : List S63} {row : List Int} {i p w : Nat} {n : Int} {r : List Int × Int} (hrow : row.length = 512) (hi : i < 5) (hy : ys.length = 5) (hs : rd_T63 ys (i : Int) = ⟨n, (p : Int), (w : Int)⟩) (hp : p + w ≤ 512) (hw : 2 ≤ w) (hw2 : w ≤ 20)
    (h0 : -9223372036854775808 ≤ n) (h1 : n ≤ 9223372036854775807)
    (hno : fits n w = false → r = ([], 20))
    (hyes : fits n w = true → Ev (fun k => head_Encode.l1 k (lay row p (oct n (w - 1) ++ [0])) ys 5 ((i + 1 : Nat) : Int) a0 a1 a2 a3 a4 a5 a6 a7 a8 a9 a10 a11) r) :
    Ev (fun k => head_Encode.l1 k row ys 5 (i : Int) a0 a1 a2 a3 a4 a5 a6 a7 a8 a9 a10 a11) r := by
  refine Ev.step (fun k => by rw [head_Encode.l1]) ?_
  simp only [hs, hy, hrow, show ((i : Int) < 5) by omega, show (0 : Int) ≤ (i : Int) by omega, show (i : Int) < ((5 : Nat) : Int) by omega, if_true]
  refine ev_bind (format_ev (n := n) (w := (w : Int)) h0 h1) ?_
  by_cases h : fits n w = true
  · have hf : fmt n (w : Int) = (oct n (w - 1) ++ [0], 0) := by
      simp only [fmt, h]
      rw [if_neg (by omega)]
      simp
    have hl : (oct n (w - 1) ++ [0]).length = w := by rw [List.length_append, oct_length]; simp; omega
    have := hyes h
    unfold lay at this
    rw [hf]
    simp only [if_true, show (0 : Int) ≤ (p : Int) by omega, show (p : Int) ≤ ((512 : Nat) : Int) by omega, show (p : Int) < ((512 : Nat) : Int) by omega, Int.toNat_natCast, hl, show p + w ≤ 512 by omega, wnext (i := i) (by omega)]
    rw [hl] at this
    exact this
  · have h' : fits n w = false := by simpa using h
    have hf : fmt n (w : Int) = ([], 20) := by
      simp only [fmt, h']
      rw [if_neg (by omega)]
      simp
    rw [hf]
    simp only [show ¬ ((20 : Int) = 0) by omega, if_false]
    rw [hno h']
    exact ev_some _
end
end Go.Proofs.Ytchldbhnohicoaa.Pure

/- head.Encode: the row that it seals, or why there is none. -/
namespace Go.Proofs.Ytchldbhnohicoaa.Pure
open Go.RowKit Go.Proofs.Ytchldbhnohicoaa.XA Go.Proofs.YtchldbhnohicoaaW.PrintWords Go.Proofs.YtchldbhnohicoaaW.PrintLast Go.Proofs.YtchldbhnohicoaaW.PrintMore
set_option linter.unusedSimpArgs false
set_option linter.unusedVariables false

def num (n : Int) (w : Nat) : List Int := oct n (w - 1) ++ [0]
def textsRow (a1 a2 a3 a4 a5 : ByteArray) : List Int := lay (lay (lay (lay (lay (List.replicate 512 0) 0 (bl a1)) 157 (bl a2)) 265 (bl a4)) 297 (bl a5)) 345 (bl a3)
def numsRow (row : List Int) (a7 a8 a9 a10 a11 : Int) : List Int := lay (lay (lay (lay (lay row 100 (num a7 8)) 108 (num a8 8)) 116 (num a9 8)) 124 (num a10 12)) 136 (num a11 12)
def magicRow (row : List Int) (a6 : Int) : List Int := lay (row.set 156 a6) 257 [117, 115, 116, 97, 114, 0, 48, 48]
def bareRow (a1 a2 a3 a4 a5 : ByteArray) (a6 a7 a8 a9 a10 a11 : Int) : List Int := magicRow (numsRow (textsRow a1 a2 a3 a4 a5) a7 a8 a9 a10 a11) a6
def textsFit (a1 a2 a3 a4 a5 : ByteArray) : Bool := fitsT a1 100 && (fitsT a2 100 && (fitsT a4 31 && (fitsT a5 31 && fitsT a3 155)))
def numsFit (a7 a8 a9 a10 a11 : Int) : Bool := fits a7 8 && (fits a8 8 && (fits a9 8 && (fits a10 12 && fits a11 12)))
def encoded (a1 a2 a3 a4 a5 : ByteArray) (a6 a7 a8 a9 a10 a11 : Int) : List Int × Int :=
  if textsFit a1 a2 a3 a4 a5 = true then (if numsFit a7 a8 a9 a10 a11 = true then (sealed (bareRow a1 a2 a3 a4 a5 a6 a7 a8 a9 a10 a11), 0) else ([], 20)) else ([], 2)

theorem num_length (n : Int) {w : Nat} (h : 1 ≤ w) : (num n w).length = w := by rw [num, List.length_append, oct_length]; simp; omega
theorem num_bytes (n : Int) (w : Nat) : Bytes (num n w) := (oct_bytes _ n).append (by intro c hc; simp at hc; omega)
theorem magic_bytes : Bytes [117, 115, 116, 97, 114, 0, 48, 48] := by intro c hc; simp at hc; omega
theorem zeros_bytes (n : Nat) : Bytes (List.replicate n (0 : Int)) := fun x hx => by have := List.eq_of_mem_replicate hx; omega

section
variable {a0 a6 a7 a8 a9 a10 a11 : Int} {a1 a2 a3 a4 a5 : ByteArray}
theorem encode_tail {row : List Int} (hrow : row.length = 512) (hb : Bytes row) (h0 : 0 ≤ a6) (h1 : a6 ≤ 255) (ys : List S63) :
    Ev (fun k => head_Encode.l1 k row ys 5 5 a0 a1 a2 a3 a4 a5 a6 a7 a8 a9 a10 a11) (sealed (magicRow row a6), 0) := by
  refine Ev.step (fun k => by rw [head_Encode.l1]) ?_
  have hs : (row.set 156 a6).length = 512 := by rw [List.length_set]; exact hrow
  have hsb : Bytes (row.set 156 a6) := bytes_set hb 156 h0 (by omega)
  have hm : bytesOf (⟨#[117, 115, 116, 97, 114, 0, 48, 48]⟩ : ByteArray) = [117, 115, 116, 97, 114, 0, 48, 48] := rfl
  have hz : (⟨#[117, 115, 116, 97, 114, 0, 48, 48]⟩ : ByteArray).size = 8 := rfl
  have e : (row.set 156 a6).take 257 ++ [117, 115, 116, 97, 114, 0, 48, 48] ++ (row.set 156 a6).drop (257 + 8) = magicRow row a6 := rfl
  have hl : (magicRow row a6).length = 512 := by rw [magicRow, lay_length (by rw [hs]; simp)]; exact hs
  have hmb : Bytes (magicRow row a6) := lay_bytes 257 hsb magic_bytes
  simp only [show ¬ ((5 : Int) < 5) by omega, if_false, hrow, show (156 : Int) < ((512 : Nat) : Int) by omega, if_true, Option.bind_some, show (156 : Int).toNat = 156 from rfl, show (257 : Int) ≤ ((512 : Nat) : Int) by omega, show (257 : Int) < ((512 : Nat) : Int) by omega, hs, hm, hz, show 257 + 8 ≤ 512 by omega, e,
    seal_f hmb hl]
  exact ev_some _
theorem encode_nums {row : List Int} (hrow : row.length = 512) (hb : Bytes row) (h0 : 0 ≤ a6) (h1 : a6 ≤ 255)
    (h7 : -9223372036854775808 ≤ a7 ∧ a7 ≤ 9223372036854775807) (h8 : -9223372036854775808 ≤ a8 ∧ a8 ≤ 9223372036854775807) (h9 : -9223372036854775808 ≤ a9 ∧ a9 ≤ 9223372036854775807) (h10 : -9223372036854775808 ≤ a10 ∧ a10 ≤ 9223372036854775807) (h11 : -9223372036854775808 ≤ a11 ∧ a11 ≤ 9223372036854775807)
    (ys : List S63) (hys : [(⟨a7, 100, 8⟩ : S63), (⟨a8, 108, 8⟩ : S63), (⟨a9, 116, 8⟩ : S63), (⟨a10, 124, 12⟩ : S63), (⟨a11, 136, 12⟩ : S63)] = ys) :
    Ev (fun k => head_Encode.l1 k row ys 5 0 a0 a1 a2 a3 a4 a5 a6 a7 a8 a9 a10 a11) (if numsFit a7 a8 a9 a10 a11 = true then (sealed (magicRow (numsRow row a7 a8 a9 a10 a11) a6), 0) else ([], 20)) := by
  have hy : ys.length = 5 := by rw [← hys]; rfl
  have l8 : ∀ n, (num n 8).length = 8 := fun n => num_length n (by omega)
  have l12 : ∀ n, (num n 12).length = 12 := fun n => num_length n (by omega)
  have r1 : (lay row 100 (num a7 8)).length = 512 := by rw [lay_length (by rw [l8]; omega)]; exact hrow
  have r2 : (lay (lay row 100 (num a7 8)) 108 (num a8 8)).length = 512 := by rw [lay_length (by rw [l8]; omega)]; exact r1
  have r3 : (lay (lay (lay row 100 (num a7 8)) 108 (num a8 8)) 116 (num a9 8)).length = 512 := by rw [lay_length (by rw [l8]; omega)]; exact r2
  have r4 : (lay (lay (lay (lay row 100 (num a7 8)) 108 (num a8 8)) 116 (num a9 8)) 124 (num a10 12)).length = 512 := by rw [lay_length (by rw [l12]; omega)]; exact r3
  have r5 : (numsRow row a7 a8 a9 a10 a11).length = 512 := by rw [numsRow, lay_length (by rw [l12]; omega)]; exact r4
  have b5 : Bytes (numsRow row a7 a8 a9 a10 a11) := lay_bytes _ (lay_bytes _ (lay_bytes _ (lay_bytes _ (lay_bytes _ hb (num_bytes _ _)) (num_bytes _ _)) (num_bytes _ _)) (num_bytes _ _)) (num_bytes _ _)
  refine enc_l1_step (i := 0) (p := 100) (w := 8) (n := a7) hrow (by omega) hy (by rw [← hys]; rfl) (by omega) (by omega) (by omega) h7.1 h7.2 (fun h => ?_) (fun f1 => ?_)
  · have h : fits a7 8 = false := h
    simp [numsFit, h]
  refine enc_l1_step (i := 1) (p := 108) (w := 8) (n := a8) r1 (by omega) hy (by rw [← hys]; rfl) (by omega) (by omega) (by omega) h8.1 h8.2 (fun h => ?_) (fun f2 => ?_)
  · have h : fits a8 8 = false := h
    simp [numsFit, h]
  refine enc_l1_step (i := 2) (p := 116) (w := 8) (n := a9) r2 (by omega) hy (by rw [← hys]; rfl) (by omega) (by omega) (by omega) h9.1 h9.2 (fun h => ?_) (fun f3 => ?_)
  · have h : fits a9 8 = false := h
    simp [numsFit, h]
  refine enc_l1_step (i := 3) (p := 124) (w := 12) (n := a10) r3 (by omega) hy (by rw [← hys]; rfl) (by omega) (by omega) (by omega) h10.1 h10.2 (fun h => ?_) (fun f4 => ?_)
  · have h : fits a10 12 = false := h
    simp [numsFit, h]
  refine enc_l1_step (i := 4) (p := 136) (w := 12) (n := a11) r4 (by omega) hy (by rw [← hys]; rfl) (by omega) (by omega) (by omega) h11.1 h11.2 (fun h => ?_) (fun f5 => ?_)
  · have h : fits a11 12 = false := h
    simp [numsFit, h]
  have f1 : fits a7 8 = true := f1
  have f2 : fits a8 8 = true := f2
  have f3 : fits a9 8 = true := f3
  have f4 : fits a10 12 = true := f4
  have f5 : fits a11 12 = true := f5
  have hn : numsFit a7 a8 a9 a10 a11 = true := by simp [numsFit, f1, f2, f3, f4, f5]
  rw [if_pos hn]
  exact encode_tail r5 b5 h0 h1 ys
theorem encode_ev (h6 : 0 ≤ a6 ∧ a6 ≤ 255)
    (h7 : -9223372036854775808 ≤ a7 ∧ a7 ≤ 9223372036854775807) (h8 : -9223372036854775808 ≤ a8 ∧ a8 ≤ 9223372036854775807) (h9 : -9223372036854775808 ≤ a9 ∧ a9 ≤ 9223372036854775807) (h10 : -9223372036854775808 ≤ a10 ∧ a10 ≤ 9223372036854775807) (h11 : -9223372036854775808 ≤ a11 ∧ a11 ≤ 9223372036854775807) :
    Ev (fun k => head_Encode.f k a0 a1 a2 a3 a4 a5 a6 a7 a8 a9 a10 a11) (encoded a1 a2 a3 a4 a5 a6 a7 a8 a9 a10 a11) := by
  unfold head_Encode.f
  simp only [show (512 : Nat) ≤ 281474976710656 by omega, if_true, Option.bind_some]
  generalize hys : [(⟨a1, 0, 100⟩ : S61), (⟨a2, 157, 257⟩ : S61), (⟨a4, 265, 296⟩ : S61), (⟨a5, 297, 328⟩ : S61), (⟨a3, 345, 500⟩ : S61)] = ys
  have hy : ys.length = 5 := by rw [← hys]; rfl
  have h5 : ((5 : Nat) : Int) = 5 := rfl
  simp only [hy, h5]
  have hz : (List.replicate 512 (0 : Int)).length = 512 := List.length_replicate
  refine enc_l0_step (i := 0) (s := a1) (p := 0) (q := 100) hz (by omega) hy (by rw [← hys]; rfl) (by omega) (by omega) (fun h => ?_) (fun f1 => ?_)
  · have h : fitsT a1 100 = false := h
    simp [encoded, textsFit, h]
  have f1 : fitsT a1 100 = true := f1
  have s1 := fitsT_size f1
  have e1 := bl_length a1
  have r1 : (lay (List.replicate 512 0) 0 (bl a1)).length = 512 := by rw [lay_length (by omega)]; exact hz
  refine enc_l0_step (i := 1) (s := a2) (p := 157) (q := 257) r1 (by omega) hy (by rw [← hys]; rfl) (by omega) (by omega) (fun h => ?_) (fun f2 => ?_)
  · have h : fitsT a2 100 = false := h
    simp [encoded, textsFit, h]
  have f2 : fitsT a2 100 = true := f2
  have s2 := fitsT_size f2
  have e2 := bl_length a2
  have r2 : (lay (lay (List.replicate 512 0) 0 (bl a1)) 157 (bl a2)).length = 512 := by rw [lay_length (by omega)]; exact r1
  refine enc_l0_step (i := 2) (s := a4) (p := 265) (q := 296) r2 (by omega) hy (by rw [← hys]; rfl) (by omega) (by omega) (fun h => ?_) (fun f3 => ?_)
  · have h : fitsT a4 31 = false := h
    simp [encoded, textsFit, h]
  have f3 : fitsT a4 31 = true := f3
  have s3 := fitsT_size f3
  have e3 := bl_length a4
  have r3 : (lay (lay (lay (List.replicate 512 0) 0 (bl a1)) 157 (bl a2)) 265 (bl a4)).length = 512 := by rw [lay_length (by omega)]; exact r2
  refine enc_l0_step (i := 3) (s := a5) (p := 297) (q := 328) r3 (by omega) hy (by rw [← hys]; rfl) (by omega) (by omega) (fun h => ?_) (fun f4 => ?_)
  · have h : fitsT a5 31 = false := h
    simp [encoded, textsFit, h]
  have f4 : fitsT a5 31 = true := f4
  have s4 := fitsT_size f4
  have e4 := bl_length a5
  have r4 : (lay (lay (lay (lay (List.replicate 512 0) 0 (bl a1)) 157 (bl a2)) 265 (bl a4)) 297 (bl a5)).length = 512 := by rw [lay_length (by omega)]; exact r3
  refine enc_l0_step (i := 4) (s := a3) (p := 345) (q := 500) r4 (by omega) hy (by rw [← hys]; rfl) (by omega) (by omega) (fun h => ?_) (fun f5 => ?_)
  · have h : fitsT a3 155 = false := h
    simp [encoded, textsFit, h]
  have f5 : fitsT a3 155 = true := f5
  have s5 := fitsT_size f5
  have e5 := bl_length a3
  have r5 : (textsRow a1 a2 a3 a4 a5).length = 512 := by rw [textsRow, lay_length (by omega)]; exact r4
  have b5 : Bytes (textsRow a1 a2 a3 a4 a5) := lay_bytes _ (lay_bytes _ (lay_bytes _ (lay_bytes _ (lay_bytes _ (zeros_bytes 512) (bl_bytes _)) (bl_bytes _)) (bl_bytes _)) (bl_bytes _)) (bl_bytes _)
  have hf : textsFit a1 a2 a3 a4 a5 = true := by simp [textsFit, f1, f2, f3, f4, f5]
  refine Ev.step (fun k => by rw [head_Encode.l0]) ?_
  simp only [show ¬ (((4 + 1 : Nat) : Int) < 5) by omega, if_false, Option.bind_some]
  generalize hzs : [(⟨a7, 100, 8⟩ : S63), (⟨a8, 108, 8⟩ : S63), (⟨a9, 116, 8⟩ : S63), (⟨a10, 124, 12⟩ : S63), (⟨a11, 136, 12⟩ : S63)] = zs
  have hzl : zs.length = 5 := by rw [← hzs]; rfl
  simp only [hzl, h5]
  refine ev_eq (encode_nums r5 b5 h6.1 h6.2 h7 h8 h9 h10 h11 zs hzs) ?_
  rw [encoded, if_pos hf]
  rfl
end
end Go.Proofs.Ytchldbhnohicoaa.Pure

/- The fields of an encoded header, and that it is read as it was written. Printed by wip/tools/gen_holds.py. -/
namespace Go.Proofs.Ytchldbhnohicoaa.Pure
open Go.RowKit Go.Proofs.Ytchldbhnohicoaa.XA Go.Proofs.YtchldbhnohicoaaW.PrintWords Go.Proofs.YtchldbhnohicoaaW.PrintLast Go.Proofs.YtchldbhnohicoaaW.PrintMore
set_option linter.unusedSimpArgs false
set_option linter.unusedVariables false

theorem fl_after {l b : List Int} {i p q : Nat} (hl : l.length = 512) (h : i + b.length ≤ 512) (hpq : p ≤ q) (ho : q ≤ i ∨ i + b.length ≤ p) : fl (lay l i b) p q = fl l p q := by
  have := field_after (l := l) (b := b) (i := i) (p := p) (n := q - p) (by omega) (by omega)
  rw [show p + (q - p) = q by omega] at this
  exact this
theorem fl_own {l b : List Int} {i q : Nat} (hl : l.length = 512) (h : i + b.length ≤ 512) (hq : i + b.length ≤ q) : fl (lay l i b) i q = b ++ fl l (i + b.length) q := by
  have := field_own (l := l) (b := b) (i := i) (n := q - i) (by omega) (by omega)
  rw [show i + (q - i) = q by omega] at this
  exact this
theorem fl_after' {l l' b : List Int} {i p q : Nat} (e : l' = lay l i b) (hl : l.length = 512) (h : i + b.length ≤ 512) (hpq : p ≤ q) (ho : q ≤ i ∨ i + b.length ≤ p) : fl l' p q = fl l p q := by
  subst e
  exact fl_after hl h hpq ho
theorem fl_own' {l l' b : List Int} {i q : Nat} (e : l' = lay l i b) (hl : l.length = 512) (h : i + b.length ≤ 512) (hq : i + b.length ≤ q) : fl l' i q = b ++ fl l (i + b.length) q := by
  subst e
  exact fl_own hl h hq
theorem fl_zeros {p q : Nat} (h : q ≤ 512) : fl (List.replicate 512 (0 : Int)) p q = List.replicate (q - p) 0 := by
  simp only [fl, List.take_replicate, List.drop_replicate]
  congr 1
  omega
theorem fl_full {b l : List Int} {i q : Nat} (hl : l.length = 512) (h : i + b.length = q) (hq : q ≤ 512) : fl (lay l i b) i q = b := by
  rw [fl_own hl (by omega) (by omega), h]
  have : fl l q q = [] := by
    apply List.eq_nil_of_length_eq_zero
    simp only [fl, List.length_drop, List.length_take]
    omega
  rw [this, List.append_nil]
theorem fl_full' {b l l' : List Int} {i q : Nat} (e : l' = lay l i b) (hl : l.length = 512) (h : i + b.length = q) (hq : q ≤ 512) : fl l' i q = b := by
  subst e
  exact fl_full hl h hq
theorem fl_one {l : List Int} {p : Nat} (h : p < l.length) : fl l p (p + 1) = [rd l (p : Int)] := by
  simp only [fl]
  rw [List.take_succ_eq_append_getElem h, List.drop_append_of_le_length (by rw [List.length_take]; omega)]
  have : (l.take p).drop p = [] := by
    apply List.eq_nil_of_length_eq_zero
    simp only [List.length_drop, List.length_take]
    omega
  rw [this, List.nil_append, rd_nat, List.getD_eq_getElem?_getD, List.getElem?_eq_getElem h]
  rfl
theorem set_lay {l : List Int} {i : Nat} (v : Int) (h : i < l.length) : l.set i v = lay l i [v] := by
  rw [lay, List.set_eq_take_append_cons_drop, if_pos h]
  simp
theorem lay_row {l b : List Int} {i : Nat} (hl : l.length = 512) (h : i + b.length ≤ 512) : (lay l i b).length = 512 := by
  rw [lay_length (by omega)]
  exact hl
theorem lay_row' {l l' b : List Int} {i : Nat} (e : l' = lay l i b) (hl : l.length = 512) (h : i + b.length ≤ 512) : l'.length = 512 := by
  subst e
  exact lay_row hl h
theorem lay_bytes' {l l' b : List Int} {i : Nat} (e : l' = lay l i b) (hl : Bytes l) (hb : Bytes b) : Bytes l' := by
  subst e
  exact lay_bytes i hl hb
structure Holds (L : List Int) (m : List Int) (a1 a2 a3 a4 a5 : ByteArray) (a6 a7 a8 a9 a10 a11 : Int) : Prop where
  len : L.length = 512
  bytes : Bytes L
  h_name : fl L 0 100 = bl a1 ++ List.replicate (100 - a1.size) 0
  h_mode : fl L 100 108 = num a7 8
  h_uid : fl L 108 116 = num a8 8
  h_gid : fl L 116 124 = num a9 8
  h_size : fl L 124 136 = num a10 12
  h_mtime : fl L 136 148 = num a11 12
  h_typ : fl L 156 157 = [a6]
  h_link : fl L 157 257 = bl a2 ++ List.replicate (100 - a2.size) 0
  h_magic : fl L 257 265 = m
  h_user : fl L 265 297 = bl a4 ++ List.replicate (32 - a4.size) 0
  h_group : fl L 297 329 = bl a5 ++ List.replicate (32 - a5.size) 0
  h_prefix : fl L 345 500 = bl a3 ++ List.replicate (155 - a3.size) 0
  h_gap : fl L 329 345 = List.replicate 16 0
  h_rest : fl L 500 512 = List.replicate 12 0
section
variable {L m m' : List Int} {a6 a7 a8 a9 a10 a11 : Int} {a1 a2 a3 a4 a5 : ByteArray}
theorem Holds.lay148 (h : Holds L m a1 a2 a3 a4 a5 a6 a7 a8 a9 a10 a11) {b : List Int} (hb : b.length = 8) (hy : Bytes b) : Holds (lay L 148 b) m a1 a2 a3 a4 a5 a6 a7 a8 a9 a10 a11 :=
  ⟨lay_row h.len (by omega), lay_bytes _ h.bytes hy, (fl_after h.len (by omega) (by omega) (by omega)).trans h.h_name, (fl_after h.len (by omega) (by omega) (by omega)).trans h.h_mode, (fl_after h.len (by omega) (by omega) (by omega)).trans h.h_uid, (fl_after h.len (by omega) (by omega) (by omega)).trans h.h_gid, (fl_after h.len (by omega) (by omega) (by omega)).trans h.h_size, (fl_after h.len (by omega) (by omega) (by omega)).trans h.h_mtime, (fl_after h.len (by omega) (by omega) (by omega)).trans h.h_typ, (fl_after h.len (by omega) (by omega) (by omega)).trans h.h_link, (fl_after h.len (by omega) (by omega) (by omega)).trans h.h_magic, (fl_after h.len (by omega) (by omega) (by omega)).trans h.h_user, (fl_after h.len (by omega) (by omega) (by omega)).trans h.h_group, (fl_after h.len (by omega) (by omega) (by omega)).trans h.h_prefix, (fl_after h.len (by omega) (by omega) (by omega)).trans h.h_gap, (fl_after h.len (by omega) (by omega) (by omega)).trans h.h_rest⟩
theorem Holds.lay257 (h : Holds L m a1 a2 a3 a4 a5 a6 a7 a8 a9 a10 a11) (hb : m'.length = 8) (hy : Bytes m') : Holds (lay L 257 m') m' a1 a2 a3 a4 a5 a6 a7 a8 a9 a10 a11 :=
  ⟨lay_row h.len (by omega), lay_bytes _ h.bytes hy, (fl_after h.len (by omega) (by omega) (by omega)).trans h.h_name, (fl_after h.len (by omega) (by omega) (by omega)).trans h.h_mode, (fl_after h.len (by omega) (by omega) (by omega)).trans h.h_uid, (fl_after h.len (by omega) (by omega) (by omega)).trans h.h_gid, (fl_after h.len (by omega) (by omega) (by omega)).trans h.h_size, (fl_after h.len (by omega) (by omega) (by omega)).trans h.h_mtime, (fl_after h.len (by omega) (by omega) (by omega)).trans h.h_typ, (fl_after h.len (by omega) (by omega) (by omega)).trans h.h_link, fl_full h.len (by omega) (by omega), (fl_after h.len (by omega) (by omega) (by omega)).trans h.h_user, (fl_after h.len (by omega) (by omega) (by omega)).trans h.h_group, (fl_after h.len (by omega) (by omega) (by omega)).trans h.h_prefix, (fl_after h.len (by omega) (by omega) (by omega)).trans h.h_gap, (fl_after h.len (by omega) (by omega) (by omega)).trans h.h_rest⟩
theorem sealed_lay (l : List Int) : sealed l = lay l 148 (oct (total plainOne 0 l) 6 ++ [0, 32]) := by
  rw [sealed_eq, lay, tail_length]
theorem Holds.sealed (h : Holds L m a1 a2 a3 a4 a5 a6 a7 a8 a9 a10 a11) : Holds (sealed L) m a1 a2 a3 a4 a5 a6 a7 a8 a9 a10 a11 := by
  rw [sealed_lay]
  exact h.lay148 (tail_length _) (tail_bytes _)
theorem bare_eq (a1 a2 a3 a4 a5 : ByteArray) (a6 a7 a8 a9 a10 a11 : Int) (s1 : a1.size ≤ 100) (s2 : a2.size ≤ 100) (s3 : a3.size ≤ 155) (s4 : a4.size ≤ 31) (s5 : a5.size ≤ 31) : bareRow a1 a2 a3 a4 a5 a6 a7 a8 a9 a10 a11 = (lay (lay (lay (lay (lay (lay (lay (lay (lay (lay (lay (lay (List.replicate 512 (0 : Int)) 0 (bl a1)) 157 (bl a2)) 265 (bl a4)) 297 (bl a5)) 345 (bl a3)) 100 (num a7 8)) 108 (num a8 8)) 116 (num a9 8)) 124 (num a10 12)) 136 (num a11 12)) 156 [a6]) 257 [117, 115, 116, 97, 114, 0, 48, 48]) := by
  unfold bareRow magicRow numsRow textsRow
  rw [set_lay a6 ?_]
  have e1 := bl_length a1
  have e2 := bl_length a2
  have e3 := bl_length a3
  have e4 := bl_length a4
  have e5 := bl_length a5
  have l8 : ∀ n, (num n 8).length = 8 := fun n => num_length n (by omega)
  have l12 : ∀ n, (num n 12).length = 12 := fun n => num_length n (by omega)
  have q0 : (List.replicate 512 (0 : Int)).length = 512 := List.length_replicate
  have q1 : (lay (List.replicate 512 (0 : Int)) 0 (bl a1)).length = 512 := lay_row q0 (by omega)
  have q2 : (lay (lay (List.replicate 512 (0 : Int)) 0 (bl a1)) 157 (bl a2)).length = 512 := lay_row q1 (by omega)
  have q3 : (lay (lay (lay (List.replicate 512 (0 : Int)) 0 (bl a1)) 157 (bl a2)) 265 (bl a4)).length = 512 := lay_row q2 (by omega)
  have q4 : (lay (lay (lay (lay (List.replicate 512 (0 : Int)) 0 (bl a1)) 157 (bl a2)) 265 (bl a4)) 297 (bl a5)).length = 512 := lay_row q3 (by omega)
  have q5 : (lay (lay (lay (lay (lay (List.replicate 512 (0 : Int)) 0 (bl a1)) 157 (bl a2)) 265 (bl a4)) 297 (bl a5)) 345 (bl a3)).length = 512 := lay_row q4 (by omega)
  have q6 : (lay (lay (lay (lay (lay (lay (List.replicate 512 (0 : Int)) 0 (bl a1)) 157 (bl a2)) 265 (bl a4)) 297 (bl a5)) 345 (bl a3)) 100 (num a7 8)).length = 512 := lay_row q5 (by have := l8 a7; omega)
  have q7 : (lay (lay (lay (lay (lay (lay (lay (List.replicate 512 (0 : Int)) 0 (bl a1)) 157 (bl a2)) 265 (bl a4)) 297 (bl a5)) 345 (bl a3)) 100 (num a7 8)) 108 (num a8 8)).length = 512 := lay_row q6 (by have := l8 a8; omega)
  have q8 : (lay (lay (lay (lay (lay (lay (lay (lay (List.replicate 512 (0 : Int)) 0 (bl a1)) 157 (bl a2)) 265 (bl a4)) 297 (bl a5)) 345 (bl a3)) 100 (num a7 8)) 108 (num a8 8)) 116 (num a9 8)).length = 512 := lay_row q7 (by have := l8 a9; omega)
  have q9 : (lay (lay (lay (lay (lay (lay (lay (lay (lay (List.replicate 512 (0 : Int)) 0 (bl a1)) 157 (bl a2)) 265 (bl a4)) 297 (bl a5)) 345 (bl a3)) 100 (num a7 8)) 108 (num a8 8)) 116 (num a9 8)) 124 (num a10 12)).length = 512 := lay_row q8 (by have := l12 a10; omega)
  have q10 : (lay (lay (lay (lay (lay (lay (lay (lay (lay (lay (List.replicate 512 (0 : Int)) 0 (bl a1)) 157 (bl a2)) 265 (bl a4)) 297 (bl a5)) 345 (bl a3)) 100 (num a7 8)) 108 (num a8 8)) 116 (num a9 8)) 124 (num a10 12)) 136 (num a11 12)).length = 512 := lay_row q9 (by have := l12 a11; omega)
  omega
theorem bare_aux {r0 r1 r2 r3 r4 r5 r6 r7 r8 r9 r10 r11 r12 : List Int} (z : r0 = List.replicate 512 (0 : Int)) (k1 : r1 = lay r0 0 (bl a1)) (k2 : r2 = lay r1 157 (bl a2)) (k3 : r3 = lay r2 265 (bl a4)) (k4 : r4 = lay r3 297 (bl a5)) (k5 : r5 = lay r4 345 (bl a3)) (k6 : r6 = lay r5 100 (num a7 8)) (k7 : r7 = lay r6 108 (num a8 8)) (k8 : r8 = lay r7 116 (num a9 8)) (k9 : r9 = lay r8 124 (num a10 12)) (k10 : r10 = lay r9 136 (num a11 12)) (k11 : r11 = lay r10 156 [a6]) (k12 : r12 = lay r11 257 [117, 115, 116, 97, 114, 0, 48, 48])
    (s1 : a1.size ≤ 100) (s2 : a2.size ≤ 100) (s3 : a3.size ≤ 155) (s4 : a4.size ≤ 31) (s5 : a5.size ≤ 31) (h6 : 0 ≤ a6 ∧ a6 ≤ 255) : Holds r12 [117, 115, 116, 97, 114, 0, 48, 48] a1 a2 a3 a4 a5 a6 a7 a8 a9 a10 a11 := by
  have e1 := bl_length a1
  have e2 := bl_length a2
  have e3 := bl_length a3
  have e4 := bl_length a4
  have e5 := bl_length a5
  have l7 : (num a7 8).length = 8 := num_length _ (by omega)
  have l8 : (num a8 8).length = 8 := num_length _ (by omega)
  have l9 : (num a9 8).length = 8 := num_length _ (by omega)
  have l10 : (num a10 12).length = 12 := num_length _ (by omega)
  have l11 : (num a11 12).length = 12 := num_length _ (by omega)
  have t6 : Bytes [a6] := by intro c hc; simp at hc; omega
  have lm : [117, 115, 116, 97, 114, 0, 48, (48 : Int)].length = 8 := rfl
  have l6 : [a6].length = 1 := rfl
  have q0 : r0.length = 512 := by rw [z]; exact List.length_replicate
  have y0 : Bytes r0 := by rw [z]; exact zeros_bytes 512
  have q1 : r1.length = 512 := lay_row' k1 q0 (by omega)
  have y1 : Bytes r1 := lay_bytes' k1 y0 (bl_bytes _)
  have q2 : r2.length = 512 := lay_row' k2 q1 (by omega)
  have y2 : Bytes r2 := lay_bytes' k2 y1 (bl_bytes _)
  have q3 : r3.length = 512 := lay_row' k3 q2 (by omega)
  have y3 : Bytes r3 := lay_bytes' k3 y2 (bl_bytes _)
  have q4 : r4.length = 512 := lay_row' k4 q3 (by omega)
  have y4 : Bytes r4 := lay_bytes' k4 y3 (bl_bytes _)
  have q5 : r5.length = 512 := lay_row' k5 q4 (by omega)
  have y5 : Bytes r5 := lay_bytes' k5 y4 (bl_bytes _)
  have q6 : r6.length = 512 := lay_row' k6 q5 (by omega)
  have y6 : Bytes r6 := lay_bytes' k6 y5 (num_bytes _ _)
  have q7 : r7.length = 512 := lay_row' k7 q6 (by omega)
  have y7 : Bytes r7 := lay_bytes' k7 y6 (num_bytes _ _)
  have q8 : r8.length = 512 := lay_row' k8 q7 (by omega)
  have y8 : Bytes r8 := lay_bytes' k8 y7 (num_bytes _ _)
  have q9 : r9.length = 512 := lay_row' k9 q8 (by omega)
  have y9 : Bytes r9 := lay_bytes' k9 y8 (num_bytes _ _)
  have q10 : r10.length = 512 := lay_row' k10 q9 (by omega)
  have y10 : Bytes r10 := lay_bytes' k10 y9 (num_bytes _ _)
  have q11 : r11.length = 512 := lay_row' k11 q10 (by omega)
  have y11 : Bytes r11 := lay_bytes' k11 y10 (t6)
  have q12 : r12.length = 512 := lay_row' k12 q11 (by omega)
  have y12 : Bytes r12 := lay_bytes' k12 y11 (magic_bytes)
  refine ⟨q12, y12, ?_, ?_, ?_, ?_, ?_, ?_, ?_, ?_, ?_, ?_, ?_, ?_, ?_, ?_⟩
  · refine (fl_after' k12 q11 (by omega) (by omega) (by omega)).trans <| (fl_after' k11 q10 (by omega) (by omega) (by omega)).trans <| (fl_after' k10 q9 (by omega) (by omega) (by omega)).trans <| (fl_after' k9 q8 (by omega) (by omega) (by omega)).trans <| (fl_after' k8 q7 (by omega) (by omega) (by omega)).trans <| (fl_after' k7 q6 (by omega) (by omega) (by omega)).trans <| (fl_after' k6 q5 (by omega) (by omega) (by omega)).trans <| (fl_after' k5 q4 (by omega) (by omega) (by omega)).trans <| (fl_after' k4 q3 (by omega) (by omega) (by omega)).trans <| (fl_after' k3 q2 (by omega) (by omega) (by omega)).trans <| (fl_after' k2 q1 (by omega) (by omega) (by omega)).trans <| (fl_own' k1 q0 (by omega) (by omega)).trans ?_
    refine congrArg (bl a1 ++ ·) (((congrArg (fl · _ _) z).trans (fl_zeros (by omega))).trans ?_)
    congr 1
    omega
  · exact (fl_after' k12 q11 (by omega) (by omega) (by omega)).trans <| (fl_after' k11 q10 (by omega) (by omega) (by omega)).trans <| (fl_after' k10 q9 (by omega) (by omega) (by omega)).trans <| (fl_after' k9 q8 (by omega) (by omega) (by omega)).trans <| (fl_after' k8 q7 (by omega) (by omega) (by omega)).trans <| (fl_after' k7 q6 (by omega) (by omega) (by omega)).trans <| fl_full' k6 q5 (by omega) (by omega)
  · exact (fl_after' k12 q11 (by omega) (by omega) (by omega)).trans <| (fl_after' k11 q10 (by omega) (by omega) (by omega)).trans <| (fl_after' k10 q9 (by omega) (by omega) (by omega)).trans <| (fl_after' k9 q8 (by omega) (by omega) (by omega)).trans <| (fl_after' k8 q7 (by omega) (by omega) (by omega)).trans <| fl_full' k7 q6 (by omega) (by omega)
  · exact (fl_after' k12 q11 (by omega) (by omega) (by omega)).trans <| (fl_after' k11 q10 (by omega) (by omega) (by omega)).trans <| (fl_after' k10 q9 (by omega) (by omega) (by omega)).trans <| (fl_after' k9 q8 (by omega) (by omega) (by omega)).trans <| fl_full' k8 q7 (by omega) (by omega)
  · exact (fl_after' k12 q11 (by omega) (by omega) (by omega)).trans <| (fl_after' k11 q10 (by omega) (by omega) (by omega)).trans <| (fl_after' k10 q9 (by omega) (by omega) (by omega)).trans <| fl_full' k9 q8 (by omega) (by omega)
  · exact (fl_after' k12 q11 (by omega) (by omega) (by omega)).trans <| (fl_after' k11 q10 (by omega) (by omega) (by omega)).trans <| fl_full' k10 q9 (by omega) (by omega)
  · exact (fl_after' k12 q11 (by omega) (by omega) (by omega)).trans <| fl_full' k11 q10 (by omega) (by omega)
  · refine (fl_after' k12 q11 (by omega) (by omega) (by omega)).trans <| (fl_after' k11 q10 (by omega) (by omega) (by omega)).trans <| (fl_after' k10 q9 (by omega) (by omega) (by omega)).trans <| (fl_after' k9 q8 (by omega) (by omega) (by omega)).trans <| (fl_after' k8 q7 (by omega) (by omega) (by omega)).trans <| (fl_after' k7 q6 (by omega) (by omega) (by omega)).trans <| (fl_after' k6 q5 (by omega) (by omega) (by omega)).trans <| (fl_after' k5 q4 (by omega) (by omega) (by omega)).trans <| (fl_after' k4 q3 (by omega) (by omega) (by omega)).trans <| (fl_after' k3 q2 (by omega) (by omega) (by omega)).trans <| (fl_own' k2 q1 (by omega) (by omega)).trans ?_
    refine congrArg (bl a2 ++ ·) ((fl_after' k1 q0 (by omega) (by omega) (by omega)).trans <| ((congrArg (fl · _ _) z).trans (fl_zeros (by omega))).trans ?_)
    congr 1
    omega
  · exact fl_full' k12 q11 (by omega) (by omega)
  · refine (fl_after' k12 q11 (by omega) (by omega) (by omega)).trans <| (fl_after' k11 q10 (by omega) (by omega) (by omega)).trans <| (fl_after' k10 q9 (by omega) (by omega) (by omega)).trans <| (fl_after' k9 q8 (by omega) (by omega) (by omega)).trans <| (fl_after' k8 q7 (by omega) (by omega) (by omega)).trans <| (fl_after' k7 q6 (by omega) (by omega) (by omega)).trans <| (fl_after' k6 q5 (by omega) (by omega) (by omega)).trans <| (fl_after' k5 q4 (by omega) (by omega) (by omega)).trans <| (fl_after' k4 q3 (by omega) (by omega) (by omega)).trans <| (fl_own' k3 q2 (by omega) (by omega)).trans ?_
    refine congrArg (bl a4 ++ ·) ((fl_after' k2 q1 (by omega) (by omega) (by omega)).trans <| (fl_after' k1 q0 (by omega) (by omega) (by omega)).trans <| ((congrArg (fl · _ _) z).trans (fl_zeros (by omega))).trans ?_)
    congr 1
    omega
  · refine (fl_after' k12 q11 (by omega) (by omega) (by omega)).trans <| (fl_after' k11 q10 (by omega) (by omega) (by omega)).trans <| (fl_after' k10 q9 (by omega) (by omega) (by omega)).trans <| (fl_after' k9 q8 (by omega) (by omega) (by omega)).trans <| (fl_after' k8 q7 (by omega) (by omega) (by omega)).trans <| (fl_after' k7 q6 (by omega) (by omega) (by omega)).trans <| (fl_after' k6 q5 (by omega) (by omega) (by omega)).trans <| (fl_after' k5 q4 (by omega) (by omega) (by omega)).trans <| (fl_own' k4 q3 (by omega) (by omega)).trans ?_
    refine congrArg (bl a5 ++ ·) ((fl_after' k3 q2 (by omega) (by omega) (by omega)).trans <| (fl_after' k2 q1 (by omega) (by omega) (by omega)).trans <| (fl_after' k1 q0 (by omega) (by omega) (by omega)).trans <| ((congrArg (fl · _ _) z).trans (fl_zeros (by omega))).trans ?_)
    congr 1
    omega
  · refine (fl_after' k12 q11 (by omega) (by omega) (by omega)).trans <| (fl_after' k11 q10 (by omega) (by omega) (by omega)).trans <| (fl_after' k10 q9 (by omega) (by omega) (by omega)).trans <| (fl_after' k9 q8 (by omega) (by omega) (by omega)).trans <| (fl_after' k8 q7 (by omega) (by omega) (by omega)).trans <| (fl_after' k7 q6 (by omega) (by omega) (by omega)).trans <| (fl_after' k6 q5 (by omega) (by omega) (by omega)).trans <| (fl_own' k5 q4 (by omega) (by omega)).trans ?_
    refine congrArg (bl a3 ++ ·) ((fl_after' k4 q3 (by omega) (by omega) (by omega)).trans <| (fl_after' k3 q2 (by omega) (by omega) (by omega)).trans <| (fl_after' k2 q1 (by omega) (by omega) (by omega)).trans <| (fl_after' k1 q0 (by omega) (by omega) (by omega)).trans <| ((congrArg (fl · _ _) z).trans (fl_zeros (by omega))).trans ?_)
    congr 1
    omega
  · exact (fl_after' k12 q11 (by omega) (by omega) (by omega)).trans <| (fl_after' k11 q10 (by omega) (by omega) (by omega)).trans <| (fl_after' k10 q9 (by omega) (by omega) (by omega)).trans <| (fl_after' k9 q8 (by omega) (by omega) (by omega)).trans <| (fl_after' k8 q7 (by omega) (by omega) (by omega)).trans <| (fl_after' k7 q6 (by omega) (by omega) (by omega)).trans <| (fl_after' k6 q5 (by omega) (by omega) (by omega)).trans <| (fl_after' k5 q4 (by omega) (by omega) (by omega)).trans <| (fl_after' k4 q3 (by omega) (by omega) (by omega)).trans <| (fl_after' k3 q2 (by omega) (by omega) (by omega)).trans <| (fl_after' k2 q1 (by omega) (by omega) (by omega)).trans <| (fl_after' k1 q0 (by omega) (by omega) (by omega)).trans <| (congrArg (fl · _ _) z).trans (fl_zeros (by omega))
  · exact (fl_after' k12 q11 (by omega) (by omega) (by omega)).trans <| (fl_after' k11 q10 (by omega) (by omega) (by omega)).trans <| (fl_after' k10 q9 (by omega) (by omega) (by omega)).trans <| (fl_after' k9 q8 (by omega) (by omega) (by omega)).trans <| (fl_after' k8 q7 (by omega) (by omega) (by omega)).trans <| (fl_after' k7 q6 (by omega) (by omega) (by omega)).trans <| (fl_after' k6 q5 (by omega) (by omega) (by omega)).trans <| (fl_after' k5 q4 (by omega) (by omega) (by omega)).trans <| (fl_after' k4 q3 (by omega) (by omega) (by omega)).trans <| (fl_after' k3 q2 (by omega) (by omega) (by omega)).trans <| (fl_after' k2 q1 (by omega) (by omega) (by omega)).trans <| (fl_after' k1 q0 (by omega) (by omega) (by omega)).trans <| (congrArg (fl · _ _) z).trans (fl_zeros (by omega))
theorem bare_holds (s1 : a1.size ≤ 100) (s2 : a2.size ≤ 100) (s3 : a3.size ≤ 155) (s4 : a4.size ≤ 31) (s5 : a5.size ≤ 31) (h6 : 0 ≤ a6 ∧ a6 ≤ 255) : Holds (bareRow a1 a2 a3 a4 a5 a6 a7 a8 a9 a10 a11) [117, 115, 116, 97, 114, 0, 48, 48] a1 a2 a3 a4 a5 a6 a7 a8 a9 a10 a11 := by
  rw [bare_eq a1 a2 a3 a4 a5 a6 a7 a8 a9 a10 a11 s1 s2 s3 s4 s5]
  exact bare_aux rfl rfl rfl rfl rfl rfl rfl rfl rfl rfl rfl rfl rfl s1 s2 s3 s4 s5 h6
theorem tx_own {a : ByteArray} (h : no0 (bl a) = true) (n : Nat) : tx (bl a ++ List.replicate n 0) = a := by
  rw [tx, upto0_zeros h]
  apply bl_inj
  rw [bl_strOfNums (bl_bytes a)]
def formOf (m : List Int) : Nat := if m = [117, 115, 116, 97, 114, 0, 48, 48] then 1 else if m = [117, 115, 116, 97, 114, 32, 32, 0] then 2 else 0
theorem dec_holds (h : Holds L m a1 a2 a3 a4 a5 a6 a7 a8 a9 a10 a11) (hr : rightB L = true) (ht : textsFit a1 a2 a3 a4 a5 = true) (hn : numsFit a7 a8 a9 a10 a11 = true)
    (r7 : a7 ≤ 9223372036854775807) (r8 : a8 ≤ 9223372036854775807) (r9 : a9 ≤ 9223372036854775807) (r10 : a10 ≤ 9223372036854775807) (r11 : a11 ≤ 9223372036854775807) :
    dec L = ((formOf m : Int), a1, a2, if formOf m = 1 then a3 else ⟨#[]⟩, if formOf m = 0 then ⟨#[]⟩ else a4, if formOf m = 0 then ⟨#[]⟩ else a5, a6, a7, a8, a9, a10, a11, 0) := by
  simp only [textsFit, numsFit, Bool.and_eq_true] at ht hn
  obtain ⟨f1, f2, f4, f5, f3⟩ := ht
  obtain ⟨g7, g8, g9, g10, g11⟩ := hn
  have p7 : parse (fl L 100 108) = (a7, 0) := by rw [h.h_mode]; exact parse_fmt (w := 8) (by omega) r7 g7
  have p8 : parse (fl L 108 116) = (a8, 0) := by rw [h.h_uid]; exact parse_fmt (w := 8) (by omega) r8 g8
  have p9 : parse (fl L 116 124) = (a9, 0) := by rw [h.h_gid]; exact parse_fmt (w := 8) (by omega) r9 g9
  have p10 : parse (fl L 124 136) = (a10, 0) := by rw [h.h_size]; exact parse_fmt (w := 12) (by omega) r10 g10
  have p11 : parse (fl L 136 148) = (a11, 0) := by rw [h.h_mtime]; exact parse_fmt (w := 12) (by omega) r11 g11
  have hd : dnums L 5 0 [0, 0, 0, 0, 0] = ([a7, a8, a9, a10, a11], 0) := by
    simp only [dnums, show fr 0 = 100 from rfl, show fr (0 + 1) = 108 from rfl, show fr (0 + 1 + 1) = 116 from rfl, show fr (0 + 1 + 1 + 1) = 124 from rfl, show fr (0 + 1 + 1 + 1 + 1) = 136 from rfl, show fr (0 + 1 + 1 + 1 + 1 + 1) = 148 from rfl, p7, p8, p9, p10, p11, if_true]
    rfl
  have ht6 : rd L 156 = a6 := by
    have := fl_one (l := L) (p := 156) (by rw [h.len]; omega)
    rw [h.h_typ] at this
    injection this with this
    exact this.symm
  have hm : mg L = formOf m := by
    unfold mg formOf
    rw [h.h_magic]
  rw [dec, if_pos h.len, if_pos hr, dbody, hd]
  simp only [if_true, dtail, hm, ht6, h.h_name, h.h_link, h.h_user, h.h_group, h.h_prefix, tx_own (fitsT_no0 f1), tx_own (fitsT_no0 f2), tx_own (fitsT_no0 f3), tx_own (fitsT_no0 f4), tx_own (fitsT_no0 f5)]
  rfl
theorem textsFit_sizes (h : textsFit a1 a2 a3 a4 a5 = true) : a1.size ≤ 100 ∧ a2.size ≤ 100 ∧ a3.size ≤ 155 ∧ a4.size ≤ 31 ∧ a5.size ≤ 31 := by
  simp only [textsFit, Bool.and_eq_true] at h
  obtain ⟨f1, f2, f4, f5, f3⟩ := h
  have := fitsT_size f1
  have := fitsT_size f2
  have := fitsT_size f3
  have := fitsT_size f4
  have := fitsT_size f5
  omega
theorem encoded_yes (ht : textsFit a1 a2 a3 a4 a5 = true) (hn : numsFit a7 a8 a9 a10 a11 = true) : encoded a1 a2 a3 a4 a5 a6 a7 a8 a9 a10 a11 = (Go.Proofs.Ytchldbhnohicoaa.XA.sealed (bareRow a1 a2 a3 a4 a5 a6 a7 a8 a9 a10 a11), 0) := by
  rw [encoded, if_pos ht, if_pos hn]
end
end Go.Proofs.Ytchldbhnohicoaa.Pure
