/- What head.Decode answers, in plain words. -/
import Derived.Test.YtchldbhnohicoaaUHead
import Derived.Test.YtchldbhnohicoaaUSum
import Derived.Test.YtchldbhnohicoaaEDecode
namespace Go.Proofs.Ytchldbhnohicoaa.Pure
open Go.RowKit Go.Proofs.Ytchldbhnohicoaa.XA Go.Proofs.YtchldbhnohicoaaW.PrintWords Go.Proofs.YtchldbhnohicoaaW.PrintLast Go.Proofs.YtchldbhnohicoaaW.PrintMore
set_option linter.unusedSimpArgs false
set_option linter.unusedVariables false

def fl (l : List Int) (i j : Nat) : List Int := (l.take j).drop i
theorem fl_bytes {l : List Int} (hb : Bytes l) (i j : Nat) : Bytes (fl l i j) := (hb.take _).drop _
theorem fl_length (l : List Int) {i j : Nat} (h : j ≤ l.length) : (fl l i j).length = j - i := by simp only [fl, List.length_drop, List.length_take]; omega
theorem fl_len_le (l : List Int) (i j : Nat) : (fl l i j).length ≤ j := by simp only [fl, List.length_drop, List.length_take]; omega
/-- A field's text. -/
def tx (l : List Int) : ByteArray := strOfNums (upto0 l)
theorem upto0_bytes {l : List Int} (hb : Bytes l) : Bytes (upto0 l) := by
  induction l with
  | nil => intro x hx; simp [upto0] at hx
  | cons c cs ih =>
    intro x hx
    rw [upto0] at hx
    split at hx
    · simp at hx
    · rcases List.mem_cons.1 hx with rfl | hx
      · exact hb.head
      · exact ih hb.tail x hx
theorem text_tx {l : List Int} (hb : Bytes l) (hl : l.length ≤ 1000000) : head_text.f l = some (tx l) := by
  obtain ⟨t, ht, e⟩ := text_f hb hl
  rw [ht]
  congr 1
  apply bl_inj
  rw [e, tx, bl_strOfNums (upto0_bytes hb)]
def fr (i : Nat) : Nat := head_Decode.fr i
def dnums (l : List Int) : Nat → Nat → List Int → List Int × Int
  | 0, _, ns => (ns, 0)
  | n + 1, i, ns => if (parse (fl l (fr i) (fr (i + 1)))).2 = 0 then dnums l n (i + 1) (ns.set i (parse (fl l (fr i) (fr (i + 1)))).1) else (ns, (parse (fl l (fr i) (fr (i + 1)))).2)
def mg (l : List Int) : Nat := if fl l 257 265 = [117, 115, 116, 97, 114, 0, 48, 48] then 1 else if fl l 257 265 = [117, 115, 116, 97, 114, 32, 32, 0] then 2 else 0
abbrev DR := Int × ByteArray × ByteArray × ByteArray × ByteArray × ByteArray × Int × Int × Int × Int × Int × Int × Int
def dtail (l : List Int) (ns : List Int) : DR :=
  ((mg l : Int), tx (fl l 0 100), tx (fl l 157 257), if mg l = 1 then tx (fl l 345 500) else ⟨#[]⟩, if mg l = 0 then ⟨#[]⟩ else tx (fl l 265 297), if mg l = 0 then ⟨#[]⟩ else tx (fl l 297 329), rd l 156, ns.getD 0 0, ns.getD 1 0, ns.getD 2 0, ns.getD 3 0, ns.getD 4 0, 0)
def dbad (e : Int) : DR := (0, ⟨#[]⟩, ⟨#[]⟩, ⟨#[]⟩, ⟨#[]⟩, ⟨#[]⟩, 0, 0, 0, 0, 0, 0, e)
def dbody (l : List Int) : DR := if (dnums l 5 0 [0, 0, 0, 0, 0]).2 = 0 then dtail l (dnums l 5 0 [0, 0, 0, 0, 0]).1 else dbad (dnums l 5 0 [0, 0, 0, 0, 0]).2
def dec (l : List Int) : DR := if l.length = 512 then (if rightB l = true then dbody l else dbad 50) else dbad 1
theorem nums_ev {l : List Int} (hb : Bytes l) : ∀ n i ns, Ev (fun k => head_Decode.nums k l n i ns) (dnums l n i ns)
  | 0, i, ns => ev_some _
  | n + 1, i, ns => by
    simp only [head_Decode.nums]
    have hl := fl_len_le l (fr i) (fr (i + 1))
    have hfr : fr (i + 1) ≤ 148 := by
      unfold fr head_Decode.fr
      match i with
      | 0 => decide
      | 1 => decide
      | 2 => decide
      | 3 => decide
      | 4 => decide
      | n + 5 => exact Nat.zero_le _
    refine ev_bind (parse_ev (fl l (fr i) (fr (i + 1))) (fl_bytes hb _ _) (by omega)) ?_
    rw [dnums]
    by_cases h : (parse (fl l (fr i) (fr (i + 1)))).2 = 0
    · simp only [if_pos h]
      exact nums_ev hb n (i + 1) _
    · simp only [if_neg h]
      exact ev_some _
theorem strOfNums_lit {l : List Int} (hb : Bytes l) (m : List UInt8) : (strOfNums l).toList = m ↔ l = nums8 m := by
  constructor
  · intro h
    have : bl (strOfNums l) = nums8 m := by rw [bl_nums8, ← toList_data, h]
    rw [bl_strOfNums hb] at this
    exact this
  · intro h
    rw [toList_data]
    have : nums8 (strOfNums l).data.toList = nums8 m := by rw [← bl_nums8, bl_strOfNums hb]; exact h
    have hi : Function.Injective (fun b : UInt8 => (b.toNat : Int)) := fun a b hab => UInt8.toNat_inj.1 (Int.ofNat_inj.1 hab)
    exact (List.map_inj_right (fun a b hab => hi hab)).1 this
theorem magic_iff {l : List Int} (hb : Bytes l) (m : List UInt8) : ((strOfNums (head_Decode.fld l 257 265)).toList = m) = (fl l 257 265 = nums8 m) := propext (strOfNums_lit (fl_bytes hb 257 265) m)
theorem tail_f {l : List Int} (hb : Bytes l) (ns : List Int) : head_Decode.tail l (tx (fl l 0 100)) (tx (fl l 157 257)) (rd l 156) ns = some (dtail l ns) := by
  have t1 : head_text.f (head_Decode.fld l 345 500) = some (tx (fl l 345 500)) := text_tx (fl_bytes hb _ _) (Nat.le_trans (show (head_Decode.fld l 345 500).length ≤ 500 from fl_len_le l 345 500) (by omega))
  have t2 : head_text.f (head_Decode.fld l 265 297) = some (tx (fl l 265 297)) := text_tx (fl_bytes hb _ _) (Nat.le_trans (show (head_Decode.fld l 265 297).length ≤ 297 from fl_len_le l 265 297) (by omega))
  have t3 : head_text.f (head_Decode.fld l 297 329) = some (tx (fl l 297 329)) := text_tx (fl_bytes hb _ _) (Nat.le_trans (show (head_Decode.fld l 297 329).length ≤ 329 from fl_len_le l 297 329) (by omega))
  unfold head_Decode.tail head_Decode.ends
  simp only [magic_iff hb, t1, t2, t3, Option.bind_some]
  have e1 : nums8 [117, 115, 116, 97, 114, 0, 48, 48] = [117, 115, 116, 97, 114, 0, 48, 48] := rfl
  have e2 : nums8 [117, 115, 116, 97, 114, 32, 32, 0] = [117, 115, 116, 97, 114, 32, 32, 0] := rfl
  rw [e1, e2]
  unfold dtail mg
  by_cases h1 : fl l 257 265 = [117, 115, 116, 97, 114, 0, 48, 48]
  · simp only [if_pos h1]
    rfl
  · simp only [if_neg h1]
    by_cases h2 : fl l 257 265 = [117, 115, 116, 97, 114, 32, 32, 0]
    · simp only [if_pos h2]
      rfl
    · simp only [if_neg h2]
      rfl
theorem decode_ev {l : List Int} (hb : Bytes l) (hl : l.length ≤ 1000000) : Ev (fun k => head_Decode.f k l) (dec l) := by
  unfold head_Decode.f dec
  by_cases h : l.length = 512
  · simp only [show (l.length : Int) = 512 by omega, if_true, if_pos h]
    refine ev_bind (right_ev hb hl) ?_
    by_cases hr : rightB l = true
    · simp only [if_pos hr]
      have t1 : head_text.f (head_Decode.fld l 0 100) = some (tx (fl l 0 100)) := text_tx (fl_bytes hb _ _) (Nat.le_trans (show (head_Decode.fld l 0 100).length ≤ 100 from fl_len_le l 0 100) (by omega))
      have t2 : head_text.f (head_Decode.fld l 157 257) = some (tx (fl l 157 257)) := text_tx (fl_bytes hb _ _) (Nat.le_trans (show (head_Decode.fld l 157 257).length ≤ 257 from fl_len_le l 157 257) (by omega))
      simp only [t1, t2, Option.bind_some]
      unfold head_Decode.after
      refine ev_bind (nums_ev hb (5 - 0) 0 [0, 0, 0, 0, 0]) ?_
      unfold dbody
      by_cases hn : (dnums l 5 0 [0, 0, 0, 0, 0]).2 = 0
      · simp only [Nat.sub_zero, if_pos hn, tail_f hb]
        exact ev_some _
      · simp only [Nat.sub_zero, if_neg hn]
        exact ev_some _
    · simp only [if_neg hr]
      exact ev_some _
  · simp only [show ¬ (l.length : Int) = 512 by omega, if_false, if_neg h]
    exact ev_some _
end Go.Proofs.Ytchldbhnohicoaa.Pure
