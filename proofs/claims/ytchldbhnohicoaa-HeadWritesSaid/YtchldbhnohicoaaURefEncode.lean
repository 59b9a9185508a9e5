/- The document's header as a block is head.Encode's. -/
import Derived.Test.YtchldbhnohicoaaURefText
import Derived.Test.YtchldbhnohicoaaURefFormat
import Derived.Test.YtchldbhnohicoaaERefEncode
namespace Go.Proofs.Ytchldbhnohicoaa.Pure
open Go.RowKit Go.Proofs.Ytchldbhnohicoaa.XA Go.Proofs.YtchldbhnohicoaaW.PrintWords Go.Proofs.YtchldbhnohicoaaW.PrintLast Go.Proofs.YtchldbhnohicoaaW.PrintMore
set_option linter.unusedSimpArgs false
set_option linter.unusedVariables false

theorem bl_size (s : ByteArray) : s.size = (bl s).length := (bl_length s).symm
theorem noughts_l0 {n : Nat} (hn : n ≤ 1000) : ∀ (d i : Nat) (s : ByteArray), i + d = n → bl s = List.replicate i 0 → ∃ t, Ev (fun k => pannierref06_noughts.l0 k (n : Int) s (i : Int)) t ∧ bl t = List.replicate n 0
  | 0, i, s, h, hs => by
    refine ⟨s, Ev.step (fun k => by rw [pannierref06_noughts.l0]) ?_, ?_⟩
    · simp only [show ¬ ((i : Int) < (n : Int)) by omega, if_false]
      exact ev_some _
    · rw [hs, show i = n by omega]
  | d + 1, i, s, h, hs => by
    have hz : s.size = i := by rw [bl_size, hs, List.length_replicate]
    obtain ⟨t, ht, e⟩ := noughts_l0 hn d (i + 1) (s ++ (⟨#[0]⟩ : ByteArray)) (by omega) (by
      rw [bl_append, hs, List.replicate_succ']
      rfl)
    refine ⟨t, Ev.step (fun k => by rw [pannierref06_noughts.l0]) ?_, e⟩
    simp only [show (i : Int) < (n : Int) by omega, if_true, hz, show i + 1 ≤ 9223372036854775807 by omega, wnext (i := i) (by omega)]
    exact ht
def zs (n : Nat) : ByteArray := strOfNums (List.replicate n 0)
theorem bl_zs (n : Nat) : bl (zs n) = List.replicate n 0 := bl_strOfNums (zeros_bytes n)
theorem zs_size (n : Nat) : (zs n).size = n := by rw [bl_size, bl_zs, List.length_replicate]
theorem noughts_ev {x : Int} {n : Nat} (h : x = n) (hn : n ≤ 1000) : Ev (fun k => pannierref06_noughts.f k x) (zs n) := by
  subst h
  obtain ⟨t, ht, e⟩ := noughts_l0 hn n 0 ⟨#[]⟩ (by omega) rfl
  have : t = zs n := bl_inj (by rw [e, bl_zs])
  rw [← this]
  exact ht
theorem cat_f {x y : ByteArray} (h : x.size + y.size ≤ 1000000) : pannierref06_Encode.cat x y = some (x ++ y) := by
  unfold pannierref06_Encode.cat
  rw [if_pos (by omega)]
def chkB (T : Nat → ByteArray) : Nat → Nat → Bool
  | 0, _ => true
  | n + 1, j => fitsT (T j) (pannierref06_Encode.rm j) && chkB T n (j + 1)
theorem rm_le (j : Nat) : pannierref06_Encode.rm j ≤ 155 := by
  unfold pannierref06_Encode.rm
  match j with
  | 0 => decide
  | 1 => decide
  | 2 => decide
  | 3 => decide
  | 4 => decide
  | n + 5 => exact Nat.zero_le _
theorem chk_ev (T : Nat → ByteArray) : ∀ n j, Ev (fun k => pannierref06_Encode.chk k T n j) (chkB T n j)
  | 0, j => ev_some _
  | n + 1, j => by
    simp only [pannierref06_Encode.chk, chkB]
    have hrm := rm_le j
    by_cases hs : ((T j).size : Int) > (pannierref06_Encode.rm j : Int)
    · simp only [if_pos hs]
      refine ev_eq (ev_some _) ?_
      simp [fitsT, show ¬ ((T j).size : Int) ≤ (pannierref06_Encode.rm j : Int) by omega]
    · simp only [if_neg hs]
      refine ev_bind (reftext_ev (s := T j) (by omega)) ?_
      have hiff : ((tx (bl (T j))).toList = (T j).toList) ↔ no0 (bl (T j)) = true := by
        rw [← upto0_no0]
        constructor
        · intro h
          have h2 : tx (bl (T j)) = T j := by
            rw [toList_data, toList_data] at h
            apply bl_inj
            show nums8 (tx (bl (T j))).data.toList = nums8 (T j).data.toList
            rw [h]
          have h3 := congrArg bl h2
          rw [tx, bl_strOfNums (upto0_bytes (bl_bytes _))] at h3
          exact h3
        · intro h
          rw [tx, h]
          have : strOfNums (bl (T j)) = T j := bl_inj (bl_strOfNums (bl_bytes _))
          rw [this]
      by_cases hz : no0 (bl (T j)) = true
      · simp only [if_pos (hiff.2 hz)]
        refine ev_eq (chk_ev T n (j + 1)) ?_
        simp [fitsT, hz, show ((T j).size : Int) ≤ (pannierref06_Encode.rm j : Int) by omega]
      · simp only [if_neg (fun h => hz (hiff.1 h))]
        refine ev_eq (ev_some _) ?_
        simp [fitsT, hz]
/-- A number's field, as the document writes it. -/
def fn (n : Int) (w : Nat) : ByteArray := strOfNums (num n w)
theorem bl_fn (n : Int) (w : Nat) : bl (fn n w) = num n w := bl_strOfNums (num_bytes n w)
theorem format_yes {n : Int} {w : Nat} (hw : 2 ≤ w) (hw2 : w ≤ 20) (h0 : -9223372036854775808 ≤ n) (h1 : n ≤ 9223372036854775807) (hf : fits n w = true) : Ev (fun k => pannierref02_Format.f k n (w : Int)) (fn n w, 0) := by
  obtain ⟨t, ht, e⟩ := refformat_ev (n := n) (w := (w : Int)) h0 h1
  have hv : fmt n (w : Int) = (num n w, 0) := by
    simp only [fmt, hf]
    rw [if_neg (by omega)]
    simp [num]
  rw [hv] at ht e
  have : t = fn n w := bl_inj (by rw [e, bl_fn])
  rw [← this]
  exact ht
theorem format_no {n : Int} {w : Nat} (hw : 2 ≤ w) (hw2 : w ≤ 20) (h0 : -9223372036854775808 ≤ n) (h1 : n ≤ 9223372036854775807) (hf : fits n w = false) : ∃ t, Ev (fun k => pannierref02_Format.f k n (w : Int)) (t, 20) := by
  obtain ⟨t, ht, e⟩ := refformat_ev (n := n) (w := (w : Int)) h0 h1
  have hv : fmt n (w : Int) = ([], 20) := by
    simp only [fmt, hf]
    rw [if_neg (by omega)]
    simp
  rw [hv] at ht
  exact ⟨t, ht⟩
theorem fn_size (n : Int) {w : Nat} (h : 1 ≤ w) : (fn n w).size = w := by rw [bl_size, bl_fn, num_length n h]
theorem nums_cons {ty : Int} {T : Nat → ByteArray} {Nn : Nat → Int} {n j : Nat} {b : ByteArray} {w : Nat} {R : ByteArray × Int} (hw : pannierref06_Encode.wd j = w) (h2 : 2 ≤ w) (h20 : w ≤ 20) (hb : b.size ≤ 1000) (h0 : -9223372036854775808 ≤ Nn j) (h1 : Nn j ≤ 9223372036854775807)
    (hno : fits (Nn j) w = false → R = (⟨#[]⟩, 20)) (hyes : fits (Nn j) w = true → Ev (fun k => pannierref06_Encode.nums k ty T Nn n (j + 1) (b ++ fn (Nn j) w)) R) :
    Ev (fun k => pannierref06_Encode.nums k ty T Nn (n + 1) j b) R := by
  unfold pannierref06_Encode.nums at *
  simp only [pannierref06_Encode.fmts, hw]
  cases hf : fits (Nn j) w with
  | true =>
    have hz := fn_size (Nn j) (w := w) (by omega)
    have key := ev_bind (f := fun k t => (if t.2 = 0 then (pannierref06_Encode.cat b t.1).bind fun b1 => pannierref06_Encode.fmts k Nn n (j + 1) b1 else some ((⟨#[]⟩ : ByteArray), t.2)).bind fun t => if t.2 = 0 then pannierref06_Encode.rest k ty T t.1 else some ((⟨#[]⟩ : ByteArray), t.2)) (format_yes h2 h20 h0 h1 hf) (r := R) (by
      simp only [if_true, cat_f (x := b) (y := fn (Nn j) w) (by omega), Option.bind_some]
      exact hyes hf)
    refine Ev.congr (fun k => ?_) key
    cases pannierref02_Format.f k (Nn j) (w : Int) <;> rfl
  | false =>
    obtain ⟨t, ht⟩ := format_no h2 h20 h0 h1 hf
    have key := ev_bind (f := fun k t => (if t.2 = 0 then (pannierref06_Encode.cat b t.1).bind fun b1 => pannierref06_Encode.fmts k Nn n (j + 1) b1 else some ((⟨#[]⟩ : ByteArray), t.2)).bind fun t => if t.2 = 0 then pannierref06_Encode.rest k ty T t.1 else some ((⟨#[]⟩ : ByteArray), t.2)) ht (r := R) (by
      simp only [show ¬ ((20 : Int) = 0) by omega, if_false, Option.bind_some]
      rw [hno hf]
      exact ev_some _)
    refine Ev.congr (fun k => ?_) key
    cases pannierref02_Format.f k (Nn j) (w : Int) <;> rfl
/-- The whole block, before its sum. -/
def flat (a1 a2 a3 a4 a5 : ByteArray) (a6 a7 a8 a9 a10 a11 : Int) : List Int :=
  (bl a1 ++ List.replicate (100 - a1.size) 0 ++ num a7 8 ++ num a8 8 ++ num a9 8 ++ num a10 12 ++ num a11 12) ++ List.replicate 8 32 ++ ([a6] ++ (bl a2 ++ List.replicate (100 - a2.size) 0) ++ [117, 115, 116, 97, 114, 0, 48, 48] ++ (bl a4 ++ List.replicate (32 - a4.size) 0) ++ (bl a5 ++ List.replicate (32 - a5.size) 0) ++ List.replicate 16 0 ++ (bl a3 ++ List.replicate (155 - a3.size) 0) ++ List.replicate 12 0)
theorem drop_cut (m : List Int) {i j : Nat} (h : i ≤ j) : m.drop i = (m.take j).drop i ++ m.drop j := by
  have := List.take_append_drop j m
  conv => lhs; rw [← this]
  rw [List.drop_append]
  by_cases hj : j ≤ m.length
  · simp [List.length_take, Nat.min_eq_left hj, show i - j = 0 by omega]
  · simp [List.length_take, List.drop_eq_nil_of_le (show m.length ≤ j by omega)]
theorem fl_cut (l : List Int) {i j k : Nat} (h : i ≤ j) (h2 : j ≤ k) : fl l i k = fl l i j ++ fl l j k := by
  unfold fl
  rw [show l.take j = (l.take k).take j by rw [List.take_take, Nat.min_eq_left h2]]
  exact drop_cut _ h
theorem refplain_s {s : ByteArray} (hs : s.size ≤ 1000000) : pannierref05_Plain.f s = some (total plainOne 0 (bl s)) := by
  unfold pannierref05_Plain.f
  rw [if_pos hs]
  rfl
theorem fin_ev {s : ByteArray} (h : (bl s).length = 512) : Ev (fun k => (pannierref05_Plain.f s).bind fun n => (pannierref02_Format.f k n 7).bind fun t =>
    if 156 ≤ s.size then (pannierref06_Encode.cat (s.extract 0 148) t.1).bind fun g1 => (pannierref06_Encode.cat g1 (⟨#[32]⟩ : ByteArray)).bind fun g2 => (pannierref06_Encode.cat g2 (s.extract 156 s.size)).bind fun g3 => some (g3, (0 : Int)) else none) (strOfNums (Go.Proofs.Ytchldbhnohicoaa.XA.sealed (bl s)), 0) := by
  have hz : s.size = 512 := by rw [bl_size]; exact h
  have hb := bl_bytes s
  have hp := plain_bound hb 0
  simp only [refplain_s (s := s) (by omega), Option.bind_some]
  generalize hn : total plainOne 0 (bl s) = n at *
  have hf : fits n 7 = true := fits_of (w := 7) (by omega) (by omega) (by
    have : (8 : Int) ^ (7 - 1) = 262144 := by decide
    omega)
  refine ev_bind (format_yes (w := 7) (by omega) (by omega) (by omega) (by omega) hf) ?_
  have z7 := fn_size n (w := 7) (by omega)
  have x1 : (s.extract 0 148).size = 148 := by rw [ByteArray.size_extract]; omega
  have x2 : (s.extract 156 s.size).size = 356 := by rw [ByteArray.size_extract]; omega
  have x3 : (⟨#[32]⟩ : ByteArray).size = 1 := rfl
  simp only [show 156 ≤ s.size by omega, if_true]
  rw [cat_f (x := s.extract 0 148) (y := fn n 7) (by omega)]
  simp only [Option.bind_some]
  rw [cat_f (x := s.extract 0 148 ++ fn n 7) (y := ⟨#[32]⟩) (by rw [ByteArray.size_append]; omega)]
  simp only [Option.bind_some]
  rw [cat_f (x := s.extract 0 148 ++ fn n 7 ++ ⟨#[32]⟩) (y := s.extract 156 s.size) (by rw [ByteArray.size_append, ByteArray.size_append]; omega)]
  simp only [Option.bind_some]
  refine ev_eq (ev_some _) ?_
  refine congrArg (fun z => (z, (0 : Int))) (bl_inj ?_)
  rw [bl_append, bl_append, bl_append, bl_extract, bl_extract, bl_fn, bl_strOfNums (sealed_bytes hb), sealed_eq, hn, ← bl_length s, List.take_length]
  have e32 : bl (⟨#[32]⟩ : ByteArray) = [32] := rfl
  rw [e32, num]
  simp
theorem blanks8 : bl (⟨#[32, 32, 32, 32, 32, 32, 32, 32]⟩ : ByteArray) = List.replicate 8 32 := rfl
theorem ustar8 : bl (⟨#[117, 115, 116, 97, 114, 0, 48, 48]⟩ : ByteArray) = [117, 115, 116, 97, 114, 0, 48, 48] := rfl
set_option maxRecDepth 100000 in
theorem rest_ev {ty : Int} {T : Nat → ByteArray} {b : ByteArray} (h0 : 0 ≤ ty ∧ ty ≤ 255) (hb : (bl b).length = 148) (s1 : (T 1).size ≤ 100) (s2 : (T 2).size ≤ 155) (s3 : (T 3).size ≤ 31) (s4 : (T 4).size ≤ 31) :
    Ev (fun k => pannierref06_Encode.rest k ty T b) (strOfNums (Go.Proofs.Ytchldbhnohicoaa.XA.sealed (bl b ++ List.replicate 8 32 ++ ([ty] ++ (bl (T 1) ++ List.replicate (100 - (T 1).size) 0) ++ [117, 115, 116, 97, 114, 0, 48, 48] ++ (bl (T 3) ++ List.replicate (32 - (T 3).size) 0) ++ (bl (T 4) ++ List.replicate (32 - (T 4).size) 0) ++ List.replicate 16 0 ++ (bl (T 2) ++ List.replicate (155 - (T 2).size) 0) ++ List.replicate 12 0))), 0) := by
  have hbz : b.size = 148 := by rw [bl_size]; exact hb
  have t1 : (strOfNums [ty]).size = 1 := by rw [strOfNums_size]; rfl
  have y8 : (⟨#[32, 32, 32, 32, 32, 32, 32, 32]⟩ : ByteArray).size = 8 := rfl
  have u8 : (⟨#[117, 115, 116, 97, 114, 0, 48, 48]⟩ : ByteArray).size = 8 := rfl
  have bty : bl (strOfNums [ty]) = [ty] := bl_strOfNums (by intro c hc; simp at hc; omega)
  unfold pannierref06_Encode.rest
  refine ev_bind (noughts_ev (n := 100 - (T 1).size) (by omega) (by omega)) ?_
  refine ev_bind (noughts_ev (n := 32 - (T 3).size) (by omega) (by omega)) ?_
  refine ev_bind (noughts_ev (n := 32 - (T 4).size) (by omega) (by omega)) ?_
  refine ev_bind (noughts_ev (n := 16) rfl (by omega)) ?_
  refine ev_bind (noughts_ev (n := 155 - (T 2).size) (by omega) (by omega)) ?_
  refine ev_bind (noughts_ev (n := 12) rfl (by omega)) ?_
  have q1 := zs_size (100 - (T 1).size)
  have q3 := zs_size (32 - (T 3).size)
  have q4 := zs_size (32 - (T 4).size)
  have q5 := zs_size 16
  have q2 := zs_size (155 - (T 2).size)
  have q6 := zs_size 12
  have w1 := bl_zs (100 - (T 1).size)
  have w3 := bl_zs (32 - (T 3).size)
  have w4 := bl_zs (32 - (T 4).size)
  have w5 := bl_zs 16
  have w2 := bl_zs (155 - (T 2).size)
  have w6 := bl_zs 12
  generalize zs (100 - (T 1).size) = z1 at *
  generalize zs (32 - (T 3).size) = z3 at *
  generalize zs (32 - (T 4).size) = z4 at *
  generalize zs 16 = z5 at *
  generalize zs (155 - (T 2).size) = z2 at *
  generalize zs 12 = z6 at *
  rw [cat_f (x := (⟨#[32, 32, 32, 32, 32, 32, 32, 32]⟩ : ByteArray)) (y := (strOfNums [ty])) (by omega)]
  simp only [Option.bind_some]
  have s_c0 : ((⟨#[32, 32, 32, 32, 32, 32, 32, 32]⟩ : ByteArray) ++ (strOfNums [ty])).size = (⟨#[32, 32, 32, 32, 32, 32, 32, 32]⟩ : ByteArray).size + (strOfNums [ty]).size := ByteArray.size_append
  have b_c0 : bl ((⟨#[32, 32, 32, 32, 32, 32, 32, 32]⟩ : ByteArray) ++ (strOfNums [ty])) = bl (⟨#[32, 32, 32, 32, 32, 32, 32, 32]⟩ : ByteArray) ++ bl (strOfNums [ty]) := bl_append _ _
  generalize (⟨#[32, 32, 32, 32, 32, 32, 32, 32]⟩ : ByteArray) ++ (strOfNums [ty]) = c0 at *
  rw [cat_f (x := c0) (y := (T 1)) (by omega)]
  simp only [Option.bind_some]
  have s_c1 : (c0 ++ (T 1)).size = c0.size + (T 1).size := ByteArray.size_append
  have b_c1 : bl (c0 ++ (T 1)) = bl c0 ++ bl (T 1) := bl_append _ _
  generalize c0 ++ (T 1) = c1 at *
  rw [cat_f (x := c1) (y := z1) (by omega)]
  simp only [Option.bind_some]
  have s_c2 : (c1 ++ z1).size = c1.size + z1.size := ByteArray.size_append
  have b_c2 : bl (c1 ++ z1) = bl c1 ++ bl z1 := bl_append _ _
  generalize c1 ++ z1 = c2 at *
  rw [cat_f (x := c2) (y := (⟨#[117, 115, 116, 97, 114, 0, 48, 48]⟩ : ByteArray)) (by omega)]
  simp only [Option.bind_some]
  have s_c3 : (c2 ++ (⟨#[117, 115, 116, 97, 114, 0, 48, 48]⟩ : ByteArray)).size = c2.size + (⟨#[117, 115, 116, 97, 114, 0, 48, 48]⟩ : ByteArray).size := ByteArray.size_append
  have b_c3 : bl (c2 ++ (⟨#[117, 115, 116, 97, 114, 0, 48, 48]⟩ : ByteArray)) = bl c2 ++ bl (⟨#[117, 115, 116, 97, 114, 0, 48, 48]⟩ : ByteArray) := bl_append _ _
  generalize c2 ++ (⟨#[117, 115, 116, 97, 114, 0, 48, 48]⟩ : ByteArray) = c3 at *
  rw [cat_f (x := b) (y := c3) (by omega)]
  simp only [Option.bind_some]
  have s_b1 : (b ++ c3).size = b.size + c3.size := ByteArray.size_append
  have b_b1 : bl (b ++ c3) = bl b ++ bl c3 := bl_append _ _
  generalize b ++ c3 = b1 at *
  rw [cat_f (x := (T 3)) (y := z3) (by omega)]
  simp only [Option.bind_some]
  have s_d1 : ((T 3) ++ z3).size = (T 3).size + z3.size := ByteArray.size_append
  have b_d1 : bl ((T 3) ++ z3) = bl (T 3) ++ bl z3 := bl_append _ _
  generalize (T 3) ++ z3 = d1 at *
  rw [cat_f (x := d1) (y := (T 4)) (by omega)]
  simp only [Option.bind_some]
  have s_d2 : (d1 ++ (T 4)).size = d1.size + (T 4).size := ByteArray.size_append
  have b_d2 : bl (d1 ++ (T 4)) = bl d1 ++ bl (T 4) := bl_append _ _
  generalize d1 ++ (T 4) = d2 at *
  rw [cat_f (x := d2) (y := z4) (by omega)]
  simp only [Option.bind_some]
  have s_d3 : (d2 ++ z4).size = d2.size + z4.size := ByteArray.size_append
  have b_d3 : bl (d2 ++ z4) = bl d2 ++ bl z4 := bl_append _ _
  generalize d2 ++ z4 = d3 at *
  rw [cat_f (x := d3) (y := z5) (by omega)]
  simp only [Option.bind_some]
  have s_d4 : (d3 ++ z5).size = d3.size + z5.size := ByteArray.size_append
  have b_d4 : bl (d3 ++ z5) = bl d3 ++ bl z5 := bl_append _ _
  generalize d3 ++ z5 = d4 at *
  rw [cat_f (x := b1) (y := d4) (by omega)]
  simp only [Option.bind_some]
  have s_b2 : (b1 ++ d4).size = b1.size + d4.size := ByteArray.size_append
  have b_b2 : bl (b1 ++ d4) = bl b1 ++ bl d4 := bl_append _ _
  generalize b1 ++ d4 = b2 at *
  rw [cat_f (x := (T 2)) (y := z2) (by omega)]
  simp only [Option.bind_some]
  have s_e1 : ((T 2) ++ z2).size = (T 2).size + z2.size := ByteArray.size_append
  have b_e1 : bl ((T 2) ++ z2) = bl (T 2) ++ bl z2 := bl_append _ _
  generalize (T 2) ++ z2 = e1 at *
  rw [cat_f (x := e1) (y := z6) (by omega)]
  simp only [Option.bind_some]
  have s_e2 : (e1 ++ z6).size = e1.size + z6.size := ByteArray.size_append
  have b_e2 : bl (e1 ++ z6) = bl e1 ++ bl z6 := bl_append _ _
  generalize e1 ++ z6 = e2 at *
  rw [cat_f (x := b2) (y := e2) (by omega)]
  simp only [Option.bind_some]
  have s_b3 : (b2 ++ e2).size = b2.size + e2.size := ByteArray.size_append
  have b_b3 : bl (b2 ++ e2) = bl b2 ++ bl e2 := bl_append _ _
  generalize b2 ++ e2 = b3 at *
  have hF : bl b3 = bl b ++ List.replicate 8 32 ++ ([ty] ++ (bl (T 1) ++ List.replicate (100 - (T 1).size) 0) ++ [117, 115, 116, 97, 114, 0, 48, 48] ++ (bl (T 3) ++ List.replicate (32 - (T 3).size) 0) ++ (bl (T 4) ++ List.replicate (32 - (T 4).size) 0) ++ List.replicate 16 0 ++ (bl (T 2) ++ List.replicate (155 - (T 2).size) 0) ++ List.replicate 12 0) := by
    rw [b_b3, b_b2, b_b1, b_c3, b_c2, b_c1, b_c0, b_d4, b_d3, b_d2, b_d1, b_e2, b_e1, w1, w2, w3, w4, w5, w6, bty, blanks8, ustar8]
    simp only [List.append_assoc]
  rw [← hF]
  exact fin_ev (by rw [← bl_size]; omega)
theorem sealed_same {F L : List Int} (hF : F.length = 512) (hL : L.length = 512) (h1 : F.take 148 = L.take 148) (h2 : F.drop 156 = L.drop 156) : Go.Proofs.Ytchldbhnohicoaa.XA.sealed F = Go.Proofs.Ytchldbhnohicoaa.XA.sealed L := by
  have tt : ∀ M : List Int, M.length = 512 → total plainOne 0 M = total plainOne 0 (M.take 148) + 8 * plainOne 32 + total plainOne 156 (M.drop 156) := by
    intro M hM
    have h148 : (M.take 148).length = 148 := by rw [List.length_take]; omega
    conv => lhs; rw [three M (by omega)]
    exact total_three plainOne _ _ _ h148 (field_length (by omega))
  rw [sealed_eq, sealed_eq, tt F hF, tt L hL, h1, h2]
section
variable {L : List Int} {a6 a7 a8 a9 a10 a11 : Int} {a1 a2 a3 a4 a5 : ByteArray}
theorem holds_flat (h : Holds L [117, 115, 116, 97, 114, 0, 48, 48] a1 a2 a3 a4 a5 a6 a7 a8 a9 a10 a11) (s1 : a1.size ≤ 100) :
    Go.Proofs.Ytchldbhnohicoaa.XA.sealed ((bl a1 ++ List.replicate (100 - a1.size) 0 ++ num a7 8 ++ num a8 8 ++ num a9 8 ++ num a10 12 ++ num a11 12) ++ List.replicate 8 32 ++ ([a6] ++ (bl a2 ++ List.replicate (100 - a2.size) 0) ++ [117, 115, 116, 97, 114, 0, 48, 48] ++ (bl a4 ++ List.replicate (32 - a4.size) 0) ++ (bl a5 ++ List.replicate (32 - a5.size) 0) ++ List.replicate 16 0 ++ (bl a3 ++ List.replicate (155 - a3.size) 0) ++ List.replicate 12 0)) = Go.Proofs.Ytchldbhnohicoaa.XA.sealed L := by
  have e1 : fl L 0 148 = bl a1 ++ List.replicate (100 - a1.size) 0 ++ num a7 8 ++ num a8 8 ++ num a9 8 ++ num a10 12 ++ num a11 12 := by
    rw [fl_cut L (show 0 ≤ 136 by omega) (show 136 ≤ 148 by omega), fl_cut L (show 0 ≤ 124 by omega) (show 124 ≤ 136 by omega), fl_cut L (show 0 ≤ 116 by omega) (show 116 ≤ 124 by omega), fl_cut L (show 0 ≤ 108 by omega) (show 108 ≤ 116 by omega), fl_cut L (show 0 ≤ 100 by omega) (show 100 ≤ 108 by omega), h.h_name, h.h_mode, h.h_uid, h.h_gid, h.h_size, h.h_mtime]
  have e2 : fl L 156 512 = [a6] ++ (bl a2 ++ List.replicate (100 - a2.size) 0) ++ [117, 115, 116, 97, 114, 0, 48, 48] ++ (bl a4 ++ List.replicate (32 - a4.size) 0) ++ (bl a5 ++ List.replicate (32 - a5.size) 0) ++ List.replicate 16 0 ++ (bl a3 ++ List.replicate (155 - a3.size) 0) ++ List.replicate 12 0 := by
    rw [fl_cut L (show 156 ≤ 500 by omega) (show 500 ≤ 512 by omega), fl_cut L (show 156 ≤ 345 by omega) (show 345 ≤ 500 by omega), fl_cut L (show 156 ≤ 329 by omega) (show 329 ≤ 345 by omega), fl_cut L (show 156 ≤ 297 by omega) (show 297 ≤ 329 by omega), fl_cut L (show 156 ≤ 265 by omega) (show 265 ≤ 297 by omega), fl_cut L (show 156 ≤ 257 by omega) (show 257 ≤ 265 by omega), fl_cut L (show 156 ≤ 157 by omega) (show 157 ≤ 257 by omega), h.h_typ, h.h_link, h.h_magic, h.h_user, h.h_group, h.h_gap, h.h_prefix, h.h_rest]
  rw [← e1, ← e2]
  have hl := h.len
  have l1 : (fl L 0 148).length = 148 := fl_length L (by omega)
  have l2 : (fl L 156 512).length = 356 := fl_length L (by omega)
  have l3 : (fl L 0 148 ++ List.replicate 8 (32 : Int)).length = 156 := by rw [List.length_append, l1, List.length_replicate]
  refine sealed_same (by rw [List.length_append, l3, l2]) hl ?_ ?_
  · rw [List.append_assoc, List.take_left' l1]
    rfl
  · rw [List.drop_left' l3]
    unfold fl
    rw [List.take_of_length_le (by omega)]
theorem refencode_ev {a0 : Int} (h6 : 0 ≤ a6 ∧ a6 ≤ 255)
    (h7 : -9223372036854775808 ≤ a7 ∧ a7 ≤ 9223372036854775807) (h8 : -9223372036854775808 ≤ a8 ∧ a8 ≤ 9223372036854775807) (h9 : -9223372036854775808 ≤ a9 ∧ a9 ≤ 9223372036854775807) (h10 : -9223372036854775808 ≤ a10 ∧ a10 ≤ 9223372036854775807) (h11 : -9223372036854775808 ≤ a11 ∧ a11 ≤ 9223372036854775807) :
    Ev (fun k => pannierref06_Encode.f k a0 a6 a1 a2 a3 a4 a5 a7 a8 a9 a10 a11) (strOfNums (encoded a1 a2 a3 a4 a5 a6 a7 a8 a9 a10 a11).1, (encoded a1 a2 a3 a4 a5 a6 a7 a8 a9 a10 a11).2) := by
  unfold pannierref06_Encode.f pannierref06_Encode.main
  refine ev_bind (chk_ev (pannierref06_Encode.T a1 a2 a3 a4 a5) 5 0) ?_
  have hc : chkB (pannierref06_Encode.T a1 a2 a3 a4 a5) 5 0 = textsFit a1 a2 a3 a4 a5 := by
    show (fitsT a1 100 && (fitsT a2 100 && (fitsT a3 155 && (fitsT a4 31 && (fitsT a5 31 && true))))) = (fitsT a1 100 && (fitsT a2 100 && (fitsT a4 31 && (fitsT a5 31 && fitsT a3 155))))
    cases fitsT a1 100 <;> cases fitsT a2 100 <;> cases fitsT a3 155 <;> cases fitsT a4 31 <;> cases fitsT a5 31 <;> rfl
  rw [hc]
  by_cases ht : textsFit a1 a2 a3 a4 a5 = true
  · have hs := textsFit_sizes ht
    simp only [if_pos ht]
    change Ev (fun k => (pannierref06_noughts.f k (100 - (a1.size : Int))).bind fun z => (pannierref06_Encode.cat a1 z).bind fun b => pannierref06_Encode.nums k a6 (pannierref06_Encode.T a1 a2 a3 a4 a5) (pannierref06_Encode.Nn a7 a8 a9 a10 a11) 5 0 b) _
    refine ev_bind (noughts_ev (n := 100 - a1.size) (by omega) (by omega)) ?_
    have q0 := zs_size (100 - a1.size)
    rw [cat_f (x := a1) (y := zs (100 - a1.size)) (by omega)]
    simp only [Option.bind_some]
    have z8 : ∀ n, (fn n 8).size = 8 := fun n => fn_size n (by omega)
    have z12 : ∀ n, (fn n 12).size = 12 := fun n => fn_size n (by omega)
    have y7 := z8 a7
    have y8 := z8 a8
    have y9 := z8 a9
    have y10 := z12 a10
    have y11 := z12 a11
    have r0 : (a1 ++ zs (100 - a1.size)).size = 100 := by rw [ByteArray.size_append]; omega
    have r1 : (a1 ++ zs (100 - a1.size) ++ fn a7 8).size = 108 := by rw [ByteArray.size_append]; omega
    have r2 : (a1 ++ zs (100 - a1.size) ++ fn a7 8 ++ fn a8 8).size = 116 := by rw [ByteArray.size_append]; omega
    have r3 : (a1 ++ zs (100 - a1.size) ++ fn a7 8 ++ fn a8 8 ++ fn a9 8).size = 124 := by rw [ByteArray.size_append]; omega
    have r4 : (a1 ++ zs (100 - a1.size) ++ fn a7 8 ++ fn a8 8 ++ fn a9 8 ++ fn a10 12).size = 136 := by rw [ByteArray.size_append]; omega
    have r5 : (a1 ++ zs (100 - a1.size) ++ fn a7 8 ++ fn a8 8 ++ fn a9 8 ++ fn a10 12 ++ fn a11 12).size = 148 := by rw [ByteArray.size_append]; omega
    refine nums_cons (w := 8) rfl (by omega) (by omega) (by omega) h7.1 h7.2 (fun h => ?_) (fun f1 => ?_)
    · have h : fits a7 8 = false := h
      simp [encoded, ht, numsFit, h, strOfNums]
    refine nums_cons (w := 8) rfl (by omega) (by omega) (by show ByteArray.size (a1 ++ zs (100 - a1.size) ++ fn a7 8) ≤ 1000; omega) h8.1 h8.2 (fun h => ?_) (fun f2 => ?_)
    · have h : fits a8 8 = false := h
      simp [encoded, ht, numsFit, h, strOfNums]
    refine nums_cons (w := 8) rfl (by omega) (by omega) (by show ByteArray.size (a1 ++ zs (100 - a1.size) ++ fn a7 8 ++ fn a8 8) ≤ 1000; omega) h9.1 h9.2 (fun h => ?_) (fun f3 => ?_)
    · have h : fits a9 8 = false := h
      simp [encoded, ht, numsFit, h, strOfNums]
    refine nums_cons (w := 12) rfl (by omega) (by omega) (by show ByteArray.size (a1 ++ zs (100 - a1.size) ++ fn a7 8 ++ fn a8 8 ++ fn a9 8) ≤ 1000; omega) h10.1 h10.2 (fun h => ?_) (fun f4 => ?_)
    · have h : fits a10 12 = false := h
      simp [encoded, ht, numsFit, h, strOfNums]
    refine nums_cons (w := 12) rfl (by omega) (by omega) (by show ByteArray.size (a1 ++ zs (100 - a1.size) ++ fn a7 8 ++ fn a8 8 ++ fn a9 8 ++ fn a10 12) ≤ 1000; omega) h11.1 h11.2 (fun h => ?_) (fun f5 => ?_)
    · have h : fits a11 12 = false := h
      simp [encoded, ht, numsFit, h, strOfNums]
    have f1 : fits a7 8 = true := f1
    have f2 : fits a8 8 = true := f2
    have f3 : fits a9 8 = true := f3
    have f4 : fits a10 12 = true := f4
    have f5 : fits a11 12 = true := f5
    have hn : numsFit a7 a8 a9 a10 a11 = true := by simp only [numsFit, f1, f2, f3, f4, f5, Bool.and_self]
    rw [encoded_yes ht hn]
    have hh := bare_holds (a6 := a6) (a7 := a7) (a8 := a8) (a9 := a9) (a10 := a10) (a11 := a11) hs.1 hs.2.1 hs.2.2.1 hs.2.2.2.1 hs.2.2.2.2 h6
    show Ev (fun k => pannierref06_Encode.rest k a6 (pannierref06_Encode.T a1 a2 a3 a4 a5) (a1 ++ zs (100 - a1.size) ++ fn a7 8 ++ fn a8 8 ++ fn a9 8 ++ fn a10 12 ++ fn a11 12)) _
    refine ev_eq (rest_ev h6 (by rw [← bl_size]; exact r5) hs.2.1 hs.2.2.1 hs.2.2.2.1 hs.2.2.2.2) ?_
    refine congrArg (fun z => (strOfNums z, (0 : Int))) ?_
    rw [bl_append, bl_append, bl_append, bl_append, bl_append, bl_append, bl_zs, bl_fn, bl_fn, bl_fn, bl_fn, bl_fn]
    exact holds_flat hh hs.1
  · simp only [if_neg ht]
    refine ev_eq (ev_some _) ?_
    rw [encoded, if_neg ht]
    rfl
end
end Go.Proofs.Ytchldbhnohicoaa.Pure
