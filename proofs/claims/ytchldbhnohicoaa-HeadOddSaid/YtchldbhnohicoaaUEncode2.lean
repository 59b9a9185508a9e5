/- head.Encode: the row that it seals, or why there is none. -/
import Derived.Test.YtchldbhnohicoaaUEncode
import Derived.Test.YtchldbhnohicoaaUSum
namespace Go.Proofs.Ytchldbhnohicoaa.Pure
open Go.RowKit Go.Proofs.Ytchldbhnohicoaa.XA Go.Proofs.YtchldbhnohicoaaW.PrintWords Go.Proofs.YtchldbhnohicoaaW.PrintLast Go.Proofs.YtchldbhnohicoaaW.PrintMore
set_option linter.unusedSimpArgs false
set_option linter.unusedVariables false

def num (n : Int) (w : Nat) : List Int := oct n (w - 1) ++ [0]
def textsRow (a1 a2 a3 a4 a5 : ByteArray) : List Int := lay (lay (lay (lay (lay (List.replicate 512 0) 0 (bl a1)) 157 (bl a2)) 265 (bl a4)) 297 (bl a5)) 345 (bl a3)
def numsRow (row : List Int) (a7 a8 a9 a10 a11 : Int) : List Int := lay (lay (lay (lay (lay row 100 (num a7 8)) 108 (num a8 8)) 116 (num a9 8)) 124 (num a10 12)) 136 (num a11 12)
def magicRow (row : List Int) (a6 : Int) : List Int := lay (row.set 156 a6) 257 [117, 115, 116, 97, 114, 0, 48, 48]
def bareRow (a1 a2 a3 a4 a5 : ByteArray) (a6 a7 a8 a9 a10 a11 : Int) : List Int := magicRow (numsRow (textsRow a1 a2 a3 a4 a5) a7 a8 a9 a10 a11) a6
def textsFit (a1 a2 a3 a4 a5 : ByteArray) : Bool := fitsT a1 100 && (fitsT a2 100 && (fitsT a4 31 && (fitsT a5 31 && fitsT a3 155)))
def numsFit (a7 a8 a9 a10 a11 : Int) : Bool := fits a7 8 && (fits a8 8 && (fits a9 8 && (fits a10 12 && fits a11 12)))
def encoded (a1 a2 a3 a4 a5 : ByteArray) (a6 a7 a8 a9 a10 a11 : Int) : List Int × Int :=
  if textsFit a1 a2 a3 a4 a5 = true then (if numsFit a7 a8 a9 a10 a11 = true then (sealed (bareRow a1 a2 a3 a4 a5 a6 a7 a8 a9 a10 a11), 0) else ([], 20)) else ([], 2)

theorem num_length (n : Int) {w : Nat} (h : 1 ≤ w) : (num n w).length = w := by rw [num, List.length_append, oct_length]; simp; omega
theorem num_bytes (n : Int) (w : Nat) : Bytes (num n w) := (oct_bytes _ n).append (by intro c hc; simp at hc; omega)
theorem magic_bytes : Bytes [117, 115, 116, 97, 114, 0, 48, 48] := by intro c hc; simp at hc; omega
theorem zeros_bytes (n : Nat) : Bytes (List.replicate n (0 : Int)) := fun x hx => by have := List.eq_of_mem_replicate hx; omega

section
variable {a0 a6 a7 a8 a9 a10 a11 : Int} {a1 a2 a3 a4 a5 : ByteArray}
theorem encode_tail {row : List Int} (hrow : row.length = 512) (hb : Bytes row) (h0 : 0 ≤ a6) (h1 : a6 ≤ 255) (ys : List S63) :
    Ev (fun k => head_Encode.l1 k row ys 5 5 a0 a1 a2 a3 a4 a5 a6 a7 a8 a9 a10 a11) (sealed (magicRow row a6), 0) := by
  refine Ev.step (fun k => by rw [head_Encode.l1]) ?_
  have hs : (row.set 156 a6).length = 512 := by rw [List.length_set]; exact hrow
  have hsb : Bytes (row.set 156 a6) := bytes_set hb 156 h0 (by omega)
  have hm : bytesOf (⟨#[117, 115, 116, 97, 114, 0, 48, 48]⟩ : ByteArray) = [117, 115, 116, 97, 114, 0, 48, 48] := rfl
  have hz : (⟨#[117, 115, 116, 97, 114, 0, 48, 48]⟩ : ByteArray).size = 8 := rfl
  have e : (row.set 156 a6).take 257 ++ [117, 115, 116, 97, 114, 0, 48, 48] ++ (row.set 156 a6).drop (257 + 8) = magicRow row a6 := rfl
  have hl : (magicRow row a6).length = 512 := by rw [magicRow, lay_length (by rw [hs]; simp)]; exact hs
  have hmb : Bytes (magicRow row a6) := lay_bytes 257 hsb magic_bytes
  simp only [show ¬ ((5 : Int) < 5) by omega, if_false, hrow, show (156 : Int) < ((512 : Nat) : Int) by omega, if_true, Option.bind_some, show (156 : Int).toNat = 156 from rfl, show (257 : Int) ≤ ((512 : Nat) : Int) by omega, show (257 : Int) < ((512 : Nat) : Int) by omega, hs, hm, hz, show 257 + 8 ≤ 512 by omega, e,
    seal_f hmb hl]
  exact ev_some _
theorem encode_nums {row : List Int} (hrow : row.length = 512) (hb : Bytes row) (h0 : 0 ≤ a6) (h1 : a6 ≤ 255)
    (h7 : -9223372036854775808 ≤ a7 ∧ a7 ≤ 9223372036854775807) (h8 : -9223372036854775808 ≤ a8 ∧ a8 ≤ 9223372036854775807) (h9 : -9223372036854775808 ≤ a9 ∧ a9 ≤ 9223372036854775807) (h10 : -9223372036854775808 ≤ a10 ∧ a10 ≤ 9223372036854775807) (h11 : -9223372036854775808 ≤ a11 ∧ a11 ≤ 9223372036854775807)
    (ys : List S63) (hys : [(⟨a7, 100, 8⟩ : S63), (⟨a8, 108, 8⟩ : S63), (⟨a9, 116, 8⟩ : S63), (⟨a10, 124, 12⟩ : S63), (⟨a11, 136, 12⟩ : S63)] = ys) :
    Ev (fun k => head_Encode.l1 k row ys 5 0 a0 a1 a2 a3 a4 a5 a6 a7 a8 a9 a10 a11) (if numsFit a7 a8 a9 a10 a11 = true then (sealed (magicRow (numsRow row a7 a8 a9 a10 a11) a6), 0) else ([], 20)) := by
  have hy : ys.length = 5 := by rw [← hys]; rfl
  have l8 : ∀ n, (num n 8).length = 8 := fun n => num_length n (by omega)
  have l12 : ∀ n, (num n 12).length = 12 := fun n => num_length n (by omega)
  have r1 : (lay row 100 (num a7 8)).length = 512 := by rw [lay_length (by rw [l8]; omega)]; exact hrow
  have r2 : (lay (lay row 100 (num a7 8)) 108 (num a8 8)).length = 512 := by rw [lay_length (by rw [l8]; omega)]; exact r1
  have r3 : (lay (lay (lay row 100 (num a7 8)) 108 (num a8 8)) 116 (num a9 8)).length = 512 := by rw [lay_length (by rw [l8]; omega)]; exact r2
  have r4 : (lay (lay (lay (lay row 100 (num a7 8)) 108 (num a8 8)) 116 (num a9 8)) 124 (num a10 12)).length = 512 := by rw [lay_length (by rw [l12]; omega)]; exact r3
  have r5 : (numsRow row a7 a8 a9 a10 a11).length = 512 := by rw [numsRow, lay_length (by rw [l12]; omega)]; exact r4
  have b5 : Bytes (numsRow row a7 a8 a9 a10 a11) := lay_bytes _ (lay_bytes _ (lay_bytes _ (lay_bytes _ (lay_bytes _ hb (num_bytes _ _)) (num_bytes _ _)) (num_bytes _ _)) (num_bytes _ _)) (num_bytes _ _)
  refine enc_l1_step (i := 0) (p := 100) (w := 8) (n := a7) hrow (by omega) hy (by rw [← hys]; rfl) (by omega) (by omega) (by omega) h7.1 h7.2 (fun h => ?_) (fun f1 => ?_)
  · have h : fits a7 8 = false := h
    simp [numsFit, h]
  refine enc_l1_step (i := 1) (p := 108) (w := 8) (n := a8) r1 (by omega) hy (by rw [← hys]; rfl) (by omega) (by omega) (by omega) h8.1 h8.2 (fun h => ?_) (fun f2 => ?_)
  · have h : fits a8 8 = false := h
    simp [numsFit, h]
  refine enc_l1_step (i := 2) (p := 116) (w := 8) (n := a9) r2 (by omega) hy (by rw [← hys]; rfl) (by omega) (by omega) (by omega) h9.1 h9.2 (fun h => ?_) (fun f3 => ?_)
  · have h : fits a9 8 = false := h
    simp [numsFit, h]
  refine enc_l1_step (i := 3) (p := 124) (w := 12) (n := a10) r3 (by omega) hy (by rw [← hys]; rfl) (by omega) (by omega) (by omega) h10.1 h10.2 (fun h => ?_) (fun f4 => ?_)
  · have h : fits a10 12 = false := h
    simp [numsFit, h]
  refine enc_l1_step (i := 4) (p := 136) (w := 12) (n := a11) r4 (by omega) hy (by rw [← hys]; rfl) (by omega) (by omega) (by omega) h11.1 h11.2 (fun h => ?_) (fun f5 => ?_)
  · have h : fits a11 12 = false := h
    simp [numsFit, h]
  have f1 : fits a7 8 = true := f1
  have f2 : fits a8 8 = true := f2
  have f3 : fits a9 8 = true := f3
  have f4 : fits a10 12 = true := f4
  have f5 : fits a11 12 = true := f5
  have hn : numsFit a7 a8 a9 a10 a11 = true := by simp [numsFit, f1, f2, f3, f4, f5]
  rw [if_pos hn]
  exact encode_tail r5 b5 h0 h1 ys
theorem encode_ev (h6 : 0 ≤ a6 ∧ a6 ≤ 255)
    (h7 : -9223372036854775808 ≤ a7 ∧ a7 ≤ 9223372036854775807) (h8 : -9223372036854775808 ≤ a8 ∧ a8 ≤ 9223372036854775807) (h9 : -9223372036854775808 ≤ a9 ∧ a9 ≤ 9223372036854775807) (h10 : -9223372036854775808 ≤ a10 ∧ a10 ≤ 9223372036854775807) (h11 : -9223372036854775808 ≤ a11 ∧ a11 ≤ 9223372036854775807) :
    Ev (fun k => head_Encode.f k a0 a1 a2 a3 a4 a5 a6 a7 a8 a9 a10 a11) (encoded a1 a2 a3 a4 a5 a6 a7 a8 a9 a10 a11) := by
  unfold head_Encode.f
  simp only [show (512 : Nat) ≤ 281474976710656 by omega, if_true, Option.bind_some]
  generalize hys : [(⟨a1, 0, 100⟩ : S61), (⟨a2, 157, 257⟩ : S61), (⟨a4, 265, 296⟩ : S61), (⟨a5, 297, 328⟩ : S61), (⟨a3, 345, 500⟩ : S61)] = ys
  have hy : ys.length = 5 := by rw [← hys]; rfl
  have h5 : ((5 : Nat) : Int) = 5 := rfl
  simp only [hy, h5]
  have hz : (List.replicate 512 (0 : Int)).length = 512 := List.length_replicate
  refine enc_l0_step (i := 0) (s := a1) (p := 0) (q := 100) hz (by omega) hy (by rw [← hys]; rfl) (by omega) (by omega) (fun h => ?_) (fun f1 => ?_)
  · have h : fitsT a1 100 = false := h
    simp [encoded, textsFit, h]
  have f1 : fitsT a1 100 = true := f1
  have s1 := fitsT_size f1
  have e1 := bl_length a1
  have r1 : (lay (List.replicate 512 0) 0 (bl a1)).length = 512 := by rw [lay_length (by omega)]; exact hz
  refine enc_l0_step (i := 1) (s := a2) (p := 157) (q := 257) r1 (by omega) hy (by rw [← hys]; rfl) (by omega) (by omega) (fun h => ?_) (fun f2 => ?_)
  · have h : fitsT a2 100 = false := h
    simp [encoded, textsFit, h]
  have f2 : fitsT a2 100 = true := f2
  have s2 := fitsT_size f2
  have e2 := bl_length a2
  have r2 : (lay (lay (List.replicate 512 0) 0 (bl a1)) 157 (bl a2)).length = 512 := by rw [lay_length (by omega)]; exact r1
  refine enc_l0_step (i := 2) (s := a4) (p := 265) (q := 296) r2 (by omega) hy (by rw [← hys]; rfl) (by omega) (by omega) (fun h => ?_) (fun f3 => ?_)
  · have h : fitsT a4 31 = false := h
    simp [encoded, textsFit, h]
  have f3 : fitsT a4 31 = true := f3
  have s3 := fitsT_size f3
  have e3 := bl_length a4
  have r3 : (lay (lay (lay (List.replicate 512 0) 0 (bl a1)) 157 (bl a2)) 265 (bl a4)).length = 512 := by rw [lay_length (by omega)]; exact r2
  refine enc_l0_step (i := 3) (s := a5) (p := 297) (q := 328) r3 (by omega) hy (by rw [← hys]; rfl) (by omega) (by omega) (fun h => ?_) (fun f4 => ?_)
  · have h : fitsT a5 31 = false := h
    simp [encoded, textsFit, h]
  have f4 : fitsT a5 31 = true := f4
  have s4 := fitsT_size f4
  have e4 := bl_length a5
  have r4 : (lay (lay (lay (lay (List.replicate 512 0) 0 (bl a1)) 157 (bl a2)) 265 (bl a4)) 297 (bl a5)).length = 512 := by rw [lay_length (by omega)]; exact r3
  refine enc_l0_step (i := 4) (s := a3) (p := 345) (q := 500) r4 (by omega) hy (by rw [← hys]; rfl) (by omega) (by omega) (fun h => ?_) (fun f5 => ?_)
  · have h : fitsT a3 155 = false := h
    simp [encoded, textsFit, h]
  have f5 : fitsT a3 155 = true := f5
  have s5 := fitsT_size f5
  have e5 := bl_length a3
  have r5 : (textsRow a1 a2 a3 a4 a5).length = 512 := by rw [textsRow, lay_length (by omega)]; exact r4
  have b5 : Bytes (textsRow a1 a2 a3 a4 a5) := lay_bytes _ (lay_bytes _ (lay_bytes _ (lay_bytes _ (lay_bytes _ (zeros_bytes 512) (bl_bytes _)) (bl_bytes _)) (bl_bytes _)) (bl_bytes _)) (bl_bytes _)
  have hf : textsFit a1 a2 a3 a4 a5 = true := by simp [textsFit, f1, f2, f3, f4, f5]
  refine Ev.step (fun k => by rw [head_Encode.l0]) ?_
  simp only [show ¬ (((4 + 1 : Nat) : Int) < 5) by omega, if_false, Option.bind_some]
  generalize hzs : [(⟨a7, 100, 8⟩ : S63), (⟨a8, 108, 8⟩ : S63), (⟨a9, 116, 8⟩ : S63), (⟨a10, 124, 12⟩ : S63), (⟨a11, 136, 12⟩ : S63)] = zs
  have hzl : zs.length = 5 := by rw [← hzs]; rfl
  simp only [hzl, h5]
  refine ev_eq (encode_nums r5 b5 h6.1 h6.2 h7 h8 h9 h10 h11 zs hzs) ?_
  rw [encoded, if_pos hf]
  rfl
end
end Go.Proofs.Ytchldbhnohicoaa.Pure
