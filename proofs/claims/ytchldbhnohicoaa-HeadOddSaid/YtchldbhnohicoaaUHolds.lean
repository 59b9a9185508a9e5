/- The fields of an encoded header, and that it is read as it was written. Printed by wip/tools/gen_holds.py. -/
import Derived.Test.YtchldbhnohicoaaUDecode
import Derived.Test.YtchldbhnohicoaaUEncode2
namespace Go.Proofs.Ytchldbhnohicoaa.Pure
open Go.RowKit Go.Proofs.Ytchldbhnohicoaa.XA Go.Proofs.YtchldbhnohicoaaW.PrintWords Go.Proofs.YtchldbhnohicoaaW.PrintLast Go.Proofs.YtchldbhnohicoaaW.PrintMore
set_option linter.unusedSimpArgs false
set_option linter.unusedVariables false

theorem fl_after {l b : List Int} {i p q : Nat} (hl : l.length = 512) (h : i + b.length ≤ 512) (hpq : p ≤ q) (ho : q ≤ i ∨ i + b.length ≤ p) : fl (lay l i b) p q = fl l p q := by
  have := field_after (l := l) (b := b) (i := i) (p := p) (n := q - p) (by omega) (by omega)
  rw [show p + (q - p) = q by omega] at this
  exact this
theorem fl_own {l b : List Int} {i q : Nat} (hl : l.length = 512) (h : i + b.length ≤ 512) (hq : i + b.length ≤ q) : fl (lay l i b) i q = b ++ fl l (i + b.length) q := by
  have := field_own (l := l) (b := b) (i := i) (n := q - i) (by omega) (by omega)
  rw [show i + (q - i) = q by omega] at this
  exact this
theorem fl_after' {l l' b : List Int} {i p q : Nat} (e : l' = lay l i b) (hl : l.length = 512) (h : i + b.length ≤ 512) (hpq : p ≤ q) (ho : q ≤ i ∨ i + b.length ≤ p) : fl l' p q = fl l p q := by
  subst e
  exact fl_after hl h hpq ho
theorem fl_own' {l l' b : List Int} {i q : Nat} (e : l' = lay l i b) (hl : l.length = 512) (h : i + b.length ≤ 512) (hq : i + b.length ≤ q) : fl l' i q = b ++ fl l (i + b.length) q := by
  subst e
  exact fl_own hl h hq
theorem fl_zeros {p q : Nat} (h : q ≤ 512) : fl (List.replicate 512 (0 : Int)) p q = List.replicate (q - p) 0 := by
  simp only [fl, List.take_replicate, List.drop_replicate]
  congr 1
  omega
theorem fl_full {b l : List Int} {i q : Nat} (hl : l.length = 512) (h : i + b.length = q) (hq : q ≤ 512) : fl (lay l i b) i q = b := by
  rw [fl_own hl (by omega) (by omega), h]
  have : fl l q q = [] := by
    apply List.eq_nil_of_length_eq_zero
    simp only [fl, List.length_drop, List.length_take]
    omega
  rw [this, List.append_nil]
theorem fl_full' {b l l' : List Int} {i q : Nat} (e : l' = lay l i b) (hl : l.length = 512) (h : i + b.length = q) (hq : q ≤ 512) : fl l' i q = b := by
  subst e
  exact fl_full hl h hq
theorem fl_one {l : List Int} {p : Nat} (h : p < l.length) : fl l p (p + 1) = [rd l (p : Int)] := by
  simp only [fl]
  rw [List.take_succ_eq_append_getElem h, List.drop_append_of_le_length (by rw [List.length_take]; omega)]
  have : (l.take p).drop p = [] := by
    apply List.eq_nil_of_length_eq_zero
    simp only [List.length_drop, List.length_take]
    omega
  rw [this, List.nil_append, rd_nat, List.getD_eq_getElem?_getD, List.getElem?_eq_getElem h]
  rfl
theorem set_lay {l : List Int} {i : Nat} (v : Int) (h : i < l.length) : l.set i v = lay l i [v] := by
  rw [lay, List.set_eq_take_append_cons_drop, if_pos h]
  simp
theorem lay_row {l b : List Int} {i : Nat} (hl : l.length = 512) (h : i + b.length ≤ 512) : (lay l i b).length = 512 := by
  rw [lay_length (by omega)]
  exact hl
theorem lay_row' {l l' b : List Int} {i : Nat} (e : l' = lay l i b) (hl : l.length = 512) (h : i + b.length ≤ 512) : l'.length = 512 := by
  subst e
  exact lay_row hl h
theorem lay_bytes' {l l' b : List Int} {i : Nat} (e : l' = lay l i b) (hl : Bytes l) (hb : Bytes b) : Bytes l' := by
  subst e
  exact lay_bytes i hl hb
structure Holds (L : List Int) (m : List Int) (a1 a2 a3 a4 a5 : ByteArray) (a6 a7 a8 a9 a10 a11 : Int) : Prop where
  len : L.length = 512
  bytes : Bytes L
  h_name : fl L 0 100 = bl a1 ++ List.replicate (100 - a1.size) 0
  h_mode : fl L 100 108 = num a7 8
  h_uid : fl L 108 116 = num a8 8
  h_gid : fl L 116 124 = num a9 8
  h_size : fl L 124 136 = num a10 12
  h_mtime : fl L 136 148 = num a11 12
  h_typ : fl L 156 157 = [a6]
  h_link : fl L 157 257 = bl a2 ++ List.replicate (100 - a2.size) 0
  h_magic : fl L 257 265 = m
  h_user : fl L 265 297 = bl a4 ++ List.replicate (32 - a4.size) 0
  h_group : fl L 297 329 = bl a5 ++ List.replicate (32 - a5.size) 0
  h_prefix : fl L 345 500 = bl a3 ++ List.replicate (155 - a3.size) 0
  h_gap : fl L 329 345 = List.replicate 16 0
  h_rest : fl L 500 512 = List.replicate 12 0
section
variable {L m m' : List Int} {a6 a7 a8 a9 a10 a11 : Int} {a1 a2 a3 a4 a5 : ByteArray}
theorem Holds.lay148 (h : Holds L m a1 a2 a3 a4 a5 a6 a7 a8 a9 a10 a11) {b : List Int} (hb : b.length = 8) (hy : Bytes b) : Holds (lay L 148 b) m a1 a2 a3 a4 a5 a6 a7 a8 a9 a10 a11 :=
  ⟨lay_row h.len (by omega), lay_bytes _ h.bytes hy, (fl_after h.len (by omega) (by omega) (by omega)).trans h.h_name, (fl_after h.len (by omega) (by omega) (by omega)).trans h.h_mode, (fl_after h.len (by omega) (by omega) (by omega)).trans h.h_uid, (fl_after h.len (by omega) (by omega) (by omega)).trans h.h_gid, (fl_after h.len (by omega) (by omega) (by omega)).trans h.h_size, (fl_after h.len (by omega) (by omega) (by omega)).trans h.h_mtime, (fl_after h.len (by omega) (by omega) (by omega)).trans h.h_typ, (fl_after h.len (by omega) (by omega) (by omega)).trans h.h_link, (fl_after h.len (by omega) (by omega) (by omega)).trans h.h_magic, (fl_after h.len (by omega) (by omega) (by omega)).trans h.h_user, (fl_after h.len (by omega) (by omega) (by omega)).trans h.h_group, (fl_after h.len (by omega) (by omega) (by omega)).trans h.h_prefix, (fl_after h.len (by omega) (by omega) (by omega)).trans h.h_gap, (fl_after h.len (by omega) (by omega) (by omega)).trans h.h_rest⟩
theorem Holds.lay257 (h : Holds L m a1 a2 a3 a4 a5 a6 a7 a8 a9 a10 a11) (hb : m'.length = 8) (hy : Bytes m') : Holds (lay L 257 m') m' a1 a2 a3 a4 a5 a6 a7 a8 a9 a10 a11 :=
  ⟨lay_row h.len (by omega), lay_bytes _ h.bytes hy, (fl_after h.len (by omega) (by omega) (by omega)).trans h.h_name, (fl_after h.len (by omega) (by omega) (by omega)).trans h.h_mode, (fl_after h.len (by omega) (by omega) (by omega)).trans h.h_uid, (fl_after h.len (by omega) (by omega) (by omega)).trans h.h_gid, (fl_after h.len (by omega) (by omega) (by omega)).trans h.h_size, (fl_after h.len (by omega) (by omega) (by omega)).trans h.h_mtime, (fl_after h.len (by omega) (by omega) (by omega)).trans h.h_typ, (fl_after h.len (by omega) (by omega) (by omega)).trans h.h_link, fl_full h.len (by omega) (by omega), (fl_after h.len (by omega) (by omega) (by omega)).trans h.h_user, (fl_after h.len (by omega) (by omega) (by omega)).trans h.h_group, (fl_after h.len (by omega) (by omega) (by omega)).trans h.h_prefix, (fl_after h.len (by omega) (by omega) (by omega)).trans h.h_gap, (fl_after h.len (by omega) (by omega) (by omega)).trans h.h_rest⟩
theorem sealed_lay (l : List Int) : sealed l = lay l 148 (oct (total plainOne 0 l) 6 ++ [0, 32]) := by
  rw [sealed_eq, lay, tail_length]
theorem Holds.sealed (h : Holds L m a1 a2 a3 a4 a5 a6 a7 a8 a9 a10 a11) : Holds (sealed L) m a1 a2 a3 a4 a5 a6 a7 a8 a9 a10 a11 := by
  rw [sealed_lay]
  exact h.lay148 (tail_length _) (tail_bytes _)
theorem bare_eq (a1 a2 a3 a4 a5 : ByteArray) (a6 a7 a8 a9 a10 a11 : Int) (s1 : a1.size ≤ 100) (s2 : a2.size ≤ 100) (s3 : a3.size ≤ 155) (s4 : a4.size ≤ 31) (s5 : a5.size ≤ 31) : bareRow a1 a2 a3 a4 a5 a6 a7 a8 a9 a10 a11 = (lay (lay (lay (lay (lay (lay (lay (lay (lay (lay (lay (lay (List.replicate 512 (0 : Int)) 0 (bl a1)) 157 (bl a2)) 265 (bl a4)) 297 (bl a5)) 345 (bl a3)) 100 (num a7 8)) 108 (num a8 8)) 116 (num a9 8)) 124 (num a10 12)) 136 (num a11 12)) 156 [a6]) 257 [117, 115, 116, 97, 114, 0, 48, 48]) := by
  unfold bareRow magicRow numsRow textsRow
  rw [set_lay a6 ?_]
  have e1 := bl_length a1
  have e2 := bl_length a2
  have e3 := bl_length a3
  have e4 := bl_length a4
  have e5 := bl_length a5
  have l8 : ∀ n, (num n 8).length = 8 := fun n => num_length n (by omega)
  have l12 : ∀ n, (num n 12).length = 12 := fun n => num_length n (by omega)
  have q0 : (List.replicate 512 (0 : Int)).length = 512 := List.length_replicate
  have q1 : (lay (List.replicate 512 (0 : Int)) 0 (bl a1)).length = 512 := lay_row q0 (by omega)
  have q2 : (lay (lay (List.replicate 512 (0 : Int)) 0 (bl a1)) 157 (bl a2)).length = 512 := lay_row q1 (by omega)
  have q3 : (lay (lay (lay (List.replicate 512 (0 : Int)) 0 (bl a1)) 157 (bl a2)) 265 (bl a4)).length = 512 := lay_row q2 (by omega)
  have q4 : (lay (lay (lay (lay (List.replicate 512 (0 : Int)) 0 (bl a1)) 157 (bl a2)) 265 (bl a4)) 297 (bl a5)).length = 512 := lay_row q3 (by omega)
  have q5 : (lay (lay (lay (lay (lay (List.replicate 512 (0 : Int)) 0 (bl a1)) 157 (bl a2)) 265 (bl a4)) 297 (bl a5)) 345 (bl a3)).length = 512 := lay_row q4 (by omega)
  have q6 : (lay (lay (lay (lay (lay (lay (List.replicate 512 (0 : Int)) 0 (bl a1)) 157 (bl a2)) 265 (bl a4)) 297 (bl a5)) 345 (bl a3)) 100 (num a7 8)).length = 512 := lay_row q5 (by have := l8 a7; omega)
  have q7 : (lay (lay (lay (lay (lay (lay (lay (List.replicate 512 (0 : Int)) 0 (bl a1)) 157 (bl a2)) 265 (bl a4)) 297 (bl a5)) 345 (bl a3)) 100 (num a7 8)) 108 (num a8 8)).length = 512 := lay_row q6 (by have := l8 a8; omega)
  have q8 : (lay (lay (lay (lay (lay (lay (lay (lay (List.replicate 512 (0 : Int)) 0 (bl a1)) 157 (bl a2)) 265 (bl a4)) 297 (bl a5)) 345 (bl a3)) 100 (num a7 8)) 108 (num a8 8)) 116 (num a9 8)).length = 512 := lay_row q7 (by have := l8 a9; omega)
  have q9 : (lay (lay (lay (lay (lay (lay (lay (lay (lay (List.replicate 512 (0 : Int)) 0 (bl a1)) 157 (bl a2)) 265 (bl a4)) 297 (bl a5)) 345 (bl a3)) 100 (num a7 8)) 108 (num a8 8)) 116 (num a9 8)) 124 (num a10 12)).length = 512 := lay_row q8 (by have := l12 a10; omega)
  have q10 : (lay (lay (lay (lay (lay (lay (lay (lay (lay (lay (List.replicate 512 (0 : Int)) 0 (bl a1)) 157 (bl a2)) 265 (bl a4)) 297 (bl a5)) 345 (bl a3)) 100 (num a7 8)) 108 (num a8 8)) 116 (num a9 8)) 124 (num a10 12)) 136 (num a11 12)).length = 512 := lay_row q9 (by have := l12 a11; omega)
  omega
theorem bare_aux {r0 r1 r2 r3 r4 r5 r6 r7 r8 r9 r10 r11 r12 : List Int} (z : r0 = List.replicate 512 (0 : Int)) (k1 : r1 = lay r0 0 (bl a1)) (k2 : r2 = lay r1 157 (bl a2)) (k3 : r3 = lay r2 265 (bl a4)) (k4 : r4 = lay r3 297 (bl a5)) (k5 : r5 = lay r4 345 (bl a3)) (k6 : r6 = lay r5 100 (num a7 8)) (k7 : r7 = lay r6 108 (num a8 8)) (k8 : r8 = lay r7 116 (num a9 8)) (k9 : r9 = lay r8 124 (num a10 12)) (k10 : r10 = lay r9 136 (num a11 12)) (k11 : r11 = lay r10 156 [a6]) (k12 : r12 = lay r11 257 [117, 115, 116, 97, 114, 0, 48, 48])
    (s1 : a1.size ≤ 100) (s2 : a2.size ≤ 100) (s3 : a3.size ≤ 155) (s4 : a4.size ≤ 31) (s5 : a5.size ≤ 31) (h6 : 0 ≤ a6 ∧ a6 ≤ 255) : Holds r12 [117, 115, 116, 97, 114, 0, 48, 48] a1 a2 a3 a4 a5 a6 a7 a8 a9 a10 a11 := by
  have e1 := bl_length a1
  have e2 := bl_length a2
  have e3 := bl_length a3
  have e4 := bl_length a4
  have e5 := bl_length a5
  have l7 : (num a7 8).length = 8 := num_length _ (by omega)
  have l8 : (num a8 8).length = 8 := num_length _ (by omega)
  have l9 : (num a9 8).length = 8 := num_length _ (by omega)
  have l10 : (num a10 12).length = 12 := num_length _ (by omega)
  have l11 : (num a11 12).length = 12 := num_length _ (by omega)
  have t6 : Bytes [a6] := by intro c hc; simp at hc; omega
  have lm : [117, 115, 116, 97, 114, 0, 48, (48 : Int)].length = 8 := rfl
  have l6 : [a6].length = 1 := rfl
  have q0 : r0.length = 512 := by rw [z]; exact List.length_replicate
  have y0 : Bytes r0 := by rw [z]; exact zeros_bytes 512
  have q1 : r1.length = 512 := lay_row' k1 q0 (by omega)
  have y1 : Bytes r1 := lay_bytes' k1 y0 (bl_bytes _)
  have q2 : r2.length = 512 := lay_row' k2 q1 (by omega)
  have y2 : Bytes r2 := lay_bytes' k2 y1 (bl_bytes _)
  have q3 : r3.length = 512 := lay_row' k3 q2 (by omega)
  have y3 : Bytes r3 := lay_bytes' k3 y2 (bl_bytes _)
  have q4 : r4.length = 512 := lay_row' k4 q3 (by omega)
  have y4 : Bytes r4 := lay_bytes' k4 y3 (bl_bytes _)
  have q5 : r5.length = 512 := lay_row' k5 q4 (by omega)
  have y5 : Bytes r5 := lay_bytes' k5 y4 (bl_bytes _)
  have q6 : r6.length = 512 := lay_row' k6 q5 (by omega)
  have y6 : Bytes r6 := lay_bytes' k6 y5 (num_bytes _ _)
  have q7 : r7.length = 512 := lay_row' k7 q6 (by omega)
  have y7 : Bytes r7 := lay_bytes' k7 y6 (num_bytes _ _)
  have q8 : r8.length = 512 := lay_row' k8 q7 (by omega)
  have y8 : Bytes r8 := lay_bytes' k8 y7 (num_bytes _ _)
  have q9 : r9.length = 512 := lay_row' k9 q8 (by omega)
  have y9 : Bytes r9 := lay_bytes' k9 y8 (num_bytes _ _)
  have q10 : r10.length = 512 := lay_row' k10 q9 (by omega)
  have y10 : Bytes r10 := lay_bytes' k10 y9 (num_bytes _ _)
  have q11 : r11.length = 512 := lay_row' k11 q10 (by omega)
  have y11 : Bytes r11 := lay_bytes' k11 y10 (t6)
  have q12 : r12.length = 512 := lay_row' k12 q11 (by omega)
  have y12 : Bytes r12 := lay_bytes' k12 y11 (magic_bytes)
  refine ⟨q12, y12, ?_, ?_, ?_, ?_, ?_, ?_, ?_, ?_, ?_, ?_, ?_, ?_, ?_, ?_⟩
  · refine (fl_after' k12 q11 (by omega) (by omega) (by omega)).trans <| (fl_after' k11 q10 (by omega) (by omega) (by omega)).trans <| (fl_after' k10 q9 (by omega) (by omega) (by omega)).trans <| (fl_after' k9 q8 (by omega) (by omega) (by omega)).trans <| (fl_after' k8 q7 (by omega) (by omega) (by omega)).trans <| (fl_after' k7 q6 (by omega) (by omega) (by omega)).trans <| (fl_after' k6 q5 (by omega) (by omega) (by omega)).trans <| (fl_after' k5 q4 (by omega) (by omega) (by omega)).trans <| (fl_after' k4 q3 (by omega) (by omega) (by omega)).trans <| (fl_after' k3 q2 (by omega) (by omega) (by omega)).trans <| (fl_after' k2 q1 (by omega) (by omega) (by omega)).trans <| (fl_own' k1 q0 (by omega) (by omega)).trans ?_
    refine congrArg (bl a1 ++ ·) (((congrArg (fl · _ _) z).trans (fl_zeros (by omega))).trans ?_)
    congr 1
    omega
  · exact (fl_after' k12 q11 (by omega) (by omega) (by omega)).trans <| (fl_after' k11 q10 (by omega) (by omega) (by omega)).trans <| (fl_after' k10 q9 (by omega) (by omega) (by omega)).trans <| (fl_after' k9 q8 (by omega) (by omega) (by omega)).trans <| (fl_after' k8 q7 (by omega) (by omega) (by omega)).trans <| (fl_after' k7 q6 (by omega) (by omega) (by omega)).trans <| fl_full' k6 q5 (by omega) (by omega)
  · exact (fl_after' k12 q11 (by omega) (by omega) (by omega)).trans <| (fl_after' k11 q10 (by omega) (by omega) (by omega)).trans <| (fl_after' k10 q9 (by omega) (by omega) (by omega)).trans <| (fl_after' k9 q8 (by omega) (by omega) (by omega)).trans <| (fl_after' k8 q7 (by omega) (by omega) (by omega)).trans <| fl_full' k7 q6 (by omega) (by omega)
  · exact (fl_after' k12 q11 (by omega) (by omega) (by omega)).trans <| (fl_after' k11 q10 (by omega) (by omega) (by omega)).trans <| (fl_after' k10 q9 (by omega) (by omega) (by omega)).trans <| (fl_after' k9 q8 (by omega) (by omega) (by omega)).trans <| fl_full' k8 q7 (by omega) (by omega)
  · exact (fl_after' k12 q11 (by omega) (by omega) (by omega)).trans <| (fl_after' k11 q10 (by omega) (by omega) (by omega)).trans <| (fl_after' k10 q9 (by omega) (by omega) (by omega)).trans <| fl_full' k9 q8 (by omega) (by omega)
  · exact (fl_after' k12 q11 (by omega) (by omega) (by omega)).trans <| (fl_after' k11 q10 (by omega) (by omega) (by omega)).trans <| fl_full' k10 q9 (by omega) (by omega)
  · exact (fl_after' k12 q11 (by omega) (by omega) (by omega)).trans <| fl_full' k11 q10 (by omega) (by omega)
  · refine (fl_after' k12 q11 (by omega) (by omega) (by omega)).trans <| (fl_after' k11 q10 (by omega) (by omega) (by omega)).trans <| (fl_after' k10 q9 (by omega) (by omega) (by omega)).trans <| (fl_after' k9 q8 (by omega) (by omega) (by omega)).trans <| (fl_after' k8 q7 (by omega) (by omega) (by omega)).trans <| (fl_after' k7 q6 (by omega) (by omega) (by omega)).trans <| (fl_after' k6 q5 (by omega) (by omega) (by omega)).trans <| (fl_after' k5 q4 (by omega) (by omega) (by omega)).trans <| (fl_after' k4 q3 (by omega) (by omega) (by omega)).trans <| (fl_after' k3 q2 (by omega) (by omega) (by omega)).trans <| (fl_own' k2 q1 (by omega) (by omega)).trans ?_
    refine congrArg (bl a2 ++ ·) ((fl_after' k1 q0 (by omega) (by omega) (by omega)).trans <| ((congrArg (fl · _ _) z).trans (fl_zeros (by omega))).trans ?_)
    congr 1
    omega
  · exact fl_full' k12 q11 (by omega) (by omega)
  · refine (fl_after' k12 q11 (by omega) (by omega) (by omega)).trans <| (fl_after' k11 q10 (by omega) (by omega) (by omega)).trans <| (fl_after' k10 q9 (by omega) (by omega) (by omega)).trans <| (fl_after' k9 q8 (by omega) (by omega) (by omega)).trans <| (fl_after' k8 q7 (by omega) (by omega) (by omega)).trans <| (fl_after' k7 q6 (by omega) (by omega) (by omega)).trans <| (fl_after' k6 q5 (by omega) (by omega) (by omega)).trans <| (fl_after' k5 q4 (by omega) (by omega) (by omega)).trans <| (fl_after' k4 q3 (by omega) (by omega) (by omega)).trans <| (fl_own' k3 q2 (by omega) (by omega)).trans ?_
    refine congrArg (bl a4 ++ ·) ((fl_after' k2 q1 (by omega) (by omega) (by omega)).trans <| (fl_after' k1 q0 (by omega) (by omega) (by omega)).trans <| ((congrArg (fl · _ _) z).trans (fl_zeros (by omega))).trans ?_)
    congr 1
    omega
  · refine (fl_after' k12 q11 (by omega) (by omega) (by omega)).trans <| (fl_after' k11 q10 (by omega) (by omega) (by omega)).trans <| (fl_after' k10 q9 (by omega) (by omega) (by omega)).trans <| (fl_after' k9 q8 (by omega) (by omega) (by omega)).trans <| (fl_after' k8 q7 (by omega) (by omega) (by omega)).trans <| (fl_after' k7 q6 (by omega) (by omega) (by omega)).trans <| (fl_after' k6 q5 (by omega) (by omega) (by omega)).trans <| (fl_after' k5 q4 (by omega) (by omega) (by omega)).trans <| (fl_own' k4 q3 (by omega) (by omega)).trans ?_
    refine congrArg (bl a5 ++ ·) ((fl_after' k3 q2 (by omega) (by omega) (by omega)).trans <| (fl_after' k2 q1 (by omega) (by omega) (by omega)).trans <| (fl_after' k1 q0 (by omega) (by omega) (by omega)).trans <| ((congrArg (fl · _ _) z).trans (fl_zeros (by omega))).trans ?_)
    congr 1
    omega
  · refine (fl_after' k12 q11 (by omega) (by omega) (by omega)).trans <| (fl_after' k11 q10 (by omega) (by omega) (by omega)).trans <| (fl_after' k10 q9 (by omega) (by omega) (by omega)).trans <| (fl_after' k9 q8 (by omega) (by omega) (by omega)).trans <| (fl_after' k8 q7 (by omega) (by omega) (by omega)).trans <| (fl_after' k7 q6 (by omega) (by omega) (by omega)).trans <| (fl_after' k6 q5 (by omega) (by omega) (by omega)).trans <| (fl_own' k5 q4 (by omega) (by omega)).trans ?_
    refine congrArg (bl a3 ++ ·) ((fl_after' k4 q3 (by omega) (by omega) (by omega)).trans <| (fl_after' k3 q2 (by omega) (by omega) (by omega)).trans <| (fl_after' k2 q1 (by omega) (by omega) (by omega)).trans <| (fl_after' k1 q0 (by omega) (by omega) (by omega)).trans <| ((congrArg (fl · _ _) z).trans (fl_zeros (by omega))).trans ?_)
    congr 1
    omega
  · exact (fl_after' k12 q11 (by omega) (by omega) (by omega)).trans <| (fl_after' k11 q10 (by omega) (by omega) (by omega)).trans <| (fl_after' k10 q9 (by omega) (by omega) (by omega)).trans <| (fl_after' k9 q8 (by omega) (by omega) (by omega)).trans <| (fl_after' k8 q7 (by omega) (by omega) (by omega)).trans <| (fl_after' k7 q6 (by omega) (by omega) (by omega)).trans <| (fl_after' k6 q5 (by omega) (by omega) (by omega)).trans <| (fl_after' k5 q4 (by omega) (by omega) (by omega)).trans <| (fl_after' k4 q3 (by omega) (by omega) (by omega)).trans <| (fl_after' k3 q2 (by omega) (by omega) (by omega)).trans <| (fl_after' k2 q1 (by omega) (by omega) (by omega)).trans <| (fl_after' k1 q0 (by omega) (by omega) (by omega)).trans <| (congrArg (fl · _ _) z).trans (fl_zeros (by omega))
  · exact (fl_after' k12 q11 (by omega) (by omega) (by omega)).trans <| (fl_after' k11 q10 (by omega) (by omega) (by omega)).trans <| (fl_after' k10 q9 (by omega) (by omega) (by omega)).trans <| (fl_after' k9 q8 (by omega) (by omega) (by omega)).trans <| (fl_after' k8 q7 (by omega) (by omega) (by omega)).trans <| (fl_after' k7 q6 (by omega) (by omega) (by omega)).trans <| (fl_after' k6 q5 (by omega) (by omega) (by omega)).trans <| (fl_after' k5 q4 (by omega) (by omega) (by omega)).trans <| (fl_after' k4 q3 (by omega) (by omega) (by omega)).trans <| (fl_after' k3 q2 (by omega) (by omega) (by omega)).trans <| (fl_after' k2 q1 (by omega) (by omega) (by omega)).trans <| (fl_after' k1 q0 (by omega) (by omega) (by omega)).trans <| (congrArg (fl · _ _) z).trans (fl_zeros (by omega))
theorem bare_holds (s1 : a1.size ≤ 100) (s2 : a2.size ≤ 100) (s3 : a3.size ≤ 155) (s4 : a4.size ≤ 31) (s5 : a5.size ≤ 31) (h6 : 0 ≤ a6 ∧ a6 ≤ 255) : Holds (bareRow a1 a2 a3 a4 a5 a6 a7 a8 a9 a10 a11) [117, 115, 116, 97, 114, 0, 48, 48] a1 a2 a3 a4 a5 a6 a7 a8 a9 a10 a11 := by
  rw [bare_eq a1 a2 a3 a4 a5 a6 a7 a8 a9 a10 a11 s1 s2 s3 s4 s5]
  exact bare_aux rfl rfl rfl rfl rfl rfl rfl rfl rfl rfl rfl rfl rfl s1 s2 s3 s4 s5 h6
theorem tx_own {a : ByteArray} (h : no0 (bl a) = true) (n : Nat) : tx (bl a ++ List.replicate n 0) = a := by
  rw [tx, upto0_zeros h]
  apply bl_inj
  rw [bl_strOfNums (bl_bytes a)]
def formOf (m : List Int) : Nat := if m = [117, 115, 116, 97, 114, 0, 48, 48] then 1 else if m = [117, 115, 116, 97, 114, 32, 32, 0] then 2 else 0
theorem dec_holds (h : Holds L m a1 a2 a3 a4 a5 a6 a7 a8 a9 a10 a11) (hr : rightB L = true) (ht : textsFit a1 a2 a3 a4 a5 = true) (hn : numsFit a7 a8 a9 a10 a11 = true)
    (r7 : a7 ≤ 9223372036854775807) (r8 : a8 ≤ 9223372036854775807) (r9 : a9 ≤ 9223372036854775807) (r10 : a10 ≤ 9223372036854775807) (r11 : a11 ≤ 9223372036854775807) :
    dec L = ((formOf m : Int), a1, a2, if formOf m = 1 then a3 else ⟨#[]⟩, if formOf m = 0 then ⟨#[]⟩ else a4, if formOf m = 0 then ⟨#[]⟩ else a5, a6, a7, a8, a9, a10, a11, 0) := by
  simp only [textsFit, numsFit, Bool.and_eq_true] at ht hn
  obtain ⟨f1, f2, f4, f5, f3⟩ := ht
  obtain ⟨g7, g8, g9, g10, g11⟩ := hn
  have p7 : parse (fl L 100 108) = (a7, 0) := by rw [h.h_mode]; exact parse_fmt (w := 8) (by omega) r7 g7
  have p8 : parse (fl L 108 116) = (a8, 0) := by rw [h.h_uid]; exact parse_fmt (w := 8) (by omega) r8 g8
  have p9 : parse (fl L 116 124) = (a9, 0) := by rw [h.h_gid]; exact parse_fmt (w := 8) (by omega) r9 g9
  have p10 : parse (fl L 124 136) = (a10, 0) := by rw [h.h_size]; exact parse_fmt (w := 12) (by omega) r10 g10
  have p11 : parse (fl L 136 148) = (a11, 0) := by rw [h.h_mtime]; exact parse_fmt (w := 12) (by omega) r11 g11
  have hd : dnums L 5 0 [0, 0, 0, 0, 0] = ([a7, a8, a9, a10, a11], 0) := by
    simp only [dnums, show fr 0 = 100 from rfl, show fr (0 + 1) = 108 from rfl, show fr (0 + 1 + 1) = 116 from rfl, show fr (0 + 1 + 1 + 1) = 124 from rfl, show fr (0 + 1 + 1 + 1 + 1) = 136 from rfl, show fr (0 + 1 + 1 + 1 + 1 + 1) = 148 from rfl, p7, p8, p9, p10, p11, if_true]
    rfl
  have ht6 : rd L 156 = a6 := by
    have := fl_one (l := L) (p := 156) (by rw [h.len]; omega)
    rw [h.h_typ] at this
    injection this with this
    exact this.symm
  have hm : mg L = formOf m := by
    unfold mg formOf
    rw [h.h_magic]
  rw [dec, if_pos h.len, if_pos hr, dbody, hd]
  simp only [if_true, dtail, hm, ht6, h.h_name, h.h_link, h.h_user, h.h_group, h.h_prefix, tx_own (fitsT_no0 f1), tx_own (fitsT_no0 f2), tx_own (fitsT_no0 f3), tx_own (fitsT_no0 f4), tx_own (fitsT_no0 f5)]
  rfl
theorem textsFit_sizes (h : textsFit a1 a2 a3 a4 a5 = true) : a1.size ≤ 100 ∧ a2.size ≤ 100 ∧ a3.size ≤ 155 ∧ a4.size ≤ 31 ∧ a5.size ≤ 31 := by
  simp only [textsFit, Bool.and_eq_true] at h
  obtain ⟨f1, f2, f4, f5, f3⟩ := h
  have := fitsT_size f1
  have := fitsT_size f2
  have := fitsT_size f3
  have := fitsT_size f4
  have := fitsT_size f5
  omega
theorem encoded_yes (ht : textsFit a1 a2 a3 a4 a5 = true) (hn : numsFit a7 a8 a9 a10 a11 = true) : encoded a1 a2 a3 a4 a5 a6 a7 a8 a9 a10 a11 = (Go.Proofs.Ytchldbhnohicoaa.XA.sealed (bareRow a1 a2 a3 a4 a5 a6 a7 a8 a9 a10 a11), 0) := by
  rw [encoded, if_pos ht, if_pos hn]
end
end Go.Proofs.Ytchldbhnohicoaa.Pure
