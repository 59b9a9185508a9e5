-- Written by a program of this session (wip/tools/xprint.py) out of the translation's print. Lean checks it.
import Derived.Test.YtchldbhnohicoaaXA0
import Derived.Test.YtchldbhnohicoaaECopy
import Derived.Test.YtchldbhnohicoaaXA7
import Derived.Test.YtchldbhnohicoaaEIndex
import Derived.Test.YtchldbhnohicoaaESeal
namespace Go.Proofs.Ytchldbhnohicoaa.XA
open Go.RowKit Go.Proofs.YtchldbhnohicoaaW.PrintWords Go.Proofs.YtchldbhnohicoaaW.PrintLast Go.Proofs.YtchldbhnohicoaaW.PrintMore
attribute [local go_sem] max2_int min2_int max_two min_two max_three min_three max_four min_four   -- for this text's walks alone
set_option linter.unusedVariables false
set_option linter.unusedSimpArgs false

/-! ### strings_Index: function 44 -/
def strings_Index.f (a0 : ByteArray) (a1 : ByteArray) : Option (Int) := (stringslite_Index.f a0 a1).bind fun t140 => (some t140)
set_option maxHeartbeats 8000000 in
set_option maxRecDepth 100000 in
theorem strings_Index.calls (a0 : ByteArray) (a1 : ByteArray) (r : Int) (w : World) (h : strings_Index.f a0 a1 = some r) :
  Calls Try.prog 44 #[.string a0, .string a1] w fun e w' => e = .returned (.int .i64 r) ∧ Drawn0 w w' := by
 have H : ((stringslite_Index.f a0 a1).bind fun t140 => (some t140)) = some r := h
 clear h
 replace H := Option.bind_eq_some_iff.mp H
 obtain ⟨t140, A30, H⟩ := H
 replace H : (some t140) = some r := H
 have A3 := Aside0.mk A30
 clear A30
 obtain rfl := Option.some.inj H
 go_enter Try.func44, Try.ntmps44
 go_wp2_with (first | ((with_reducible refine gate_callee (f := 48) rfl ?_); refine goesL_ (some 7) rfl rfl Try.func48 (by kernel_rfl) rfl #[.string a0, .string a1] rfl (by (try simp only [List.map_toArray, List.map_cons, List.map_nil]); first | done | rfl | (simp only [List.length_drop, List.length_take]; rfl)) ?_; (with_reducible refine (stringslite_Index.calls a0 a1 t140 _ A3.out).mono ?_); rintro e w' ⟨rfl, ⟨nd, rfl⟩⟩; refine ⟨_, rfl, ?_⟩))
 go_ret
 exact ⟨by first | rfl | (simp; done) | (simp [*]; done), by repeat (first | exact Drawn0.refl _ | apply Drawn0.step)⟩

/-! ### strings_Contains: function 33 -/
def strings_Contains.f (a0 : ByteArray) (a1 : ByteArray) : Option (Bool) := (strings_Index.f a0 a1).bind fun t141 => (some (decide (t141 ≥ 0)))
set_option maxHeartbeats 8000000 in
set_option maxRecDepth 100000 in
theorem strings_Contains.calls (a0 : ByteArray) (a1 : ByteArray) (r : Bool) (w : World) (h : strings_Contains.f a0 a1 = some r) :
  Calls Try.prog 33 #[.string a0, .string a1] w fun e w' => e = .returned (.bool r) ∧ Drawn0 w w' := by
 have H : ((strings_Index.f a0 a1).bind fun t141 => (some (decide (t141 ≥ 0)))) = some r := h
 clear h
 replace H := Option.bind_eq_some_iff.mp H
 obtain ⟨t141, A30, H⟩ := H
 replace H : (some (decide (t141 ≥ 0))) = some r := H
 have A3 := Aside0.mk A30
 clear A30
 obtain rfl := Option.some.inj H
 go_enter Try.func33, Try.ntmps33
 go_wp2_with (first | ((with_reducible refine gate_callee (f := 44) rfl ?_); refine goesL_ (some 7) rfl rfl Try.func44 (by kernel_rfl) rfl #[.string a0, .string a1] rfl (by (try simp only [List.map_toArray, List.map_cons, List.map_nil]); first | done | rfl | (simp only [List.length_drop, List.length_take]; rfl)) ?_; (with_reducible refine (strings_Index.calls a0 a1 t141 _ A3.out).mono ?_); rintro e w' ⟨rfl, ⟨nd, rfl⟩⟩; refine ⟨_, rfl, ?_⟩))
 go_ret
 exact ⟨by first | rfl | (simp; done) | (simp [*]; done), by repeat (first | exact Drawn0.refl _ | apply Drawn0.step)⟩

/-! ### head_Fits: function 21 -/
def head_Fits.f (a0 : ByteArray) (a1 : Int) : Option (Bool) := if (a0.size : Int) ≤ a1 then ((strings_Contains.f a0 (⟨#[0]⟩ : ByteArray)).bind fun t142 => (some (!t142))) else (some false)
set_option maxHeartbeats 8000000 in
set_option maxRecDepth 100000 in
theorem head_Fits.calls (a0 : ByteArray) (a1 : Int) (r : Bool) (w : World) (h : head_Fits.f a0 a1 = some r) :
  Calls Try.prog 21 #[.string a0, .int .i64 a1] w fun e w' => e = .returned (.bool r) ∧ Drawn0 w w' := by
 have H : (if (a0.size : Int) ≤ a1 then ((strings_Contains.f a0 (⟨#[0]⟩ : ByteArray)).bind fun t142 => (some (!t142))) else (some false)) = some r := h
 clear h
 by_cases c3 : (a0.size : Int) ≤ a1
 ·rw [if_pos c3] at H
  have c3b0 : decide ((a0.size : Int) ≤ a1) = true := decide_eq_true c3
  clear c3
  replace H := Option.bind_eq_some_iff.mp H
  obtain ⟨t142, A40, H⟩ := H
  replace H : (some (!t142)) = some r := H
  have A4 := Aside0.mk A40
  clear A40
  obtain rfl := Option.some.inj H
  go_enter Try.func21, Try.ntmps21
  go_wp2_with (first | (go_at_call 33; (with_reducible refine (strings_Contains.calls a0 (⟨#[0]⟩ : ByteArray) t142 _ A4.out).mono ?_); rintro e w' ⟨rfl, ⟨nd, rfl⟩⟩))
  go_ret
  exact ⟨by first | rfl | (simp; done) | (simp [*]; done), by repeat (first | exact Drawn0.refl _ | apply Drawn0.step)⟩
 ·rw [if_neg c3] at H
  have c3b0 : decide ((a0.size : Int) ≤ a1) = false := decide_eq_false c3
  clear c3
  obtain rfl := Option.some.inj H
  go_enter Try.func21, Try.ntmps21
  go_wp2
  go_ret
  exact ⟨by first | rfl | (simp; done) | (simp [*]; done), by repeat (first | exact Drawn0.refl _ | apply Drawn0.step)⟩

/-! ### head_Encode: function 15 -/
mutual
def head_Encode.l0 : Nat → List Int → List (S61) → Int → Int → Int → ByteArray → ByteArray → ByteArray → ByteArray → ByteArray → Int → Int → Int → Int → Int → Int → Option (List Int × Int)
 | 0, _, _, _, _, _, _, _, _, _, _, _, _, _, _, _, _ => none
 | k + 1, x4, x27, x28, x29, x144000, x144001, x144002, x144003, x144004, x144005, x144006, x144007, x144008, x144009, x144010, x144011 => if x29 < x28 then (if 0 ≤ x29 then (if x29 < (x27.length : Int) then ((head_Fits.f ((rd_T61 x27 x29).f0) (wrap64 (((rd_T61 x27 x29).f2) - ((rd_T61 x27 x29).f1)))).bind fun t152 => (if t152 = true then (if 0 ≤ ((rd_T61 x27 x29).f1) then (if ((rd_T61 x27 x29).f1) ≤ (x4.length : Int) then (if ((rd_T61 x27 x29).f1) < (x4.length : Int) then (if (((rd_T61 x27 x29).f1) : Int).toNat + ((rd_T61 x27 x29).f0).size ≤ x4.length then (head_Encode.l0 k (x4.take (((rd_T61 x27 x29).f1) : Int).toNat ++ bytesOf ((rd_T61 x27 x29).f0) ++ x4.drop ((((rd_T61 x27 x29).f1) : Int).toNat + ((rd_T61 x27 x29).f0).size)) x27 x28 (wrap64 (x29 + 1)) x144000 x144001 x144002 x144003 x144004 x144005 x144006 x144007 x144008 x144009 x144010 x144011) else (none)) else (none)) else (none)) else (none)) else (some (([] : List Int), 2)))) else (none)) else (none)) else ((some (([(⟨x144007, 100, 8⟩ : S63), (⟨x144008, 108, 8⟩ : S63), (⟨x144009, 116, 8⟩ : S63), (⟨x144010, 124, 12⟩ : S63), (⟨x144011, 136, 12⟩ : S63)] : List (S63)) : List (S63))).bind fun y158 => (head_Encode.l1 k x4 y158 (y158.length : Int) 0 x144000 x144001 x144002 x144003 x144004 x144005 x144006 x144007 x144008 x144009 x144010 x144011))
def head_Encode.l1 : Nat → List Int → List (S63) → Int → Int → Int → ByteArray → ByteArray → ByteArray → ByteArray → ByteArray → Int → Int → Int → Int → Int → Int → Option (List Int × Int)
 | 0, _, _, _, _, _, _, _, _, _, _, _, _, _, _, _, _ => none
 | k + 1, x4, x65, x66, x67, x144000, x144001, x144002, x144003, x144004, x144005, x144006, x144007, x144008, x144009, x144010, x144011 => if x67 < x66 then (if 0 ≤ x67 then (if x67 < (x65.length : Int) then ((octal_Format.f k ((rd_T63 x65 x67).f0) ((rd_T63 x65 x67).f2)).bind fun bt163 => (if bt163.2 = 0 then (if 0 ≤ ((rd_T63 x65 x67).f1) then (if ((rd_T63 x65 x67).f1) ≤ (x4.length : Int) then (if ((rd_T63 x65 x67).f1) < (x4.length : Int) then (if (((rd_T63 x65 x67).f1) : Int).toNat + bt163.1.length ≤ x4.length then (head_Encode.l1 k (x4.take (((rd_T63 x65 x67).f1) : Int).toNat ++ bt163.1 ++ x4.drop ((((rd_T63 x65 x67).f1) : Int).toNat + bt163.1.length)) x65 x66 (wrap64 (x67 + 1)) x144000 x144001 x144002 x144003 x144004 x144005 x144006 x144007 x144008 x144009 x144010 x144011) else (none)) else (none)) else (none)) else (none)) else (some (([] : List Int), bt163.2)))) else (none)) else (none)) else (if 156 < (x4.length : Int) then ((some (x4.set (156 : Int).toNat x144006 : List Int)).bind fun y172 => (if 257 ≤ (x4.length : Int) then (if 257 < (x4.length : Int) then (if 257 + (⟨#[117, 115, 116, 97, 114, 0, 48, 48]⟩ : ByteArray).size ≤ y172.length then ((sum_Seal.f (y172.take 257 ++ bytesOf (⟨#[117, 115, 116, 97, 114, 0, 48, 48]⟩ : ByteArray) ++ y172.drop (257 + (⟨#[117, 115, 116, 97, 114, 0, 48, 48]⟩ : ByteArray).size))).bind fun bt178 => (some (bt178.1, bt178.2))) else (none)) else (none)) else (none))) else (none))
end
def head_Encode.f (k : Nat) (a0_0 : Int) (a0_1 : ByteArray) (a0_2 : ByteArray) (a0_3 : ByteArray) (a0_4 : ByteArray) (a0_5 : ByteArray) (a0_6 : Int) (a0_7 : Int) (a0_8 : Int) (a0_9 : Int) (a0_10 : Int) (a0_11 : Int) : Option (List Int × Int) := if 512 ≤ 281474976710656 then ((some (([(⟨a0_1, 0, 100⟩ : S61), (⟨a0_2, 157, 257⟩ : S61), (⟨a0_4, 265, 296⟩ : S61), (⟨a0_5, 297, 328⟩ : S61), (⟨a0_3, 345, 500⟩ : S61)] : List (S61)) : List (S61))).bind fun y147 => (head_Encode.l0 k (List.replicate 512 0) y147 (y147.length : Int) 0 a0_0 a0_1 a0_2 a0_3 a0_4 a0_5 a0_6 a0_7 a0_8 a0_9 a0_10 a0_11)) else (none)
theorem head_Encode.mono_l : ∀ k, (∀ y0 y1 y2 y3 y4 y5 y6 y7 y8 y9 y10 y11 y12 y13 y14 y15, LeO (head_Encode.l0 k y0 y1 y2 y3 y4 y5 y6 y7 y8 y9 y10 y11 y12 y13 y14 y15) (head_Encode.l0 (k + 1) y0 y1 y2 y3 y4 y5 y6 y7 y8 y9 y10 y11 y12 y13 y14 y15)) ∧ (∀ y0 y1 y2 y3 y4 y5 y6 y7 y8 y9 y10 y11 y12 y13 y14 y15, LeO (head_Encode.l1 k y0 y1 y2 y3 y4 y5 y6 y7 y8 y9 y10 y11 y12 y13 y14 y15) (head_Encode.l1 (k + 1) y0 y1 y2 y3 y4 y5 y6 y7 y8 y9 y10 y11 y12 y13 y14 y15))
 | 0 => ⟨fun _ _ _ _ _ _ _ _ _ _ _ _ _ _ _ _ r h => by simp [head_Encode.l0] at h, fun _ _ _ _ _ _ _ _ _ _ _ _ _ _ _ _ r h => by simp [head_Encode.l1] at h⟩
 | k + 1 => by
  obtain ⟨ih0, ih1⟩ := head_Encode.mono_l k
  refine ⟨?_, ?_⟩
  ·intro y0 y1 y2 y3 y4 y5 y6 y7 y8 y9 y10 y11 y12 y13 y14 y15
   unfold head_Encode.l0
   repeat' first
   | (with_reducible exact ih0 _ _ _ _ _ _ _ _ _ _ _ _ _ _ _ _)
   | (with_reducible exact ih1 _ _ _ _ _ _ _ _ _ _ _ _ _ _ _ _)
   | (with_reducible exact octal_Format.mono _ _ _)
   | (with_reducible exact LeO.refl _)
   | (with_reducible exact LeO.none _)
   | (with_reducible refine LeO.ite ?_ ?_)
   | (with_reducible refine LeO.bind ?_ (fun _ => ?_))
   | exact ih0 _ _ _ _ _ _ _ _ _ _ _ _ _ _ _ _
   | exact ih1 _ _ _ _ _ _ _ _ _ _ _ _ _ _ _ _
   | exact octal_Format.mono _ _ _
   | exact LeO.none _
   | refine LeO.ite ?_ ?_
   | refine LeO.bind ?_ (fun _ => ?_)
  ·intro y0 y1 y2 y3 y4 y5 y6 y7 y8 y9 y10 y11 y12 y13 y14 y15
   unfold head_Encode.l1
   repeat' first
   | (with_reducible exact ih0 _ _ _ _ _ _ _ _ _ _ _ _ _ _ _ _)
   | (with_reducible exact ih1 _ _ _ _ _ _ _ _ _ _ _ _ _ _ _ _)
   | (with_reducible exact octal_Format.mono _ _ _)
   | (with_reducible exact LeO.refl _)
   | (with_reducible exact LeO.none _)
   | (with_reducible refine LeO.ite ?_ ?_)
   | (with_reducible refine LeO.bind ?_ (fun _ => ?_))
   | exact ih0 _ _ _ _ _ _ _ _ _ _ _ _ _ _ _ _
   | exact ih1 _ _ _ _ _ _ _ _ _ _ _ _ _ _ _ _
   | exact octal_Format.mono _ _ _
   | exact LeO.none _
   | refine LeO.ite ?_ ?_
   | refine LeO.bind ?_ (fun _ => ?_)
theorem head_Encode.mono : ∀ a0 a1 a2 a3 a4 a5 a6 a7 a8 a9 a10 a11 k, LeO (head_Encode.f k a0 a1 a2 a3 a4 a5 a6 a7 a8 a9 a10 a11) (head_Encode.f (k + 1) a0 a1 a2 a3 a4 a5 a6 a7 a8 a9 a10 a11) := by
 intro a0 a1 a2 a3 a4 a5 a6 a7 a8 a9 a10 a11 k
 obtain ⟨ih0, ih1⟩ := head_Encode.mono_l k
 unfold head_Encode.f
 repeat' first
   | (with_reducible exact ih0 _ _ _ _ _ _ _ _ _ _ _ _ _ _ _ _)
   | (with_reducible exact ih1 _ _ _ _ _ _ _ _ _ _ _ _ _ _ _ _)
   | (with_reducible exact octal_Format.mono _ _ _)
   | (with_reducible exact LeO.refl _)
   | (with_reducible exact LeO.none _)
   | (with_reducible refine LeO.ite ?_ ?_)
   | (with_reducible refine LeO.bind ?_ (fun _ => ?_))
   | exact ih0 _ _ _ _ _ _ _ _ _ _ _ _ _ _ _ _
   | exact ih1 _ _ _ _ _ _ _ _ _ _ _ _ _ _ _ _
   | exact octal_Format.mono _ _ _
   | exact LeO.none _
   | refine LeO.ite ?_ ?_
   | refine LeO.bind ?_ (fun _ => ?_)
set_option maxHeartbeats 8000000 in
set_option maxRecDepth 100000 in
theorem head_Encode.calls (k : Nat) (a0_0 : Int) (a0_1 : ByteArray) (a0_2 : ByteArray) (a0_3 : ByteArray) (a0_4 : ByteArray) (a0_5 : ByteArray) (a0_6 : Int) (a0_7 : Int) (a0_8 : Int) (a0_9 : Int) (a0_10 : Int) (a0_11 : Int) (r1 : List Int) (r2 : Int) (w : World) (h : head_Encode.f k a0_0 a0_1 a0_2 a0_3 a0_4 a0_5 a0_6 a0_7 a0_8 a0_9 a0_10 a0_11 = some (r1, r2)) :
  Calls Try.prog 15 #[.agg #[.int .i64 a0_0, .string a0_1, .string a0_2, .string a0_3, .string a0_4, .string a0_5, .int .u8 a0_6, .int .i64 a0_7, .int .i64 a0_8, .int .i64 a0_9, .int .i64 a0_10, .int .i64 a0_11]] w fun e w' => ∃ v0_ : Value, e = .returned (.tuple #[v0_, .int .i64 r2]) ∧ Kd.R (Kd.int .u8) 5 w' w.heap.size (fun _ => True) v0_ r1 ∧ Below w.heap.size w w' := by
 have hu25 := Try.underlying25
 have hu61 := Try.underlying61
 have hu63 := Try.underlying63
 have HB := Aside0.mk (Below.refl w.heap.size w)
 have H : (if 512 ≤ 281474976710656 then ((some (([(⟨a0_1, 0, 100⟩ : S61), (⟨a0_2, 157, 257⟩ : S61), (⟨a0_4, 265, 296⟩ : S61), (⟨a0_5, 297, 328⟩ : S61), (⟨a0_3, 345, 500⟩ : S61)] : List (S61)) : List (S61))).bind fun y147 => (head_Encode.l0 k (List.replicate 512 0) y147 (y147.length : Int) 0 a0_0 a0_1 a0_2 a0_3 a0_4 a0_5 a0_6 a0_7 a0_8 a0_9 a0_10 a0_11)) else (none)) = some (r1, r2) := h
 clear h
 by_cases c2 : 512 ≤ 281474976710656
 ·rw [if_pos c2] at H
  have c2b0 := eq_true c2
  have c2b1 : decide (512 ≤ 281474976710656) = true := decide_eq_true c2
  clear c2
  obtain ⟨y144, hy144⟩ : ∃ y_ : List Int, y_ = (List.replicate 512 0) := ⟨_, rfl⟩
  replace H : ((some (([(⟨a0_1, 0, 100⟩ : S61), (⟨a0_2, 157, 257⟩ : S61), (⟨a0_4, 265, 296⟩ : S61), (⟨a0_5, 297, 328⟩ : S61), (⟨a0_3, 345, 500⟩ : S61)] : List (S61)) : List (S61))).bind fun y147 => (head_Encode.l0 k y144 y147 (y147.length : Int) 0 a0_0 a0_1 a0_2 a0_3 a0_4 a0_5 a0_6 a0_7 a0_8 a0_9 a0_10 a0_11)) = some (r1, r2) := by first | (rw [hy144]; with_reducible exact H) | (have H2_ := (Option.bind_some _ _).symm.trans H; rw [hy144]; with_reducible exact H2_) | (have H2_ := (Option.bind_some _ _).symm.trans H; with_reducible exact H2_) | with_reducible exact H | (rw [hy144]; exact H) | exact H
  have Ny144 := Aside0.mk hy144
  clear hy144
  obtain ⟨y147, hy147⟩ : ∃ y_ : List (S61), y_ = (([(⟨a0_1, 0, 100⟩ : S61), (⟨a0_2, 157, 257⟩ : S61), (⟨a0_4, 265, 296⟩ : S61), (⟨a0_5, 297, 328⟩ : S61), (⟨a0_3, 345, 500⟩ : S61)] : List (S61))) := ⟨_, rfl⟩
  replace H : (head_Encode.l0 k y144 y147 (y147.length : Int) 0 a0_0 a0_1 a0_2 a0_3 a0_4 a0_5 a0_6 a0_7 a0_8 a0_9 a0_10 a0_11) = some (r1, r2) := by first | (rw [hy147]; with_reducible exact H) | (have H2_ := (Option.bind_some _ _).symm.trans H; rw [hy147]; with_reducible exact H2_) | (have H2_ := (Option.bind_some _ _).symm.trans H; with_reducible exact H2_) | with_reducible exact H | (rw [hy147]; exact H) | exact H
  have Ny147 := Aside0.mk hy147
  clear hy147
  have H' := Aside0.mk H
  clear H
  go_enter Try.func15, Try.ntmps15
  go_wp2_with (first | ((with_reducible refine gate_dst (N := 1) rfl ?_); refine box_event ?hg (N := 1) ?hd (cs := #[.int .i64 a0_0, .string a0_1, .string a0_2, .string a0_3, .string a0_4, .string a0_5, .int .u8 a0_6, .int .i64 a0_7, .int .i64 a0_8, .int .i64 a0_9, .int .i64 a0_10, .int .i64 a0_11]) (t := 25) ?hr ?_; (case hd => rfl); (case hg => rfl); (case hr => first | (go_simp; done) | (go_simp; rfl)); intro gb143 hg w3 hbox hb; have n0_ := Aside0.mk (below_step (by repeat (first | (with_reducible first | exact HB.out | apply below_alloc | apply pw_below_drewN | apply below_drew1) | exact HB.out)) hb); have n1_ := Aside0.mk (hbox); have n2_ := Aside0.mk ((by rw [hg]; exact (below_size (by repeat (first | (with_reducible first | exact HB.out | apply below_alloc | apply pw_below_drewN | apply below_drew1) | exact HB.out))) : w.heap.size ≤ gb143)); have n3_ := Aside0.mk ((by rw [hg]; exact (below_size (by repeat (first | (with_reducible first | exact HB.out | apply below_alloc | apply pw_below_drewN | apply below_drew1) | exact HB.out))) : w.heap.size ≤ gb143)); clear HB; have HB := n0_; have BK143 := n1_; have GW143 := n2_; have GE143 := n3_; clear n0_ n1_ n2_ n3_; clear hb hbox hg) | ((with_reducible refine gate_dst (N := 11) rfl ?_); refine Kd.R_make (Kd.int .u8) _ 5 rfl (N := 11) rfl 22 _ _ rfl 512 rfl rfl Try.underlying22 (.int .u8 0) 1 info5 rfl (by decide) (by omega) 0 (ok := fun _ => True) (okp := fun _ => True) rfl (fun _ hk => hk) trivial (by omega) (by omega) (Below.refl _ _) (Nat.le_refl _) ?_; intro v145 w4 ho5 hb hg_ hnew_; clear hg_ hnew_; (first | rw [← Ny144.out] at ho5 | (simp only [Int.reduceToNat] at ho5; rw [← Ny144.out] at ho5)); have n0_ := Aside0.mk (Kd.R_lower ho5 (below_size (by repeat (first | (with_reducible first | exact HB.out | apply below_alloc | apply pw_below_drewN | apply below_drew1 | refine below_set ?_ GE143.out) | exact HB.out)))); have n1_ := Aside0.mk (blk_below (g := gb143) (o := .cells #[.int .i64 a0_0, .string a0_1, .string a0_2, .string a0_3, .string a0_4, .string a0_5, .int .u8 a0_6, .int .i64 a0_7, .int .i64 a0_8, .int .i64 a0_9, .int .i64 a0_10, .int .i64 a0_11] 25 (0, 0)) (by (with_reducible repeat (first | refine blk_drewN ?_ _ | refine blk_drew ?_ | refine blk_alloc ?_ _)); exact BK143.out) hb); have n2_ := Aside0.mk (below_step (by repeat (first | (with_reducible first | exact HB.out | apply below_alloc | apply pw_below_drewN | apply below_drew1 | refine below_set ?_ GE143.out) | exact HB.out)) hb); clear BK143; clear HB; have HO146 := n0_; have BK143 := n1_; have HB := n2_; clear n0_ n1_ n2_; clear hb ho5; have hcz6_0 : w4.cell? ⟨gb143, 0, none⟩ = some (.int .i64 a0_0) := (blk_cell BK143.out 0).trans rfl; have hcz6_1 : w4.cell? ⟨gb143, 1, none⟩ = some (.string a0_1) := (blk_cell BK143.out 1).trans rfl; have hcz6_2 : w4.cell? ⟨gb143, 2, none⟩ = some (.string a0_2) := (blk_cell BK143.out 2).trans rfl; have hcz6_3 : w4.cell? ⟨gb143, 3, none⟩ = some (.string a0_3) := (blk_cell BK143.out 3).trans rfl; have hcz6_4 : w4.cell? ⟨gb143, 4, none⟩ = some (.string a0_4) := (blk_cell BK143.out 4).trans rfl; have hcz6_5 : w4.cell? ⟨gb143, 5, none⟩ = some (.string a0_5) := (blk_cell BK143.out 5).trans rfl; have hcz6_6 : w4.cell? ⟨gb143, 6, none⟩ = some (.int .u8 a0_6) := (blk_cell BK143.out 6).trans rfl; have hcz6_7 : w4.cell? ⟨gb143, 7, none⟩ = some (.int .i64 a0_7) := (blk_cell BK143.out 7).trans rfl; have hcz6_8 : w4.cell? ⟨gb143, 8, none⟩ = some (.int .i64 a0_8) := (blk_cell BK143.out 8).trans rfl; have hcz6_9 : w4.cell? ⟨gb143, 9, none⟩ = some (.int .i64 a0_9) := (blk_cell BK143.out 9).trans rfl; have hcz6_10 : w4.cell? ⟨gb143, 10, none⟩ = some (.int .i64 a0_10) := (blk_cell BK143.out 10).trans rfl; have hcz6_11 : w4.cell? ⟨gb143, 11, none⟩ = some (.int .i64 a0_11) := (blk_cell BK143.out 11).trans rfl; have hfz6_0 := blk_frozen BK143.out 0; have hfz6_1 := blk_frozen BK143.out 1; have hfz6_2 := blk_frozen BK143.out 2; have hfz6_3 := blk_frozen BK143.out 3; have hfz6_4 := blk_frozen BK143.out 4; have hfz6_5 := blk_frozen BK143.out 5; have hfz6_6 := blk_frozen BK143.out 6; have hfz6_7 := blk_frozen BK143.out 7; have hfz6_8 := blk_frozen BK143.out 8; have hfz6_9 := blk_frozen BK143.out 9; have hfz6_10 := blk_frozen BK143.out 10; have hfz6_11 := blk_frozen BK143.out 11) | ((with_reducible refine gate_dst (N := 27) rfl ?_); refine Kd.R_lit k61 _ 61 ?hg (N := 27) ?hd (xs := ([(⟨a0_1, 0, 100⟩ : S61), (⟨a0_2, 157, 257⟩ : S61), (⟨a0_4, 265, 296⟩ : S61), (⟨a0_5, 297, 328⟩ : S61), (⟨a0_3, 345, 500⟩ : S61)] : List (S61))) (inner := [.string a0_1, .int .i64 0, .int .i64 100, .string a0_2, .int .i64 157, .int .i64 257, .string a0_4, .int .i64 265, .int .i64 296, .string a0_5, .int .i64 297, .int .i64 328, .string a0_3, .int .i64 345, .int .i64 500]) (ok := fun _ => True) (okp := fun _ => True) ?hr ?hp (fun _ hk => hk) trivial (Below.refl _ _) (Nat.le_refl _) (by simp) ?_; (case hd => rfl); (case hg => rfl); (case hr => first | (go_simp; done) | (go_simp; rfl)); (case hp => exact (Reps.c3 (show Kd.M k61 _ _ _ (⟨a0_1, 0, 100⟩ : S61) [.string a0_1, .int .i64 0, .int .i64 100] from (k61_mkM _ _ _ (⟨a0_1, 0, 100⟩ : S61) )) (Reps.c3 (show Kd.M k61 _ _ _ (⟨a0_2, 157, 257⟩ : S61) [.string a0_2, .int .i64 157, .int .i64 257] from (k61_mkM _ _ _ (⟨a0_2, 157, 257⟩ : S61) )) (Reps.c3 (show Kd.M k61 _ _ _ (⟨a0_4, 265, 296⟩ : S61) [.string a0_4, .int .i64 265, .int .i64 296] from (k61_mkM _ _ _ (⟨a0_4, 265, 296⟩ : S61) )) (Reps.c3 (show Kd.M k61 _ _ _ (⟨a0_5, 297, 328⟩ : S61) [.string a0_5, .int .i64 297, .int .i64 328] from (k61_mkM _ _ _ (⟨a0_5, 297, 328⟩ : S61) )) (Reps.c3 (show Kd.M k61 _ _ _ (⟨a0_3, 345, 500⟩ : S61) [.string a0_3, .int .i64 345, .int .i64 500] from (k61_mkM _ _ _ (⟨a0_3, 345, 500⟩ : S61) )) (Reps.none _ _))))))); intro v148 w7 ho8 hb hg_ hnew_; clear hg_ hnew_; (first | rw [← Ny147.out] at ho8 | (simp only [Int.reduceToNat] at ho8; rw [← Ny147.out] at ho8)); have n0_ := Aside0.mk (Kd.R_below (by (with_reducible repeat (first | apply Kd.R_alloc | apply Kd.R_drewN | apply Kd.R_drew)); exact HO146.out) hb); have n1_ := Aside0.mk (Kd.R_lower ho8 (below_size (by repeat (first | (with_reducible first | exact HB.out | apply below_alloc | apply pw_below_drewN | apply below_drew1 | refine below_set ?_ GE143.out) | exact HB.out)))); have n2_ := Aside0.mk (blk_below (g := gb143) (o := .cells #[.int .i64 a0_0, .string a0_1, .string a0_2, .string a0_3, .string a0_4, .string a0_5, .int .u8 a0_6, .int .i64 a0_7, .int .i64 a0_8, .int .i64 a0_9, .int .i64 a0_10, .int .i64 a0_11] 25 (0, 0)) (by (with_reducible repeat (first | refine blk_drewN ?_ _ | refine blk_drew ?_ | refine blk_alloc ?_ _)); exact BK143.out) hb); have n3_ := Aside0.mk (below_step (by repeat (first | (with_reducible first | exact HB.out | apply below_alloc | apply pw_below_drewN | apply below_drew1 | refine below_set ?_ GE143.out) | exact HB.out)) hb); clear HO146; clear BK143; clear HB; have HO146 := n0_; have HO149 := n1_; have BK143 := n2_; have HB := n3_; clear n0_ n1_ n2_ n3_; clear hb ho8; obtain ⟨Ao9, co9, eo9⟩ := Kd.R_slice HO149.out; subst eo9))
  go_loopg [29] k (fun kq v29 w' => ∃ (x4_1 : List Int) (x29_1 : Int), v29 = .int .i64 x29_1 ∧ Aside0 (head_Encode.l0 kq x4_1 y147 (y147.length : Int) x29_1 a0_0 a0_1 a0_2 a0_3 a0_4 a0_5 a0_6 a0_7 a0_8 a0_9 a0_10 a0_11 = some (r1, r2)) ∧ Aside0 (kq ≤ k) ∧ Aside0 (Kd.R (Kd.int .u8) 5 w' w.heap.size (fun _ => True) v145 x4_1) ∧ Aside0 (Kd.R k61 61 w' w.heap.size (fun _ => True) (.slice Ao9 y147.length co9) y147) ∧ Aside0 (w'.heap[gb143]? = some (.cells #[.int .i64 a0_0, .string a0_1, .string a0_2, .string a0_3, .string a0_4, .string a0_5, .int .u8 a0_6, .int .i64 a0_7, .int .i64 a0_8, .int .i64 a0_9, .int .i64 a0_10, .int .i64 a0_11] 25 (0, 0))) ∧ Aside0 (Below w.heap.size w w'))
  case atStart => exact ⟨(y144), (0), (by first | rfl | (simp; done) | (simp [*]; done)), H', ⟨Nat.le_refl _⟩, ⟨by (with_reducible repeat (first | apply Kd.R_alloc | apply Kd.R_drewN | apply Kd.R_drew)); exact HO146.out⟩, ⟨by (with_reducible repeat (first | apply Kd.R_alloc | apply Kd.R_drewN | apply Kd.R_drew)); exact HO149.out⟩, ⟨by (with_reducible repeat (first | refine blk_drewN ?_ _ | refine blk_drew ?_ | refine blk_alloc ?_ _)); exact BK143.out⟩, ⟨by repeat (first | (with_reducible first | exact HB.out | apply below_alloc | apply pw_below_drewN | apply below_drew1 | refine below_set ?_ GE143.out) | exact HB.out)⟩⟩
  case round =>
   clear H'
   try clear c1
   try clear c2
   try clear c2b0
   try clear c2b1
   try clear p2
   try clear c3
   try clear hcz6_0
   try clear hcz6_1
   try clear hcz6_10
   try clear hcz6_11
   try clear hcz6_2
   try clear hcz6_3
   try clear hcz6_4
   try clear hcz6_5
   try clear hcz6_6
   try clear hcz6_7
   try clear hcz6_8
   try clear hcz6_9
   try clear hfz6_0
   try clear hfz6_1
   try clear hfz6_10
   try clear hfz6_11
   try clear hfz6_2
   try clear hfz6_3
   try clear hfz6_4
   try clear hfz6_5
   try clear hfz6_6
   try clear hfz6_7
   try clear hfz6_8
   try clear hfz6_9
   obtain ⟨x4_1, x29_1, rfl, HA, HK1, HO_4, HO_27, BK143, HB⟩ := hrel
   cases gk with
   | zero => exact absurd HA.out (by simp [head_Encode.l0])
   | succ k1 =>
    have H := HA.out
    clear HA
    simp only [head_Encode.l0] at H
    by_cases c10 : x29_1 < (y147.length : Int)
    ·rw [if_pos c10] at H
     have c10b0 : decide (x29_1 < (y147.length : Int)) = true := decide_eq_true c10
     clear c10
     by_cases c11 : 0 ≤ x29_1
     ·rw [if_pos c11] at H
      have c11b0 : decide (0 ≤ x29_1) = true := decide_eq_true c11
      clear c11
      by_cases c12 : x29_1 < (y147.length : Int)
      ·rw [if_pos c12] at H
       have c12b0 : decide (x29_1 < (y147.length : Int)) = true := decide_eq_true c12
       clear c12
       replace H := Option.bind_eq_some_iff.mp H
       obtain ⟨t152, A130, H⟩ := H
       replace H : (if t152 = true then (if 0 ≤ ((rd_T61 y147 x29_1).f1) then (if ((rd_T61 y147 x29_1).f1) ≤ (x4_1.length : Int) then (if ((rd_T61 y147 x29_1).f1) < (x4_1.length : Int) then (if (((rd_T61 y147 x29_1).f1) : Int).toNat + ((rd_T61 y147 x29_1).f0).size ≤ x4_1.length then (head_Encode.l0 k1 (x4_1.take (((rd_T61 y147 x29_1).f1) : Int).toNat ++ bytesOf ((rd_T61 y147 x29_1).f0) ++ x4_1.drop ((((rd_T61 y147 x29_1).f1) : Int).toNat + ((rd_T61 y147 x29_1).f0).size)) y147 (y147.length : Int) (wrap64 (x29_1 + 1)) a0_0 a0_1 a0_2 a0_3 a0_4 a0_5 a0_6 a0_7 a0_8 a0_9 a0_10 a0_11) else (none)) else (none)) else (none)) else (none)) else (some (([] : List Int), 2))) = some (r1, r2) := H
       have A13 := Aside0.mk A130
       clear A130
       by_cases c14 : t152 = true
       ·subst c14
        have H1 : (if 0 ≤ ((rd_T61 y147 x29_1).f1) then (if ((rd_T61 y147 x29_1).f1) ≤ (x4_1.length : Int) then (if ((rd_T61 y147 x29_1).f1) < (x4_1.length : Int) then (if (((rd_T61 y147 x29_1).f1) : Int).toNat + ((rd_T61 y147 x29_1).f0).size ≤ x4_1.length then (head_Encode.l0 k1 (x4_1.take (((rd_T61 y147 x29_1).f1) : Int).toNat ++ bytesOf ((rd_T61 y147 x29_1).f0) ++ x4_1.drop ((((rd_T61 y147 x29_1).f1) : Int).toNat + ((rd_T61 y147 x29_1).f0).size)) y147 (y147.length : Int) (wrap64 (x29_1 + 1)) a0_0 a0_1 a0_2 a0_3 a0_4 a0_5 a0_6 a0_7 a0_8 a0_9 a0_10 a0_11) else (none)) else (none)) else (none)) else (none)) = some (r1, r2) := by rw [if_pos rfl] at H; exact H
        clear H
        have H := H1
        clear H1
        by_cases c15 : 0 ≤ ((rd_T61 y147 x29_1).f1)
        ·rw [if_pos c15] at H
         have c15b0 := eq_true c15
         have c15b1 : decide (0 ≤ ((rd_T61 y147 x29_1).f1)) = true := decide_eq_true c15
         clear c15
         by_cases c16 : ((rd_T61 y147 x29_1).f1) ≤ (x4_1.length : Int)
         ·rw [if_pos c16] at H
          have c16b0 := eq_true c16
          have c16b1 : decide (((rd_T61 y147 x29_1).f1) ≤ (x4_1.length : Int)) = true := decide_eq_true c16
          clear c16
          obtain ⟨y153, hy153⟩ : ∃ y_ : List Int, y_ = (x4_1.drop (((rd_T61 y147 x29_1).f1) : Int).toNat) := ⟨_, rfl⟩
          replace H : (if ((rd_T61 y147 x29_1).f1) < (x4_1.length : Int) then (if (((rd_T61 y147 x29_1).f1) : Int).toNat + ((rd_T61 y147 x29_1).f0).size ≤ x4_1.length then (head_Encode.l0 k1 (x4_1.take (((rd_T61 y147 x29_1).f1) : Int).toNat ++ bytesOf ((rd_T61 y147 x29_1).f0) ++ x4_1.drop ((((rd_T61 y147 x29_1).f1) : Int).toNat + ((rd_T61 y147 x29_1).f0).size)) y147 (y147.length : Int) (wrap64 (x29_1 + 1)) a0_0 a0_1 a0_2 a0_3 a0_4 a0_5 a0_6 a0_7 a0_8 a0_9 a0_10 a0_11) else (none)) else (none)) = some (r1, r2) := by first | (rw [hy153]; with_reducible exact H) | (have H2_ := (Option.bind_some _ _).symm.trans H; rw [hy153]; with_reducible exact H2_) | (have H2_ := (Option.bind_some _ _).symm.trans H; with_reducible exact H2_) | with_reducible exact H | (rw [hy153]; exact H) | exact H
          have Ny153 := Aside0.mk hy153
          clear hy153
          by_cases c17 : ((rd_T61 y147 x29_1).f1) < (x4_1.length : Int)
          ·rw [if_pos c17] at H
           have c17b0 := eq_true c17
           have c17b1 : decide (((rd_T61 y147 x29_1).f1) < (x4_1.length : Int)) = true := decide_eq_true c17
           clear c17
           by_cases c18 : (((rd_T61 y147 x29_1).f1) : Int).toNat + ((rd_T61 y147 x29_1).f0).size ≤ x4_1.length
           ·rw [if_pos c18] at H
            have LMc18 := Aside0.mk c18
            clear c18
            obtain ⟨y157, hy157⟩ : ∃ y_ : List Int, y_ = (x4_1.take (((rd_T61 y147 x29_1).f1) : Int).toNat ++ bytesOf ((rd_T61 y147 x29_1).f0) ++ x4_1.drop ((((rd_T61 y147 x29_1).f1) : Int).toNat + ((rd_T61 y147 x29_1).f0).size)) := ⟨_, rfl⟩
            replace H : (head_Encode.l0 k1 y157 y147 (y147.length : Int) (wrap64 (x29_1 + 1)) a0_0 a0_1 a0_2 a0_3 a0_4 a0_5 a0_6 a0_7 a0_8 a0_9 a0_10 a0_11) = some (r1, r2) := by first | (rw [hy157]; with_reducible exact H) | (have H2_ := (Option.bind_some _ _).symm.trans H; rw [hy157]; with_reducible exact H2_) | (have H2_ := (Option.bind_some _ _).symm.trans H; with_reducible exact H2_) | with_reducible exact H | (rw [hy157]; exact H) | exact H
            have Ny157 := Aside0.mk hy157
            clear hy157
            have H' := Aside0.mk H
            clear H
            have p150 : 0 ≤ (x29_1 : Int) := of_decide_eq_true (by first | (with_reducible assumption) | assumption)
            have q150 : x29_1 < (y147.length : Int) := of_decide_eq_true (by first | (with_reducible assumption) | assumption)
            obtain ⟨ad150, e150, hx150_0, hx150_1, hx150_2⟩ := at_T61 (Kd.R_reads' HO_27.out).2.2 x29_1 p150 q150
            cases e150
            replace p150 := eq_true p150
            replace q150 := eq_true q150
            try go_wp2_with (first | ((with_reducible refine gate_dst (N := 6) rfl ?_); refine box_event ?hg (N := 6) ?hd (cs := #[.string (⟨#[]⟩ : ByteArray), .int .i64 0, .int .i64 0]) (t := 61) ?hr ?_; (case hd => rfl); (case hg => rfl); (case hr => first | (go_simp; done) | (go_simp; rfl)); intro gb151 hg w19 hbox hb; have n0_ := Aside0.mk (Kd.R_below (by (with_reducible repeat (first | apply Kd.R_alloc | apply Kd.R_drewN | apply Kd.R_drew)); exact HO_4.out) hb); have n1_ := Aside0.mk (Kd.R_below (Kd.R_elderB (by (with_reducible repeat (first | apply Kd.R_alloc | apply Kd.R_drewN | apply Kd.R_drew)); exact HO_27.out) gb151 (Nat.le_of_eq hg.symm)) hb); have n2_ := Aside0.mk (blk_below (g := gb143) (o := .cells #[.int .i64 a0_0, .string a0_1, .string a0_2, .string a0_3, .string a0_4, .string a0_5, .int .u8 a0_6, .int .i64 a0_7, .int .i64 a0_8, .int .i64 a0_9, .int .i64 a0_10, .int .i64 a0_11] 25 (0, 0)) (by (with_reducible repeat (first | refine blk_drewN ?_ _ | refine blk_drew ?_ | refine blk_alloc ?_ _)); exact BK143.out) hb); have n3_ := Aside0.mk (below_step (by repeat (first | (with_reducible first | exact HB.out | apply below_alloc | apply pw_below_drewN | apply below_drew1 | refine below_set ?_ GE143.out) | exact HB.out)) hb); have n4_ := Aside0.mk (hbox); have n5_ := Aside0.mk ((by rw [hg]; exact (below_size (by repeat (first | (with_reducible first | exact HB.out | apply below_alloc | apply pw_below_drewN | apply below_drew1 | refine below_set ?_ GE143.out) | exact HB.out))) : w.heap.size ≤ gb151)); have n6_ := Aside0.mk ((by rw [hg]; exact (below_size (by repeat (first | (with_reducible first | exact HB.out | apply below_alloc | apply pw_below_drewN | apply below_drew1 | refine below_set ?_ GE143.out) | exact HB.out))) : w.heap.size ≤ gb151)); have n7_ := Aside0.mk ((by rw [hg]; exact Nat.ne_of_lt (blk_lt (g := gb143) (o := .cells #[.int .i64 a0_0, .string a0_1, .string a0_2, .string a0_3, .string a0_4, .string a0_5, .int .u8 a0_6, .int .i64 a0_7, .int .i64 a0_8, .int .i64 a0_9, .int .i64 a0_10, .int .i64 a0_11] 25 (0, 0)) (by (with_reducible repeat (first | refine blk_drewN ?_ _ | refine blk_drew ?_ | refine blk_alloc ?_ _)); exact BK143.out)) : gb143 ≠ gb151)); have n8_ := Aside0.mk ((by rw [hg]; exact Nat.ne_of_gt (blk_lt (g := gb143) (o := .cells #[.int .i64 a0_0, .string a0_1, .string a0_2, .string a0_3, .string a0_4, .string a0_5, .int .u8 a0_6, .int .i64 a0_7, .int .i64 a0_8, .int .i64 a0_9, .int .i64 a0_10, .int .i64 a0_11] 25 (0, 0)) (by (with_reducible repeat (first | refine blk_drewN ?_ _ | refine blk_drew ?_ | refine blk_alloc ?_ _)); exact BK143.out)) : gb151 ≠ gb143)); clear HO_4; clear HO_27; clear BK143; clear HB; have HO_4 := n0_; have HO_27 := n1_; have BK143 := n2_; have HB := n3_; have BK151 := n4_; have GW151 := n5_; have GE151 := n6_; have NB143_151 := n7_; have NB151_143 := n8_; clear n0_ n1_ n2_ n3_ n4_ n5_ n6_ n7_ n8_; clear hb hbox hg; have hnb20 := NB151_143.out; have hnc20 := NB143_151.out; have hcz21_0 : w19.cell? ⟨gb151, 0, none⟩ = some (.string (⟨#[]⟩ : ByteArray)) := (blk_cell BK151.out 0).trans rfl; have hcz21_1 : w19.cell? ⟨gb151, 1, none⟩ = some (.int .i64 0) := (blk_cell BK151.out 1).trans rfl; have hcz21_2 : w19.cell? ⟨gb151, 2, none⟩ = some (.int .i64 0) := (blk_cell BK151.out 2).trans rfl; have hfz21_0 := blk_frozen BK151.out 0; have hfz21_1 := blk_frozen BK151.out 1; have hfz21_2 := blk_frozen BK151.out 2) | ((with_reducible refine gate_callee (f := 21) rfl ?_); refine goesL_ (some 40) rfl rfl Try.func21 (by kernel_rfl) rfl #[.string ((rd_T61 y147 x29_1).f0), .int .i64 (wrap64 (((rd_T61 y147 x29_1).f2) - ((rd_T61 y147 x29_1).f1)))] rfl (by (try simp only [List.map_toArray, List.map_cons, List.map_nil]); first | done | rfl | (simp only [List.length_drop, List.length_take]; rfl)) ?_; (with_reducible refine (head_Fits.calls ((rd_T61 y147 x29_1).f0) (wrap64 (((rd_T61 y147 x29_1).f2) - ((rd_T61 y147 x29_1).f1))) true _ A13.out).mono ?_); rintro e w' ⟨rfl, ⟨nd, rfl⟩⟩; refine ⟨_, rfl, ?_⟩))
            have n0_ : Aside0 (Kd.R (Kd.int .u8) 5 (((w19.setCell ⟨gb151, 0, none⟩ (.string ((rd_T61 y147 x29_1).f0))).setCell ⟨gb151, 1, none⟩ (.int .i64 ((rd_T61 y147 x29_1).f1))).setCell ⟨gb151, 2, none⟩ (.int .i64 ((rd_T61 y147 x29_1).f2))) w.heap.size (fun _ => True) v145 x4_1) := ⟨by (with_reducible repeat (first | apply Kd.R_alloc | apply Kd.R_drewN | apply Kd.R_drew)); exact Kd.R_mono (Kd.R_far (p := ⟨gb151, 2, none⟩) (Kd.R_far (p := ⟨gb151, 1, none⟩) (Kd.R_far (p := ⟨gb151, 0, none⟩) (Kd.R_types HO_4.out BK151.out (by decide)) (fun _ hk => hk.2) (.string ((rd_T61 y147 x29_1).f0))) (fun _ hk => hk.2) (.int .i64 ((rd_T61 y147 x29_1).f1))) (fun _ hk => hk.2) (.int .i64 ((rd_T61 y147 x29_1).f2))) (fun _ hk => trivial)⟩
            have n1_ : Aside0 (Kd.R k61 61 (((w19.setCell ⟨gb151, 0, none⟩ (.string ((rd_T61 y147 x29_1).f0))).setCell ⟨gb151, 1, none⟩ (.int .i64 ((rd_T61 y147 x29_1).f1))).setCell ⟨gb151, 2, none⟩ (.int .i64 ((rd_T61 y147 x29_1).f2))) w.heap.size (fun k_ => k_ ≠ gb151) (.slice (some ad150) y147.length co9) y147) := ⟨by (with_reducible repeat (first | apply Kd.R_alloc | apply Kd.R_drewN | apply Kd.R_drew)); exact Kd.R_mono (Kd.R_far (p := ⟨gb151, 2, none⟩) (Kd.R_far (p := ⟨gb151, 1, none⟩) (Kd.R_far (p := ⟨gb151, 0, none⟩) (Kd.R_mono HO_27.out (fun k_ hk => (⟨hk, hk.2⟩ : _ ∧ k_ ≠ gb151))) (fun _ hk => hk.2) (.string ((rd_T61 y147 x29_1).f0))) (fun _ hk => hk.2) (.int .i64 ((rd_T61 y147 x29_1).f1))) (fun _ hk => hk.2) (.int .i64 ((rd_T61 y147 x29_1).f2))) (fun _ hk => hk.1.2)⟩
            have n2_ : Aside0 ((((w19.setCell ⟨gb151, 0, none⟩ (.string ((rd_T61 y147 x29_1).f0))).setCell ⟨gb151, 1, none⟩ (.int .i64 ((rd_T61 y147 x29_1).f1))).setCell ⟨gb151, 2, none⟩ (.int .i64 ((rd_T61 y147 x29_1).f2))).heap[gb143]? = some (.cells #[.int .i64 a0_0, .string a0_1, .string a0_2, .string a0_3, .string a0_4, .string a0_5, .int .u8 a0_6, .int .i64 a0_7, .int .i64 a0_8, .int .i64 a0_9, .int .i64 a0_10, .int .i64 a0_11] 25 (0, 0))) := ⟨by (with_reducible repeat (first | refine blk_drewN ?_ _ | refine blk_drew ?_ | refine blk_alloc ?_ _)); refine blk_far ?_ NB143_151.out _; (with_reducible repeat (first | refine blk_drewN ?_ _ | refine blk_drew ?_ | refine blk_alloc ?_ _)); refine blk_far ?_ NB143_151.out _; (with_reducible repeat (first | refine blk_drewN ?_ _ | refine blk_drew ?_ | refine blk_alloc ?_ _)); refine blk_far ?_ NB143_151.out _; (with_reducible repeat (first | refine blk_drewN ?_ _ | refine blk_drew ?_ | refine blk_alloc ?_ _)); exact BK143.out⟩
            have n3_ : Aside0 ((((w19.setCell ⟨gb151, 0, none⟩ (.string ((rd_T61 y147 x29_1).f0))).setCell ⟨gb151, 1, none⟩ (.int .i64 ((rd_T61 y147 x29_1).f1))).setCell ⟨gb151, 2, none⟩ (.int .i64 ((rd_T61 y147 x29_1).f2))).heap[gb151]? = some (.cells #[.string ((rd_T61 y147 x29_1).f0), .int .i64 ((rd_T61 y147 x29_1).f1), .int .i64 ((rd_T61 y147 x29_1).f2)] 61 (0, 0))) := ⟨by (with_reducible repeat (first | refine blk_drewN ?_ _ | refine blk_drew ?_ | refine blk_alloc ?_ _)); refine blk_put (cs := #[.string ((rd_T61 y147 x29_1).f0), .int .i64 ((rd_T61 y147 x29_1).f1), .int .i64 0]) ?_ 2 _ rfl; (with_reducible repeat (first | refine blk_drewN ?_ _ | refine blk_drew ?_ | refine blk_alloc ?_ _)); refine blk_put (cs := #[.string ((rd_T61 y147 x29_1).f0), .int .i64 0, .int .i64 0]) ?_ 1 _ rfl; (with_reducible repeat (first | refine blk_drewN ?_ _ | refine blk_drew ?_ | refine blk_alloc ?_ _)); refine blk_put (cs := #[.string (⟨#[]⟩ : ByteArray), .int .i64 0, .int .i64 0]) ?_ 0 _ rfl; (with_reducible repeat (first | refine blk_drewN ?_ _ | refine blk_drew ?_ | refine blk_alloc ?_ _)); exact BK151.out⟩
            have n4_ : Aside0 (Below w.heap.size w (((w19.setCell ⟨gb151, 0, none⟩ (.string ((rd_T61 y147 x29_1).f0))).setCell ⟨gb151, 1, none⟩ (.int .i64 ((rd_T61 y147 x29_1).f1))).setCell ⟨gb151, 2, none⟩ (.int .i64 ((rd_T61 y147 x29_1).f2)))) := ⟨by repeat (first | (with_reducible first | exact HB.out | apply below_alloc | apply pw_below_drewN | apply below_drew1 | refine below_set ?_ GE143.out | refine below_set ?_ GE151.out) | exact HB.out)⟩
            (try clear HO_4)
            (try clear HO_27)
            (try clear BK143)
            (try clear BK151)
            (try clear HB)
            generalize (((w19.setCell ⟨gb151, 0, none⟩ (.string ((rd_T61 y147 x29_1).f0))).setCell ⟨gb151, 1, none⟩ (.int .i64 ((rd_T61 y147 x29_1).f1))).setCell ⟨gb151, 2, none⟩ (.int .i64 ((rd_T61 y147 x29_1).f2))) = w22 at n0_ n1_ n2_ n3_ n4_ ⊢
            have HO_4 := n0_
            have HO_27 := n1_
            have BK143 := n2_
            have BK151 := n3_
            have HB := n4_
            clear n0_ n1_ n2_ n3_ n4_
            (try (rw [drewN_self w22]; generalize hq_ : World.drewN w22 _ = w22; have n0_ : Aside0 (Kd.R k61 61 w22 w.heap.size (fun k_ => k_ ≠ gb151) (.slice (some ad150) y147.length co9) y147) := ⟨by rw [← hq_]; exact (by (with_reducible repeat (first | apply Kd.R_alloc | apply Kd.R_drewN | apply Kd.R_drew)); exact HO_27.out)⟩; have n1_ : Aside0 (Kd.R (Kd.int .u8) 5 w22 w.heap.size (fun _ => True) v145 x4_1) := ⟨by rw [← hq_]; exact (by (with_reducible repeat (first | apply Kd.R_alloc | apply Kd.R_drewN | apply Kd.R_drew)); exact HO_4.out)⟩; have n2_ : Aside0 (w22.heap[gb143]? = some (.cells #[.int .i64 a0_0, .string a0_1, .string a0_2, .string a0_3, .string a0_4, .string a0_5, .int .u8 a0_6, .int .i64 a0_7, .int .i64 a0_8, .int .i64 a0_9, .int .i64 a0_10, .int .i64 a0_11] 25 (0, 0))) := ⟨by rw [← hq_]; exact (by (with_reducible repeat (first | refine blk_drewN ?_ _ | refine blk_drew ?_ | refine blk_alloc ?_ _)); exact BK143.out)⟩; have n3_ : Aside0 (w22.heap[gb151]? = some (.cells #[.string ((rd_T61 y147 x29_1).f0), .int .i64 ((rd_T61 y147 x29_1).f1), .int .i64 ((rd_T61 y147 x29_1).f2)] 61 (0, 0))) := ⟨by rw [← hq_]; exact (by (with_reducible repeat (first | refine blk_drewN ?_ _ | refine blk_drew ?_ | refine blk_alloc ?_ _)); exact BK151.out)⟩; have n4_ : Aside0 (Below w.heap.size w w22) := ⟨by rw [← hq_]; exact (by repeat (first | (with_reducible first | exact HB.out | apply below_alloc | apply pw_below_drewN | apply below_drew1 | refine below_set ?_ GE143.out | refine below_set ?_ GE151.out) | exact HB.out))⟩; clear HO_27 HO_4 BK143 BK151 HB hq_; have HO_27 := n0_; have HO_4 := n1_; have BK143 := n2_; have BK151 := n3_; have HB := n4_; clear n0_ n1_ n2_ n3_ n4_))
            have n0_ := Aside0.mk (Kd.R_drew HO_4.out)
            have n1_ := Aside0.mk (Kd.R_drew HO_27.out)
            have n2_ := Aside0.mk (blk_drew BK143.out)
            have n3_ := Aside0.mk (blk_drew BK151.out)
            have n4_ := Aside0.mk (below_drew1 HB.out)
            clear HO_4
            clear HO_27
            clear BK143
            clear BK151
            clear HB
            have HO_4 := n0_
            have HO_27 := n1_
            have BK143 := n2_
            have BK151 := n3_
            have HB := n4_
            clear n0_ n1_ n2_ n3_ n4_
            obtain ⟨Ao25, co25, eo25⟩ := Kd.R_slice HO_4.out
            (first | subst eo25 | (injection eo25 with f1_ f2_ f3_; have f4_ := f1_.symm; have f5_ := f3_.symm; clear f1_ f2_ f3_; subst f4_; subst f5_))
            have q24 : (((rd_T61 y147 x29_1).f1) : Int) ≤ ((x4_1.length : Int) : Int) := of_decide_eq_true (by first | (with_reducible assumption) | assumption)
            obtain ⟨i024, hi024, _, hsz24, _⟩ := info_parts info5
            have hroom24 : x4_1.length ≤ co25 := (Kd.R_reads' HO_4.out).2.1
            have hC24 : Kd.C (Kd.int .u8) _ Ao25 x4_1.length x4_1 := (Kd.R_reads' HO_4.out).2.2
            have q024 : (0 : Int) ≤ (((rd_T61 y147 x29_1).f1) : Int) := of_decide_eq_true (by first | (with_reducible assumption) | assumption)
            have hcut24 := cut_from (P := Try.prog) 22 5 .i64 Try.underlying22 hi024 1 hsz24 Ao25 x4_1.length co25 ((rd_T61 y147 x29_1).f1) q024 q24
            have hr24 := Kd.C_drop (m := (((rd_T61 y147 x29_1).f1) : Int).toNat) (c := co25) hC24 (by omega) hroom24
            obtain ⟨A24, hA24⟩ : ∃ A1, A1 = (if co25 = (((rd_T61 y147 x29_1).f1) : Int).toNat then Ao25 else (Ao25 : Option Addr).map (·.add ((((rd_T61 y147 x29_1).f1) : Int).toNat * 1))) := ⟨_, rfl⟩
            obtain ⟨c24, hc24⟩ : ∃ c1, c1 = co25 - (((rd_T61 y147 x29_1).f1) : Int).toNat := ⟨_, rfl⟩
            have hy24 : y153.length = x4_1.length - (((rd_T61 y147 x29_1).f1) : Int).toNat := (by rw [Ny153.out, List.length_drop] <;> omega)
            rw [show (x4_1).drop (((rd_T61 y147 x29_1).f1) : Int).toNat = y153 from Ny153.out.symm] at hr24
            replace hr24 : Kd.C (Kd.int .u8) _ A24 y153.length y153 := (by rw [hA24]; exact hr24)
            rw [← hy24, ← hA24, ← hc24] at hcut24
            have HR156 := Aside0.mk hr24
            have HC156 := Aside0.mk (show y153.length ≤ c24 from by rw [hy24, hc24]; exact Nat.sub_le_sub_right hroom24 _)
            clear hr24 hC24 hroom24 hi024 hsz24 hc24
            have KY24 := Aside0.mk hy24
            have KA24 := Aside0.mk hA24
            clear hy24 hA24
            have KL24 := Aside0.mk (show (((rd_T61 y147 x29_1).f1) : Int).toNat ≤ x4_1.length from by omega)
            replace q24 := eq_true q24
            obtain ⟨go27, co27, eo27, gb27, gl27, cl27, HG27⟩ := Kd.R_form HO_4.out (by have hj_ : (((rd_T61 y147 x29_1).f1) : Int) < ((x4_1.length : Int) : Int) := of_decide_eq_true (by first | (with_reducible assumption) | assumption); have hh_ : (0 : Int) ≤ (((rd_T61 y147 x29_1).f1) : Int) := of_decide_eq_true (by first | (with_reducible assumption) | assumption); omega)
            (first | cases eo27 | (injection eo27 with ea_ en_ ec_; (first | subst ea_ | (injection ea_ with ea_; subst ea_)); subst ec_; clear en_))
            have GB27 := Aside0.mk gb27
            have GG27 := Aside0.mk HG27
            clear gb27 gl27 HG27
            refine start_ (n := 7) (S := fun w' => w'.cell? ⟨gb151, 0, none⟩ = some (.string ((rd_T61 y147 x29_1).f0)) ∧ w'.cell? ⟨gb151, 1, none⟩ = some (.int .i64 ((rd_T61 y147 x29_1).f1)) ∧ w'.cell? ⟨gb151, 2, none⟩ = some (.int .i64 ((rd_T61 y147 x29_1).f2))) (ds := []) #[false, false, false, false, false, false, false] (by kernel_rfl) rfl rfl ⟨(blk_cell BK151.out 0).trans rfl, (blk_cell BK151.out 1).trans rfl, (blk_cell BK151.out 2).trans rfl⟩ (fun hHeld => ?_)
            generalize w22.drew = w23 at HO_4 HO_27 BK143 BK151 HB GG27 HR156 hHeld ⊢
            refine pure_ (i := 0) (N := some 42) (v := ?_) (a' := ?_) #[true, false, false, false, false, false, false] rfl rfl (by kernel_rfl) (fun _ _ _ h => h) (Or.inl ⟨by rfl, ?_⟩) ?_ ?_
            rotate_left
            ·intro w'
             go_simp
             with_reducible rfl
            rotate_left
            ·simp only [Act.put, List.setIfInBounds_toArray, List.set_cons_zero, List.set_cons_succ, i64_w, i32_w]
             rfl
            refine pure_ (i := 1) (N := some 43) (v := ?_) (a' := ?_) #[true, true, false, false, false, false, false] rfl rfl (by kernel_rfl) (fun _ _ _ h => h) (Or.inl ⟨by rfl, ?_⟩) ?_ ?_
            rotate_left
            ·intro w'
             go_simp
             with_reducible rfl
            rotate_left
            ·simp only [Act.put, List.setIfInBounds_toArray, List.set_cons_zero, List.set_cons_succ, i64_w, i32_w]
             rfl
            refine pure_ (i := 4) (N := some 46) (v := ?_) (a' := ?_) #[true, true, false, false, true, false, false] rfl rfl (by kernel_rfl) (fun _ _ _ h => h) (Or.inl ⟨by rfl, ?_⟩) ?_ ?_
            rotate_left
            ·intro w'
             go_simp
             with_reducible rfl
            rotate_left
            ·simp only [Act.put, List.setIfInBounds_toArray, List.set_cons_zero, List.set_cons_succ, i64_w, i32_w]
             rfl
            refine take_ (i := 2) (N := some 44) (v := ?_) (a' := ?_) #[true, true, true, false, true, false, false] rfl rfl (by kernel_rfl) (fun _ _ _ h => h) (Or.inl ⟨by rfl, ?_⟩) hHeld ?_ ?_
            rotate_left
            ·rintro w' ⟨s0, s1, s2⟩
             go_simp
             with_reducible rfl
            rotate_left
            ·simp only [Act.put, List.setIfInBounds_toArray, List.set_cons_zero, List.set_cons_succ, i64_w, i32_w]
             rfl
            refine pure_ (i := 3) (N := some 45) (v := ?_) (a' := ?_) #[true, true, true, true, true, false, false] rfl rfl (by kernel_rfl) (fun _ _ _ h => h) (Or.inl ⟨by rfl, ?_⟩) ?_ ?_
            rotate_left
            ·intro w'
             go_simp
             with_reducible rfl
            rotate_left
            ·simp only [Act.put, List.setIfInBounds_toArray, List.set_cons_zero, List.set_cons_succ, i64_w, i32_w]
             rfl
            refine take_ (i := 5) (N := some 47) (v := ?_) (a' := ?_) #[true, true, true, true, true, true, false] rfl rfl (by kernel_rfl) (fun _ _ _ h => h) (Or.inl ⟨by rfl, ?_⟩) hHeld ?_ ?_
            rotate_left
            ·rintro w' ⟨s0, s1, s2⟩
             go_simp
             with_reducible rfl
            rotate_left
            ·simp only [Act.put, List.setIfInBounds_toArray, List.set_cons_zero, List.set_cons_succ, i64_w, i32_w]
             rfl
            refine one_ (i := 6) (N := some 48) #[true, true, true, true, true, true, true] rfl rfl (by kernel_rfl) (by decide) (fun K hK => ?_)
            have hj_ : (((rd_T61 y147 x29_1).f1) : Int) < ((x4_1.length : Int) : Int) := of_decide_eq_true (by first | (with_reducible assumption) | assumption)
            have hh_ : (0 : Int) ≤ (((rd_T61 y147 x29_1).f1) : Int) := of_decide_eq_true (by first | (with_reducible assumption) | assumption)
            have hb_ := (Kd.R_reads' HO_4.out).1
            refine Copy.R_copystr_step (w0 := w) w.heap.size (by rfl) (.tmp 45) (.tmp 47) 22 9 5 rfl Try.underlying22 (by kernel_rfl) (g := go27) (n := x4_1.length) (c := co25) (off := (((rd_T61 y147 x29_1).f1) : Int).toNat) rfl rfl ?hA ?hm (by (with_reducible repeat (first | apply Kd.R_alloc | apply Kd.R_drewN | apply Kd.R_drew)); exact HO_4.out) ?hfit (by repeat (first | (with_reducible first | exact HB.out | apply below_alloc | apply pw_below_drewN | apply below_drew1 | refine below_set ?_ GE143.out | refine below_set ?_ GE151.out) | exact HB.out)) (below_size (by repeat (first | (with_reducible first | exact HB.out | apply below_alloc | apply pw_below_drewN | apply below_drew1 | refine below_set ?_ GE143.out | refine below_set ?_ GE151.out) | exact HB.out))) ?_
            (case hA => have ha_ := KA24.out; exact ha_)
            (case hm => have ha_ := KY24.out; omega)
            (case hfit => exact LMc18.out)
            intro w26 ho hb hg
            clear hj_ hb_ hh_
            rw [← Ny157.out] at ho
            have n0_ := Aside0.mk (ho)
            have n1_ := Aside0.mk (Kd.R_over' (v := (.slice (some ⟨go27, 0, none⟩) x4_1.length co25)) (by (with_reducible repeat (first | apply Kd.R_alloc | apply Kd.R_drewN | apply Kd.R_drew)); exact HO_27.out) (Kd.R_typed HO_4.out) (by decide) hg)
            have n2_ := Aside0.mk (blk_grown (g := gb143) (o := .cells #[.int .i64 a0_0, .string a0_1, .string a0_2, .string a0_3, .string a0_4, .string a0_5, .int .u8 a0_6, .int .i64 a0_7, .int .i64 a0_8, .int .i64 a0_9, .int .i64 a0_10, .int .i64 a0_11] 25 (0, 0)) (by (with_reducible repeat (first | refine blk_drewN ?_ _ | refine blk_drew ?_ | refine blk_alloc ?_ _)); exact BK143.out) hg (Kd.R_ne HO_4.out BK143.out (by decide)))
            have n3_ := Aside0.mk (blk_grown (g := gb151) (o := .cells #[.string ((rd_T61 y147 x29_1).f0), .int .i64 ((rd_T61 y147 x29_1).f1), .int .i64 ((rd_T61 y147 x29_1).f2)] 61 (0, 0)) (by (with_reducible repeat (first | refine blk_drewN ?_ _ | refine blk_drew ?_ | refine blk_alloc ?_ _)); exact BK151.out) hg (Kd.R_ne HO_4.out BK151.out (by decide)))
            have n4_ := Aside0.mk (hb)
            clear HO_4
            clear HO_27
            clear BK143
            clear BK151
            clear HB
            have HO_4 := n0_
            have HO_27 := n1_
            have BK143 := n2_
            have BK151 := n3_
            have HB := n4_
            clear n0_ n1_ n2_ n3_ n4_
            clear ho hb hg
            refine hK.out _ _ ⟨(blk_cell BK151.out 0).trans rfl, (blk_cell BK151.out 1).trans rfl, (blk_cell BK151.out 2).trans rfl⟩ (fun hHeld => ?_)
            clear hK K
            refine norm_ (a' := ?_) ?_ ?_
            rotate_left
            ·show Act.put _ (some 48) _ = _
             simp only [Act.put, List.setIfInBounds_toArray, List.set_cons_zero, List.set_cons_succ, i64_w, i32_w]
             rfl
            refine done_ (by kernel_rfl) ?_
            try go_wp2
            go_roundg k1
            case measure => have := HK1.out; omega
            case rel => exact ⟨(y157), (wrap64 (x29_1 + 1)), (by first | rfl | (simp; done) | (simp [*]; done)), H', ⟨by have := HK1.out; omega⟩, ⟨by (with_reducible repeat (first | apply Kd.R_alloc | apply Kd.R_drewN | apply Kd.R_drew)); exact HO_4.out⟩, ⟨by (with_reducible repeat (first | apply Kd.R_alloc | apply Kd.R_drewN | apply Kd.R_drew)); exact Kd.R_mono HO_27.out (fun _ hk => trivial)⟩, ⟨by (with_reducible repeat (first | refine blk_drewN ?_ _ | refine blk_drew ?_ | refine blk_alloc ?_ _)); exact BK143.out⟩, ⟨by repeat (first | (with_reducible first | exact HB.out | apply below_alloc | apply pw_below_drewN | apply below_drew1 | refine below_set ?_ GE143.out | refine below_set ?_ GE151.out) | exact HB.out)⟩⟩
           ·rw [if_neg c18] at H
            exact absurd H (by simp)
          ·rw [if_neg c17] at H
           exact absurd H (by simp)
         ·rw [if_neg c16] at H
          exact absurd H (by simp)
        ·rw [if_neg c15] at H
         exact absurd H (by simp)
       ·replace c14 := Bool.eq_false_iff.mpr c14
        subst c14
        have H1 : (some (([] : List Int), 2)) = some (r1, r2) := by rw [if_neg (show ¬ (false = true) by decide)] at H; exact H
        clear H
        have H := H1
        clear H1
        simp only [Option.some.injEq, Prod.mk.injEq] at H
        obtain ⟨rfl, rfl⟩ := H
        have p150 : 0 ≤ (x29_1 : Int) := of_decide_eq_true (by first | (with_reducible assumption) | assumption)
        have q150 : x29_1 < (y147.length : Int) := of_decide_eq_true (by first | (with_reducible assumption) | assumption)
        obtain ⟨ad150, e150, hx150_0, hx150_1, hx150_2⟩ := at_T61 (Kd.R_reads' HO_27.out).2.2 x29_1 p150 q150
        cases e150
        replace p150 := eq_true p150
        replace q150 := eq_true q150
        go_wp2_with (first | ((with_reducible refine gate_dst (N := 6) rfl ?_); refine box_event ?hg (N := 6) ?hd (cs := #[.string (⟨#[]⟩ : ByteArray), .int .i64 0, .int .i64 0]) (t := 61) ?hr ?_; (case hd => rfl); (case hg => rfl); (case hr => first | (go_simp; done) | (go_simp; rfl)); intro gb151 hg w28 hbox hb; have n0_ := Aside0.mk (Kd.R_below (by (with_reducible repeat (first | apply Kd.R_alloc | apply Kd.R_drewN | apply Kd.R_drew)); exact HO_4.out) hb); have n1_ := Aside0.mk (Kd.R_below (Kd.R_elderB (by (with_reducible repeat (first | apply Kd.R_alloc | apply Kd.R_drewN | apply Kd.R_drew)); exact HO_27.out) gb151 (Nat.le_of_eq hg.symm)) hb); have n2_ := Aside0.mk (blk_below (g := gb143) (o := .cells #[.int .i64 a0_0, .string a0_1, .string a0_2, .string a0_3, .string a0_4, .string a0_5, .int .u8 a0_6, .int .i64 a0_7, .int .i64 a0_8, .int .i64 a0_9, .int .i64 a0_10, .int .i64 a0_11] 25 (0, 0)) (by (with_reducible repeat (first | refine blk_drewN ?_ _ | refine blk_drew ?_ | refine blk_alloc ?_ _)); exact BK143.out) hb); have n3_ := Aside0.mk (below_step (by repeat (first | (with_reducible first | exact HB.out | apply below_alloc | apply pw_below_drewN | apply below_drew1 | refine below_set ?_ GE143.out) | exact HB.out)) hb); have n4_ := Aside0.mk (hbox); have n5_ := Aside0.mk ((by rw [hg]; exact (below_size (by repeat (first | (with_reducible first | exact HB.out | apply below_alloc | apply pw_below_drewN | apply below_drew1 | refine below_set ?_ GE143.out) | exact HB.out))) : w.heap.size ≤ gb151)); have n6_ := Aside0.mk ((by rw [hg]; exact (below_size (by repeat (first | (with_reducible first | exact HB.out | apply below_alloc | apply pw_below_drewN | apply below_drew1 | refine below_set ?_ GE143.out) | exact HB.out))) : w.heap.size ≤ gb151)); have n7_ := Aside0.mk ((by rw [hg]; exact Nat.ne_of_lt (blk_lt (g := gb143) (o := .cells #[.int .i64 a0_0, .string a0_1, .string a0_2, .string a0_3, .string a0_4, .string a0_5, .int .u8 a0_6, .int .i64 a0_7, .int .i64 a0_8, .int .i64 a0_9, .int .i64 a0_10, .int .i64 a0_11] 25 (0, 0)) (by (with_reducible repeat (first | refine blk_drewN ?_ _ | refine blk_drew ?_ | refine blk_alloc ?_ _)); exact BK143.out)) : gb143 ≠ gb151)); have n8_ := Aside0.mk ((by rw [hg]; exact Nat.ne_of_gt (blk_lt (g := gb143) (o := .cells #[.int .i64 a0_0, .string a0_1, .string a0_2, .string a0_3, .string a0_4, .string a0_5, .int .u8 a0_6, .int .i64 a0_7, .int .i64 a0_8, .int .i64 a0_9, .int .i64 a0_10, .int .i64 a0_11] 25 (0, 0)) (by (with_reducible repeat (first | refine blk_drewN ?_ _ | refine blk_drew ?_ | refine blk_alloc ?_ _)); exact BK143.out)) : gb151 ≠ gb143)); clear HO_4; clear HO_27; clear BK143; clear HB; have HO_4 := n0_; have HO_27 := n1_; have BK143 := n2_; have HB := n3_; have BK151 := n4_; have GW151 := n5_; have GE151 := n6_; have NB143_151 := n7_; have NB151_143 := n8_; clear n0_ n1_ n2_ n3_ n4_ n5_ n6_ n7_ n8_; clear hb hbox hg; have hnb29 := NB151_143.out; have hnc29 := NB143_151.out; have hcz30_0 : w28.cell? ⟨gb151, 0, none⟩ = some (.string (⟨#[]⟩ : ByteArray)) := (blk_cell BK151.out 0).trans rfl; have hcz30_1 : w28.cell? ⟨gb151, 1, none⟩ = some (.int .i64 0) := (blk_cell BK151.out 1).trans rfl; have hcz30_2 : w28.cell? ⟨gb151, 2, none⟩ = some (.int .i64 0) := (blk_cell BK151.out 2).trans rfl; have hfz30_0 := blk_frozen BK151.out 0; have hfz30_1 := blk_frozen BK151.out 1; have hfz30_2 := blk_frozen BK151.out 2) | ((with_reducible refine gate_callee (f := 21) rfl ?_); refine goesL_ (some 40) rfl rfl Try.func21 (by kernel_rfl) rfl #[.string ((rd_T61 y147 x29_1).f0), .int .i64 (wrap64 (((rd_T61 y147 x29_1).f2) - ((rd_T61 y147 x29_1).f1)))] rfl (by (try simp only [List.map_toArray, List.map_cons, List.map_nil]); first | done | rfl | (simp only [List.length_drop, List.length_take]; rfl)) ?_; (with_reducible refine (head_Fits.calls ((rd_T61 y147 x29_1).f0) (wrap64 (((rd_T61 y147 x29_1).f2) - ((rd_T61 y147 x29_1).f1))) false _ A13.out).mono ?_); rintro e w' ⟨rfl, ⟨nd, rfl⟩⟩; refine ⟨_, rfl, ?_⟩))
        go_ret2
        exact ⟨_, by first | rfl | (simp [errW_none, errW_some] <;> rfl) | (simp [*, errW_none, errW_some] <;> rfl), by first | exact Kd.R_nil _ _ _ _ _ | exact Kd.N_nil _ _ _ _ _ | exact Kd.V_nil _ _ _ _ _ | exact Kd.Q_nil _ _ _ _ _ | exact Kd.S_nil _ _ _ _ _, by repeat (first | (with_reducible first | exact HB.out | apply below_alloc | apply pw_below_drewN | apply below_drew1 | refine below_set ?_ GE143.out | refine below_set ?_ GE151.out) | exact HB.out)⟩
      ·rw [if_neg c12] at H
       exact absurd H (by simp)
     ·rw [if_neg c11] at H
      exact absurd H (by simp)
    ·rw [if_neg c10] at H
     have c10b0 : decide (x29_1 < (y147.length : Int)) = false := decide_eq_false c10
     clear c10
     obtain ⟨y158, hy158⟩ : ∃ y_ : List (S63), y_ = (([(⟨a0_7, 100, 8⟩ : S63), (⟨a0_8, 108, 8⟩ : S63), (⟨a0_9, 116, 8⟩ : S63), (⟨a0_10, 124, 12⟩ : S63), (⟨a0_11, 136, 12⟩ : S63)] : List (S63))) := ⟨_, rfl⟩
     replace H : (head_Encode.l1 k1 x4_1 y158 (y158.length : Int) 0 a0_0 a0_1 a0_2 a0_3 a0_4 a0_5 a0_6 a0_7 a0_8 a0_9 a0_10 a0_11) = some (r1, r2) := by first | (rw [hy158]; with_reducible exact H) | (have H2_ := (Option.bind_some _ _).symm.trans H; rw [hy158]; with_reducible exact H2_) | (have H2_ := (Option.bind_some _ _).symm.trans H; with_reducible exact H2_) | with_reducible exact H | (rw [hy158]; exact H) | exact H
     have Ny158 := Aside0.mk hy158
     clear hy158
     have H' := Aside0.mk H
     clear H
     have hcz31_0 : wr.cell? ⟨gb143, 0, none⟩ = some (.int .i64 a0_0) := (blk_cell BK143.out 0).trans rfl
     have hcz31_1 : wr.cell? ⟨gb143, 1, none⟩ = some (.string a0_1) := (blk_cell BK143.out 1).trans rfl
     have hcz31_2 : wr.cell? ⟨gb143, 2, none⟩ = some (.string a0_2) := (blk_cell BK143.out 2).trans rfl
     have hcz31_3 : wr.cell? ⟨gb143, 3, none⟩ = some (.string a0_3) := (blk_cell BK143.out 3).trans rfl
     have hcz31_4 : wr.cell? ⟨gb143, 4, none⟩ = some (.string a0_4) := (blk_cell BK143.out 4).trans rfl
     have hcz31_5 : wr.cell? ⟨gb143, 5, none⟩ = some (.string a0_5) := (blk_cell BK143.out 5).trans rfl
     have hcz31_6 : wr.cell? ⟨gb143, 6, none⟩ = some (.int .u8 a0_6) := (blk_cell BK143.out 6).trans rfl
     have hcz31_7 : wr.cell? ⟨gb143, 7, none⟩ = some (.int .i64 a0_7) := (blk_cell BK143.out 7).trans rfl
     have hcz31_8 : wr.cell? ⟨gb143, 8, none⟩ = some (.int .i64 a0_8) := (blk_cell BK143.out 8).trans rfl
     have hcz31_9 : wr.cell? ⟨gb143, 9, none⟩ = some (.int .i64 a0_9) := (blk_cell BK143.out 9).trans rfl
     have hcz31_10 : wr.cell? ⟨gb143, 10, none⟩ = some (.int .i64 a0_10) := (blk_cell BK143.out 10).trans rfl
     have hcz31_11 : wr.cell? ⟨gb143, 11, none⟩ = some (.int .i64 a0_11) := (blk_cell BK143.out 11).trans rfl
     have hfz31_0 := blk_frozen BK143.out 0
     have hfz31_1 := blk_frozen BK143.out 1
     have hfz31_2 := blk_frozen BK143.out 2
     have hfz31_3 := blk_frozen BK143.out 3
     have hfz31_4 := blk_frozen BK143.out 4
     have hfz31_5 := blk_frozen BK143.out 5
     have hfz31_6 := blk_frozen BK143.out 6
     have hfz31_7 := blk_frozen BK143.out 7
     have hfz31_8 := blk_frozen BK143.out 8
     have hfz31_9 := blk_frozen BK143.out 9
     have hfz31_10 := blk_frozen BK143.out 10
     have hfz31_11 := blk_frozen BK143.out 11
     go_wp2_with (first | ((with_reducible refine gate_dst (N := 65) rfl ?_); refine Kd.R_lit k63 _ 63 ?hg (N := 65) ?hd (xs := ([(⟨a0_7, 100, 8⟩ : S63), (⟨a0_8, 108, 8⟩ : S63), (⟨a0_9, 116, 8⟩ : S63), (⟨a0_10, 124, 12⟩ : S63), (⟨a0_11, 136, 12⟩ : S63)] : List (S63))) (inner := [.int .i64 a0_7, .int .i64 100, .int .i64 8, .int .i64 a0_8, .int .i64 108, .int .i64 8, .int .i64 a0_9, .int .i64 116, .int .i64 8, .int .i64 a0_10, .int .i64 124, .int .i64 12, .int .i64 a0_11, .int .i64 136, .int .i64 12]) (ok := fun _ => True) (okp := fun _ => True) ?hr ?hp (fun _ hk => hk) trivial (Below.refl _ _) (Nat.le_refl _) (by simp) ?_; (case hd => rfl); (case hg => rfl); (case hr => first | (go_simp; done) | (go_simp; rfl)); (case hp => exact (Reps.c3 (show Kd.M k63 _ _ _ (⟨a0_7, 100, 8⟩ : S63) [.int .i64 a0_7, .int .i64 100, .int .i64 8] from (k63_mkM _ _ _ (⟨a0_7, 100, 8⟩ : S63) )) (Reps.c3 (show Kd.M k63 _ _ _ (⟨a0_8, 108, 8⟩ : S63) [.int .i64 a0_8, .int .i64 108, .int .i64 8] from (k63_mkM _ _ _ (⟨a0_8, 108, 8⟩ : S63) )) (Reps.c3 (show Kd.M k63 _ _ _ (⟨a0_9, 116, 8⟩ : S63) [.int .i64 a0_9, .int .i64 116, .int .i64 8] from (k63_mkM _ _ _ (⟨a0_9, 116, 8⟩ : S63) )) (Reps.c3 (show Kd.M k63 _ _ _ (⟨a0_10, 124, 12⟩ : S63) [.int .i64 a0_10, .int .i64 124, .int .i64 12] from (k63_mkM _ _ _ (⟨a0_10, 124, 12⟩ : S63) )) (Reps.c3 (show Kd.M k63 _ _ _ (⟨a0_11, 136, 12⟩ : S63) [.int .i64 a0_11, .int .i64 136, .int .i64 12] from (k63_mkM _ _ _ (⟨a0_11, 136, 12⟩ : S63) )) (Reps.none _ _))))))); intro v159 w32 ho33 hb hg_ hnew_; clear hg_ hnew_; (first | rw [← Ny158.out] at ho33 | (simp only [Int.reduceToNat] at ho33; rw [← Ny158.out] at ho33)); have n0_ := Aside0.mk (Kd.R_below (by (with_reducible repeat (first | apply Kd.R_alloc | apply Kd.R_drewN | apply Kd.R_drew)); exact HO_4.out) hb); have n1_ := Aside0.mk (Kd.R_below (by (with_reducible repeat (first | apply Kd.R_alloc | apply Kd.R_drewN | apply Kd.R_drew)); exact HO_27.out) hb); have n2_ := Aside0.mk (Kd.R_lower ho33 (below_size (by repeat (first | (with_reducible first | exact HB.out | apply below_alloc | apply pw_below_drewN | apply below_drew1 | refine below_set ?_ GE143.out) | exact HB.out)))); have n3_ := Aside0.mk (blk_below (g := gb143) (o := .cells #[.int .i64 a0_0, .string a0_1, .string a0_2, .string a0_3, .string a0_4, .string a0_5, .int .u8 a0_6, .int .i64 a0_7, .int .i64 a0_8, .int .i64 a0_9, .int .i64 a0_10, .int .i64 a0_11] 25 (0, 0)) (by (with_reducible repeat (first | refine blk_drewN ?_ _ | refine blk_drew ?_ | refine blk_alloc ?_ _)); exact BK143.out) hb); have n4_ := Aside0.mk (below_step (by repeat (first | (with_reducible first | exact HB.out | apply below_alloc | apply pw_below_drewN | apply below_drew1 | refine below_set ?_ GE143.out) | exact HB.out)) hb); clear HO_4; clear HO_27; clear BK143; clear HB; have HO_4 := n0_; have HO_27 := n1_; have HO160 := n2_; have BK143 := n3_; have HB := n4_; clear n0_ n1_ n2_ n3_ n4_; clear hb ho33; obtain ⟨Ao34, co34, eo34⟩ := Kd.R_slice HO160.out; subst eo34))
     go_loopg [67] k1 (fun kq v67 w' => ∃ (x4_2 : List Int) (x67_2 : Int), v67 = .int .i64 x67_2 ∧ Aside0 (head_Encode.l1 kq x4_2 y158 (y158.length : Int) x67_2 a0_0 a0_1 a0_2 a0_3 a0_4 a0_5 a0_6 a0_7 a0_8 a0_9 a0_10 a0_11 = some (r1, r2)) ∧ Aside0 (kq ≤ k1) ∧ Aside0 (Kd.R (Kd.int .u8) 5 w' w.heap.size (fun _ => True) v145 x4_2) ∧ Aside0 (Kd.R k63 63 w' w.heap.size (fun _ => True) (.slice Ao34 y158.length co34) y158) ∧ Aside0 (w'.heap[gb143]? = some (.cells #[.int .i64 a0_0, .string a0_1, .string a0_2, .string a0_3, .string a0_4, .string a0_5, .int .u8 a0_6, .int .i64 a0_7, .int .i64 a0_8, .int .i64 a0_9, .int .i64 a0_10, .int .i64 a0_11] 25 (0, 0))) ∧ Aside0 (Below w.heap.size w w'))
     case atStart => exact ⟨(x4_1), (0), (by first | rfl | (simp; done) | (simp [*]; done)), H', ⟨Nat.le_refl _⟩, ⟨by (with_reducible repeat (first | apply Kd.R_alloc | apply Kd.R_drewN | apply Kd.R_drew)); exact HO_4.out⟩, ⟨by (with_reducible repeat (first | apply Kd.R_alloc | apply Kd.R_drewN | apply Kd.R_drew)); exact HO160.out⟩, ⟨by (with_reducible repeat (first | refine blk_drewN ?_ _ | refine blk_drew ?_ | refine blk_alloc ?_ _)); exact BK143.out⟩, ⟨by repeat (first | (with_reducible first | exact HB.out | apply below_alloc | apply pw_below_drewN | apply below_drew1 | refine below_set ?_ GE143.out) | exact HB.out)⟩⟩
     case round =>
      clear H'
      try clear c1
      try clear p1
      try clear q1
      try clear hx1
      try clear c2
      try clear c2b0
      try clear c2b1
      try clear p2
      try clear q2
      try clear c3
      try clear p6
      try clear c10
      try clear c10b0
      try clear c11
      try clear c11b0
      try clear c12
      try clear c12b0
      try clear c14
      try clear c15
      try clear c15b0
      try clear c15b1
      try clear p15
      try clear q15
      try clear hx15
      try clear c16
      try clear c16b0
      try clear c16b1
      try clear c17
      try clear c17b0
      try clear c17b1
      try clear c18
      try clear c20
      try clear c21
      try clear c24
      try clear q24
      try clear c29
      try clear hcz21_0
      try clear hcz21_1
      try clear hcz21_2
      try clear hcz30_0
      try clear hcz30_1
      try clear hcz30_2
      try clear hcz31_0
      try clear hcz31_1
      try clear hcz31_10
      try clear hcz31_11
      try clear hcz31_2
      try clear hcz31_3
      try clear hcz31_4
      try clear hcz31_5
      try clear hcz31_6
      try clear hcz31_7
      try clear hcz31_8
      try clear hcz31_9
      try clear hcz6_0
      try clear hcz6_1
      try clear hcz6_10
      try clear hcz6_11
      try clear hcz6_2
      try clear hcz6_3
      try clear hcz6_4
      try clear hcz6_5
      try clear hcz6_6
      try clear hcz6_7
      try clear hcz6_8
      try clear hcz6_9
      try clear hfz21_0
      try clear hfz21_1
      try clear hfz21_2
      try clear hfz30_0
      try clear hfz30_1
      try clear hfz30_2
      try clear hfz31_0
      try clear hfz31_1
      try clear hfz31_10
      try clear hfz31_11
      try clear hfz31_2
      try clear hfz31_3
      try clear hfz31_4
      try clear hfz31_5
      try clear hfz31_6
      try clear hfz31_7
      try clear hfz31_8
      try clear hfz31_9
      try clear hfz6_0
      try clear hfz6_1
      try clear hfz6_10
      try clear hfz6_11
      try clear hfz6_2
      try clear hfz6_3
      try clear hfz6_4
      try clear hfz6_5
      try clear hfz6_6
      try clear hfz6_7
      try clear hfz6_8
      try clear hfz6_9
      try clear hx150_0
      try clear hx150_1
      try clear hx150_2
      try clear p150
      try clear p2
      try clear q024
      try clear q150
      try clear q24
      obtain ⟨x4_2, x67_2, rfl, HA, HK2, HO_4, HO_65, BK143, HB⟩ := hrel
      cases gk with
      | zero => exact absurd HA.out (by simp [head_Encode.l1])
      | succ k2 =>
       have H := HA.out
       clear HA
       simp only [head_Encode.l1] at H
       by_cases c35 : x67_2 < (y158.length : Int)
       ·rw [if_pos c35] at H
        have c35b0 : decide (x67_2 < (y158.length : Int)) = true := decide_eq_true c35
        clear c35
        by_cases c36 : 0 ≤ x67_2
        ·rw [if_pos c36] at H
         have c36b0 : decide (0 ≤ x67_2) = true := decide_eq_true c36
         clear c36
         by_cases c37 : x67_2 < (y158.length : Int)
         ·rw [if_pos c37] at H
          have c37b0 : decide (x67_2 < (y158.length : Int)) = true := decide_eq_true c37
          clear c37
          replace H := Option.bind_eq_some_iff.mp H
          obtain ⟨⟨t163, t164⟩, A380, H⟩ := H
          replace H : (if t164 = 0 then (if 0 ≤ ((rd_T63 y158 x67_2).f1) then (if ((rd_T63 y158 x67_2).f1) ≤ (x4_2.length : Int) then (if ((rd_T63 y158 x67_2).f1) < (x4_2.length : Int) then (if (((rd_T63 y158 x67_2).f1) : Int).toNat + t163.length ≤ x4_2.length then (head_Encode.l1 k2 (x4_2.take (((rd_T63 y158 x67_2).f1) : Int).toNat ++ t163 ++ x4_2.drop ((((rd_T63 y158 x67_2).f1) : Int).toNat + t163.length)) y158 (y158.length : Int) (wrap64 (x67_2 + 1)) a0_0 a0_1 a0_2 a0_3 a0_4 a0_5 a0_6 a0_7 a0_8 a0_9 a0_10 a0_11) else (none)) else (none)) else (none)) else (none)) else (some (([] : List Int), t164))) = some (r1, r2) := H
          have A38 := Aside0.mk A380
          clear A380
          by_cases c39 : t164 = 0
          ·rw [if_pos c39] at H
           have c39b0 : (t164 == 0) = true := beq_iff_eq.mpr c39
           have c39b1 : (t164 != 0) = false := bne_eq_false_iff_eq.mpr c39
           clear c39
           by_cases c40 : 0 ≤ ((rd_T63 y158 x67_2).f1)
           ·rw [if_pos c40] at H
            have c40b0 := eq_true c40
            have c40b1 : decide (0 ≤ ((rd_T63 y158 x67_2).f1)) = true := decide_eq_true c40
            clear c40
            by_cases c41 : ((rd_T63 y158 x67_2).f1) ≤ (x4_2.length : Int)
            ·rw [if_pos c41] at H
             have c41b0 := eq_true c41
             have c41b1 : decide (((rd_T63 y158 x67_2).f1) ≤ (x4_2.length : Int)) = true := decide_eq_true c41
             clear c41
             obtain ⟨y167, hy167⟩ : ∃ y_ : List Int, y_ = (x4_2.drop (((rd_T63 y158 x67_2).f1) : Int).toNat) := ⟨_, rfl⟩
             replace H : (if ((rd_T63 y158 x67_2).f1) < (x4_2.length : Int) then (if (((rd_T63 y158 x67_2).f1) : Int).toNat + t163.length ≤ x4_2.length then (head_Encode.l1 k2 (x4_2.take (((rd_T63 y158 x67_2).f1) : Int).toNat ++ t163 ++ x4_2.drop ((((rd_T63 y158 x67_2).f1) : Int).toNat + t163.length)) y158 (y158.length : Int) (wrap64 (x67_2 + 1)) a0_0 a0_1 a0_2 a0_3 a0_4 a0_5 a0_6 a0_7 a0_8 a0_9 a0_10 a0_11) else (none)) else (none)) = some (r1, r2) := by first | (rw [hy167]; with_reducible exact H) | (have H2_ := (Option.bind_some _ _).symm.trans H; rw [hy167]; with_reducible exact H2_) | (have H2_ := (Option.bind_some _ _).symm.trans H; with_reducible exact H2_) | with_reducible exact H | (rw [hy167]; exact H) | exact H
             have Ny167 := Aside0.mk hy167
             clear hy167
             by_cases c42 : ((rd_T63 y158 x67_2).f1) < (x4_2.length : Int)
             ·rw [if_pos c42] at H
              have c42b0 := eq_true c42
              have c42b1 : decide (((rd_T63 y158 x67_2).f1) < (x4_2.length : Int)) = true := decide_eq_true c42
              clear c42
              by_cases c43 : (((rd_T63 y158 x67_2).f1) : Int).toNat + t163.length ≤ x4_2.length
              ·rw [if_pos c43] at H
               have LMc43 := Aside0.mk c43
               clear c43
               obtain ⟨y171, hy171⟩ : ∃ y_ : List Int, y_ = (x4_2.take (((rd_T63 y158 x67_2).f1) : Int).toNat ++ t163 ++ x4_2.drop ((((rd_T63 y158 x67_2).f1) : Int).toNat + t163.length)) := ⟨_, rfl⟩
               replace H : (head_Encode.l1 k2 y171 y158 (y158.length : Int) (wrap64 (x67_2 + 1)) a0_0 a0_1 a0_2 a0_3 a0_4 a0_5 a0_6 a0_7 a0_8 a0_9 a0_10 a0_11) = some (r1, r2) := by first | (rw [hy171]; with_reducible exact H) | (have H2_ := (Option.bind_some _ _).symm.trans H; rw [hy171]; with_reducible exact H2_) | (have H2_ := (Option.bind_some _ _).symm.trans H; with_reducible exact H2_) | with_reducible exact H | (rw [hy171]; exact H) | exact H
               have Ny171 := Aside0.mk hy171
               clear hy171
               have H' := Aside0.mk H
               clear H
               have p161 : 0 ≤ (x67_2 : Int) := of_decide_eq_true (by first | (with_reducible assumption) | assumption)
               have q161 : x67_2 < (y158.length : Int) := of_decide_eq_true (by first | (with_reducible assumption) | assumption)
               obtain ⟨ad161, e161, hx161_0, hx161_1, hx161_2⟩ := at_T63 (Kd.R_reads' HO_65.out).2.2 x67_2 p161 q161
               cases e161
               replace p161 := eq_true p161
               replace q161 := eq_true q161
               go_wp2_with (first | ((with_reducible refine gate_dst (N := 8) rfl ?_); refine box_event ?hg (N := 8) ?hd (cs := #[.int .i64 0, .int .i64 0, .int .i64 0]) (t := 63) ?hr ?_; (case hd => rfl); (case hg => rfl); (case hr => first | (go_simp; done) | (go_simp; rfl)); intro gb162 hg w44 hbox hb; have n0_ := Aside0.mk (Kd.R_below (by (with_reducible repeat (first | apply Kd.R_alloc | apply Kd.R_drewN | apply Kd.R_drew)); exact HO_4.out) hb); have n1_ := Aside0.mk (Kd.R_below (Kd.R_elderB (by (with_reducible repeat (first | apply Kd.R_alloc | apply Kd.R_drewN | apply Kd.R_drew)); exact HO_65.out) gb162 (Nat.le_of_eq hg.symm)) hb); have n2_ := Aside0.mk (blk_below (g := gb143) (o := .cells #[.int .i64 a0_0, .string a0_1, .string a0_2, .string a0_3, .string a0_4, .string a0_5, .int .u8 a0_6, .int .i64 a0_7, .int .i64 a0_8, .int .i64 a0_9, .int .i64 a0_10, .int .i64 a0_11] 25 (0, 0)) (by (with_reducible repeat (first | refine blk_drewN ?_ _ | refine blk_drew ?_ | refine blk_alloc ?_ _)); exact BK143.out) hb); have n3_ := Aside0.mk (below_step (by repeat (first | (with_reducible first | exact HB.out | apply below_alloc | apply pw_below_drewN | apply below_drew1 | refine below_set ?_ GE143.out) | exact HB.out)) hb); have n4_ := Aside0.mk (hbox); have n5_ := Aside0.mk ((by rw [hg]; exact (below_size (by repeat (first | (with_reducible first | exact HB.out | apply below_alloc | apply pw_below_drewN | apply below_drew1 | refine below_set ?_ GE143.out) | exact HB.out))) : w.heap.size ≤ gb162)); have n6_ := Aside0.mk ((by rw [hg]; exact (below_size (by repeat (first | (with_reducible first | exact HB.out | apply below_alloc | apply pw_below_drewN | apply below_drew1 | refine below_set ?_ GE143.out) | exact HB.out))) : w.heap.size ≤ gb162)); have n7_ := Aside0.mk ((by rw [hg]; exact Nat.ne_of_lt (blk_lt (g := gb143) (o := .cells #[.int .i64 a0_0, .string a0_1, .string a0_2, .string a0_3, .string a0_4, .string a0_5, .int .u8 a0_6, .int .i64 a0_7, .int .i64 a0_8, .int .i64 a0_9, .int .i64 a0_10, .int .i64 a0_11] 25 (0, 0)) (by (with_reducible repeat (first | refine blk_drewN ?_ _ | refine blk_drew ?_ | refine blk_alloc ?_ _)); exact BK143.out)) : gb143 ≠ gb162)); have n8_ := Aside0.mk ((by rw [hg]; exact Nat.ne_of_gt (blk_lt (g := gb143) (o := .cells #[.int .i64 a0_0, .string a0_1, .string a0_2, .string a0_3, .string a0_4, .string a0_5, .int .u8 a0_6, .int .i64 a0_7, .int .i64 a0_8, .int .i64 a0_9, .int .i64 a0_10, .int .i64 a0_11] 25 (0, 0)) (by (with_reducible repeat (first | refine blk_drewN ?_ _ | refine blk_drew ?_ | refine blk_alloc ?_ _)); exact BK143.out)) : gb162 ≠ gb143)); clear HO_4; clear HO_65; clear BK143; clear HB; have HO_4 := n0_; have HO_65 := n1_; have BK143 := n2_; have HB := n3_; have BK162 := n4_; have GW162 := n5_; have GE162 := n6_; have NB143_162 := n7_; have NB162_143 := n8_; clear n0_ n1_ n2_ n3_ n4_ n5_ n6_ n7_ n8_; clear hb hbox hg; have hnb45 := NB162_143.out; have hnc45 := NB143_162.out; have hcz46_0 : w44.cell? ⟨gb162, 0, none⟩ = some (.int .i64 0) := (blk_cell BK162.out 0).trans rfl; have hcz46_1 : w44.cell? ⟨gb162, 1, none⟩ = some (.int .i64 0) := (blk_cell BK162.out 1).trans rfl; have hcz46_2 : w44.cell? ⟨gb162, 2, none⟩ = some (.int .i64 0) := (blk_cell BK162.out 2).trans rfl; have hfz46_0 := blk_frozen BK162.out 0; have hfz46_1 := blk_frozen BK162.out 1; have hfz46_2 := blk_frozen BK162.out 2) | ((with_reducible refine gate_callee (f := 28) rfl ?_); refine goesL_ (some 76) rfl rfl Try.func28 (by kernel_rfl) rfl #[.int .i64 ((rd_T63 y158 x67_2).f0), .int .i64 ((rd_T63 y158 x67_2).f2)] rfl (by (try simp only [List.map_toArray, List.map_cons, List.map_nil]); first | done | rfl | (simp only [List.length_drop, List.length_take]; rfl)) ?_; (with_reducible refine (octal_Format.calls k2 ((rd_T63 y158 x67_2).f0) ((rd_T63 y158 x67_2).f2) t163 t164 _ A38.out).mono ?_); rintro e w47 ⟨v165, rfl, ho0, hb⟩; refine ⟨_, rfl, ?_⟩; have n0_ := Aside0.mk (Kd.R_elder' (by (with_reducible repeat (first | apply Kd.R_alloc | apply Kd.R_drewN | apply Kd.R_drew)); exact (Kd.R_mono (Kd.R_far (p := ⟨gb162, 2, none⟩) (Kd.R_far (p := ⟨gb162, 1, none⟩) (Kd.R_far (p := ⟨gb162, 0, none⟩) (Kd.R_types HO_4.out BK162.out (by decide)) (fun _ hk => hk.2) (.int .i64 ((rd_T63 y158 x67_2).f0))) (fun _ hk => hk.2) (.int .i64 ((rd_T63 y158 x67_2).f1))) (fun _ hk => hk.2) (.int .i64 ((rd_T63 y158 x67_2).f2))) (fun _ h_ => h_.1))) (Kd.R_base ho0) hb); have n1_ := Aside0.mk (Kd.R_below (by (with_reducible repeat (first | apply Kd.R_alloc | apply Kd.R_drewN | apply Kd.R_drew)); exact (Kd.R_mono (Kd.R_far (p := ⟨gb162, 2, none⟩) (Kd.R_far (p := ⟨gb162, 1, none⟩) (Kd.R_far (p := ⟨gb162, 0, none⟩) (Kd.R_mono HO_65.out (fun k_ hk => (⟨hk, hk.2⟩ : _ ∧ k_ ≠ gb162))) (fun _ hk => hk.2) (.int .i64 ((rd_T63 y158 x67_2).f0))) (fun _ hk => hk.2) (.int .i64 ((rd_T63 y158 x67_2).f1))) (fun _ hk => hk.2) (.int .i64 ((rd_T63 y158 x67_2).f2))) (fun _ h_ => h_.1))) hb); have n2_ := Aside0.mk (Kd.R_lower (Kd.R_new' ho0 (Kd.R_lt (by (with_reducible repeat (first | apply Kd.R_alloc | apply Kd.R_drewN | apply Kd.R_drew)); exact (Kd.R_mono (Kd.R_far (p := ⟨gb162, 2, none⟩) (Kd.R_far (p := ⟨gb162, 1, none⟩) (Kd.R_far (p := ⟨gb162, 0, none⟩) (Kd.R_types HO_4.out BK162.out (by decide)) (fun _ hk => hk.2) (.int .i64 ((rd_T63 y158 x67_2).f0))) (fun _ hk => hk.2) (.int .i64 ((rd_T63 y158 x67_2).f1))) (fun _ hk => hk.2) (.int .i64 ((rd_T63 y158 x67_2).f2))) (fun _ h_ => h_.1))))) (below_size (by repeat (first | (with_reducible first | exact HB.out | apply below_alloc | apply pw_below_drewN | apply below_drew1 | refine below_set ?_ GE143.out | refine below_set ?_ GE162.out) | exact HB.out)))); have n3_ := Aside0.mk (blk_below (g := gb143) (o := .cells #[.int .i64 a0_0, .string a0_1, .string a0_2, .string a0_3, .string a0_4, .string a0_5, .int .u8 a0_6, .int .i64 a0_7, .int .i64 a0_8, .int .i64 a0_9, .int .i64 a0_10, .int .i64 a0_11] 25 (0, 0)) (by (with_reducible repeat (first | refine blk_drewN ?_ _ | refine blk_drew ?_ | refine blk_alloc ?_ _)); refine blk_far ?_ NB143_162.out _; (with_reducible repeat (first | refine blk_drewN ?_ _ | refine blk_drew ?_ | refine blk_alloc ?_ _)); refine blk_far ?_ NB143_162.out _; (with_reducible repeat (first | refine blk_drewN ?_ _ | refine blk_drew ?_ | refine blk_alloc ?_ _)); refine blk_far ?_ NB143_162.out _; (with_reducible repeat (first | refine blk_drewN ?_ _ | refine blk_drew ?_ | refine blk_alloc ?_ _)); exact BK143.out) hb); have n4_ := Aside0.mk (blk_below (g := gb162) (o := .cells #[.int .i64 ((rd_T63 y158 x67_2).f0), .int .i64 ((rd_T63 y158 x67_2).f1), .int .i64 ((rd_T63 y158 x67_2).f2)] 63 (0, 0)) (by (with_reducible repeat (first | refine blk_drewN ?_ _ | refine blk_drew ?_ | refine blk_alloc ?_ _)); refine blk_put (cs := #[.int .i64 ((rd_T63 y158 x67_2).f0), .int .i64 ((rd_T63 y158 x67_2).f1), .int .i64 0]) ?_ 2 _ rfl; (with_reducible repeat (first | refine blk_drewN ?_ _ | refine blk_drew ?_ | refine blk_alloc ?_ _)); refine blk_put (cs := #[.int .i64 ((rd_T63 y158 x67_2).f0), .int .i64 0, .int .i64 0]) ?_ 1 _ rfl; (with_reducible repeat (first | refine blk_drewN ?_ _ | refine blk_drew ?_ | refine blk_alloc ?_ _)); refine blk_put (cs := #[.int .i64 0, .int .i64 0, .int .i64 0]) ?_ 0 _ rfl; (with_reducible repeat (first | refine blk_drewN ?_ _ | refine blk_drew ?_ | refine blk_alloc ?_ _)); exact BK162.out) hb); have n5_ := Aside0.mk (below_step (by repeat (first | (with_reducible first | exact HB.out | apply below_alloc | apply pw_below_drewN | apply below_drew1 | refine below_set ?_ GE143.out | refine below_set ?_ GE162.out) | exact HB.out)) hb); clear HO_4; clear HO_65; clear BK143; clear BK162; clear HB; have HO_4 := n0_; have HO_65 := n1_; have HO166 := n2_; have BK143 := n3_; have BK162 := n4_; have HB := n5_; clear n0_ n1_ n2_ n3_ n4_ n5_; (try clear hb); (try clear hb2); (try clear hk); (try clear hi); (try clear ho0); have hcz48_0 : w47.cell? ⟨gb162, 0, none⟩ = some (.int .i64 ((rd_T63 y158 x67_2).f0)) := (blk_cell BK162.out 0).trans rfl; have hcz48_1 : w47.cell? ⟨gb162, 1, none⟩ = some (.int .i64 ((rd_T63 y158 x67_2).f1)) := (blk_cell BK162.out 1).trans rfl; have hcz48_2 : w47.cell? ⟨gb162, 2, none⟩ = some (.int .i64 ((rd_T63 y158 x67_2).f2)) := (blk_cell BK162.out 2).trans rfl; have hfz48_0 := blk_frozen BK162.out 0; have hfz48_1 := blk_frozen BK162.out 1; have hfz48_2 := blk_frozen BK162.out 2; obtain ⟨Ao50, co50, eo50⟩ := Kd.R_slice HO_4.out; subst eo50; have q49 : (((rd_T63 y158 x67_2).f1) : Int) ≤ ((x4_2.length : Int) : Int) := of_decide_eq_true (by first | (with_reducible assumption) | assumption); obtain ⟨i049, hi049, _, hsz49, _⟩ := info_parts info5; have hroom49 : x4_2.length ≤ co50 := (Kd.R_reads' HO_4.out).2.1; have hC49 : Kd.C (Kd.int .u8) _ Ao50 x4_2.length x4_2 := (Kd.R_reads' HO_4.out).2.2; have q049 : (0 : Int) ≤ (((rd_T63 y158 x67_2).f1) : Int) := of_decide_eq_true (by first | (with_reducible assumption) | assumption); have hcut49 := cut_from (P := Try.prog) 22 5 .i64 Try.underlying22 hi049 1 hsz49 Ao50 x4_2.length co50 ((rd_T63 y158 x67_2).f1) q049 q49; have hr49 := Kd.C_drop (m := (((rd_T63 y158 x67_2).f1) : Int).toNat) (c := co50) hC49 (by omega) hroom49; obtain ⟨A49, hA49⟩ : ∃ A1, A1 = (if co50 = (((rd_T63 y158 x67_2).f1) : Int).toNat then Ao50 else (Ao50 : Option Addr).map (·.add ((((rd_T63 y158 x67_2).f1) : Int).toNat * 1))) := ⟨_, rfl⟩; obtain ⟨c49, hc49⟩ : ∃ c1, c1 = co50 - (((rd_T63 y158 x67_2).f1) : Int).toNat := ⟨_, rfl⟩; have hy49 : y167.length = x4_2.length - (((rd_T63 y158 x67_2).f1) : Int).toNat := (by rw [Ny167.out, List.length_drop] <;> omega); rw [show (x4_2).drop (((rd_T63 y158 x67_2).f1) : Int).toNat = y167 from Ny167.out.symm] at hr49; replace hr49 : Kd.C (Kd.int .u8) _ A49 y167.length y167 := (by rw [hA49]; exact hr49); rw [← hy49, ← hA49, ← hc49] at hcut49; have HR170 := Aside0.mk hr49; have HC170 := Aside0.mk (show y167.length ≤ c49 from by rw [hy49, hc49]; exact Nat.sub_le_sub_right hroom49 _); clear hr49 hC49 hroom49 hi049 hsz49 hc49; have KY49 := Aside0.mk hy49; have KA49 := Aside0.mk hA49; clear hy49 hA49; have KL49 := Aside0.mk (show (((rd_T63 y158 x67_2).f1) : Int).toNat ≤ x4_2.length from by omega); replace q49 := eq_true q49; obtain ⟨Ao53, co53, eo53⟩ := Kd.R_slice HO166.out; subst eo53; have n_ := Aside0.mk (Kd.R_mono (ok' := (fun k_ => some k_ ≠ (.slice Ao53 t163.length co53 : Value).ownBlock)) HO_4.out (fun k_ hk => hk.2)); clear HO_4; have HO_4 := n_; clear n_) | ((with_reducible refine gate_builtin (b := .copy) (xs := #[.tmp 85, .tmp 86]) rfl ?_); have hj_ : (((rd_T63 y158 x67_2).f1) : Int) < ((x4_2.length : Int) : Int) := of_decide_eq_true (by first | (with_reducible assumption) | assumption); have hh_ : (0 : Int) ≤ (((rd_T63 y158 x67_2).f1) : Int) := of_decide_eq_true (by first | (with_reducible assumption) | assumption); have hb_ := (Kd.R_reads' HO_4.out).1; obtain ⟨gd52, cap_, ev_, _⟩ := Kd.R_form HO_4.out (by omega); injection ev_ with ea_ en_ ec_; subst ea_; clear en_; subst ec_; refine Copy.R_copy (enc := Value.int .u8) (w0 := w) w.heap.size rfl (.tmp 85) (.tmp 86) 22 22 5 rfl Try.underlying22 (by kernel_rfl) (g := gd52) (n := x4_2.length) (c := co50) (off := (((rd_T63 y158 x67_2).f1) : Int).toNat) (ys := t163) rfl rfl ?hA ?hm (by (with_reducible repeat (first | apply Kd.R_alloc | apply Kd.R_drewN | apply Kd.R_drew)); exact HO_4.out) ?hC ?hfit (by repeat (first | (with_reducible first | exact HB.out | apply below_alloc | apply pw_below_drewN | apply below_drew1 | refine below_set ?_ GE143.out | refine below_set ?_ GE162.out) | exact HB.out)) (below_size (by repeat (first | (with_reducible first | exact HB.out | apply below_alloc | apply pw_below_drewN | apply below_drew1 | refine below_set ?_ GE143.out | refine below_set ?_ GE162.out) | exact HB.out))) ?_; (case hA => have ha_ := KA49.out; exact ha_); (case hm => have ha_ := KY49.out; omega); (case hfit => exact LMc43.out); (case hC => repeat (first | exact (Kd.R_reads' HO166.out).2.2 | (with_reducible refine Kd.C_alloc ?_ _) | (with_reducible refine Kd.C_drewN ?_ _) | (with_reducible refine Kd.C_drew ?_))); intro w51 ho hb hg; clear hj_ hb_ hh_; rw [← Ny171.out] at ho; have n0_ := Aside0.mk (ho); have n1_ := Aside0.mk (Kd.R_over' (v := (.slice (some ⟨gd52, 0, none⟩) x4_2.length co50)) (by (with_reducible repeat (first | apply Kd.R_alloc | apply Kd.R_drewN | apply Kd.R_drew)); exact HO_65.out) (Kd.R_typed HO_4.out) (by decide) hg); have n2_ := Aside0.mk (blk_grown (g := gb143) (o := .cells #[.int .i64 a0_0, .string a0_1, .string a0_2, .string a0_3, .string a0_4, .string a0_5, .int .u8 a0_6, .int .i64 a0_7, .int .i64 a0_8, .int .i64 a0_9, .int .i64 a0_10, .int .i64 a0_11] 25 (0, 0)) (by (with_reducible repeat (first | refine blk_drewN ?_ _ | refine blk_drew ?_ | refine blk_alloc ?_ _)); exact BK143.out) hg (Kd.R_ne HO_4.out BK143.out (by decide))); have n3_ := Aside0.mk (blk_grown (g := gb162) (o := .cells #[.int .i64 ((rd_T63 y158 x67_2).f0), .int .i64 ((rd_T63 y158 x67_2).f1), .int .i64 ((rd_T63 y158 x67_2).f2)] 63 (0, 0)) (by (with_reducible repeat (first | refine blk_drewN ?_ _ | refine blk_drew ?_ | refine blk_alloc ?_ _)); exact BK162.out) hg (Kd.R_ne HO_4.out BK162.out (by decide))); have n4_ := Aside0.mk (Kd.R_after (v := (.slice (some ⟨gd52, 0, none⟩) x4_2.length co50)) (v1 := (.slice (some ⟨gd52, 0, none⟩) x4_2.length co50)) (ok := (fun _ => True)) (by (with_reducible repeat (first | apply Kd.R_alloc | apply Kd.R_drewN | apply Kd.R_drew)); exact HO166.out) hg (.inl rfl)); have n5_ := Aside0.mk (hb); clear HO_4; clear HO_65; clear BK143; clear BK162; clear HO166; clear HB; have HO_4 := n0_; have HO_65 := n1_; have BK143 := n2_; have BK162 := n3_; have HO166 := n4_; have HB := n5_; clear n0_ n1_ n2_ n3_ n4_ n5_; clear ho hb hg))
               go_roundg k2
               case measure => have := HK1.out; have := HK2.out; omega
               case rel => exact ⟨(y171), (wrap64 (x67_2 + 1)), (by first | rfl | (simp; done) | (simp [*]; done)), H', ⟨by have := HK1.out; have := HK2.out; omega⟩, ⟨by (with_reducible repeat (first | apply Kd.R_alloc | apply Kd.R_drewN | apply Kd.R_drew)); exact Kd.R_mono HO_4.out (fun _ hk => trivial)⟩, ⟨by (with_reducible repeat (first | apply Kd.R_alloc | apply Kd.R_drewN | apply Kd.R_drew)); exact Kd.R_mono HO_65.out (fun _ hk => trivial)⟩, ⟨by (with_reducible repeat (first | refine blk_drewN ?_ _ | refine blk_drew ?_ | refine blk_alloc ?_ _)); exact BK143.out⟩, ⟨by repeat (first | (with_reducible first | exact HB.out | apply below_alloc | apply pw_below_drewN | apply below_drew1 | refine below_set ?_ GE143.out | refine below_set ?_ GE162.out) | exact HB.out)⟩⟩
              ·rw [if_neg c43] at H
               exact absurd H (by simp)
             ·rw [if_neg c42] at H
              exact absurd H (by simp)
            ·rw [if_neg c41] at H
             exact absurd H (by simp)
           ·rw [if_neg c40] at H
            exact absurd H (by simp)
          ·rw [if_neg c39] at H
           have c39b0 : (t164 == 0) = false := beq_eq_false_iff_ne.mpr c39
           have c39b1 : (t164 != 0) = true := bne_iff_ne.mpr c39
           simp only [Option.some.injEq, Prod.mk.injEq] at H
           obtain ⟨rfl, rfl⟩ := H
           have p161 : 0 ≤ (x67_2 : Int) := of_decide_eq_true (by first | (with_reducible assumption) | assumption)
           have q161 : x67_2 < (y158.length : Int) := of_decide_eq_true (by first | (with_reducible assumption) | assumption)
           obtain ⟨ad161, e161, hx161_0, hx161_1, hx161_2⟩ := at_T63 (Kd.R_reads' HO_65.out).2.2 x67_2 p161 q161
           cases e161
           replace p161 := eq_true p161
           replace q161 := eq_true q161
           go_wp2_with (first | ((with_reducible refine gate_dst (N := 8) rfl ?_); refine box_event ?hg (N := 8) ?hd (cs := #[.int .i64 0, .int .i64 0, .int .i64 0]) (t := 63) ?hr ?_; (case hd => rfl); (case hg => rfl); (case hr => first | (go_simp; done) | (go_simp; rfl)); intro gb162 hg w54 hbox hb; have n0_ := Aside0.mk (Kd.R_below (by (with_reducible repeat (first | apply Kd.R_alloc | apply Kd.R_drewN | apply Kd.R_drew)); exact HO_4.out) hb); have n1_ := Aside0.mk (Kd.R_below (Kd.R_elderB (by (with_reducible repeat (first | apply Kd.R_alloc | apply Kd.R_drewN | apply Kd.R_drew)); exact HO_65.out) gb162 (Nat.le_of_eq hg.symm)) hb); have n2_ := Aside0.mk (blk_below (g := gb143) (o := .cells #[.int .i64 a0_0, .string a0_1, .string a0_2, .string a0_3, .string a0_4, .string a0_5, .int .u8 a0_6, .int .i64 a0_7, .int .i64 a0_8, .int .i64 a0_9, .int .i64 a0_10, .int .i64 a0_11] 25 (0, 0)) (by (with_reducible repeat (first | refine blk_drewN ?_ _ | refine blk_drew ?_ | refine blk_alloc ?_ _)); exact BK143.out) hb); have n3_ := Aside0.mk (below_step (by repeat (first | (with_reducible first | exact HB.out | apply below_alloc | apply pw_below_drewN | apply below_drew1 | refine below_set ?_ GE143.out) | exact HB.out)) hb); have n4_ := Aside0.mk (hbox); have n5_ := Aside0.mk ((by rw [hg]; exact (below_size (by repeat (first | (with_reducible first | exact HB.out | apply below_alloc | apply pw_below_drewN | apply below_drew1 | refine below_set ?_ GE143.out) | exact HB.out))) : w.heap.size ≤ gb162)); have n6_ := Aside0.mk ((by rw [hg]; exact (below_size (by repeat (first | (with_reducible first | exact HB.out | apply below_alloc | apply pw_below_drewN | apply below_drew1 | refine below_set ?_ GE143.out) | exact HB.out))) : w.heap.size ≤ gb162)); have n7_ := Aside0.mk ((by rw [hg]; exact Nat.ne_of_lt (blk_lt (g := gb143) (o := .cells #[.int .i64 a0_0, .string a0_1, .string a0_2, .string a0_3, .string a0_4, .string a0_5, .int .u8 a0_6, .int .i64 a0_7, .int .i64 a0_8, .int .i64 a0_9, .int .i64 a0_10, .int .i64 a0_11] 25 (0, 0)) (by (with_reducible repeat (first | refine blk_drewN ?_ _ | refine blk_drew ?_ | refine blk_alloc ?_ _)); exact BK143.out)) : gb143 ≠ gb162)); have n8_ := Aside0.mk ((by rw [hg]; exact Nat.ne_of_gt (blk_lt (g := gb143) (o := .cells #[.int .i64 a0_0, .string a0_1, .string a0_2, .string a0_3, .string a0_4, .string a0_5, .int .u8 a0_6, .int .i64 a0_7, .int .i64 a0_8, .int .i64 a0_9, .int .i64 a0_10, .int .i64 a0_11] 25 (0, 0)) (by (with_reducible repeat (first | refine blk_drewN ?_ _ | refine blk_drew ?_ | refine blk_alloc ?_ _)); exact BK143.out)) : gb162 ≠ gb143)); clear HO_4; clear HO_65; clear BK143; clear HB; have HO_4 := n0_; have HO_65 := n1_; have BK143 := n2_; have HB := n3_; have BK162 := n4_; have GW162 := n5_; have GE162 := n6_; have NB143_162 := n7_; have NB162_143 := n8_; clear n0_ n1_ n2_ n3_ n4_ n5_ n6_ n7_ n8_; clear hb hbox hg; have hnb55 := NB162_143.out; have hnc55 := NB143_162.out; have hcz56_0 : w54.cell? ⟨gb162, 0, none⟩ = some (.int .i64 0) := (blk_cell BK162.out 0).trans rfl; have hcz56_1 : w54.cell? ⟨gb162, 1, none⟩ = some (.int .i64 0) := (blk_cell BK162.out 1).trans rfl; have hcz56_2 : w54.cell? ⟨gb162, 2, none⟩ = some (.int .i64 0) := (blk_cell BK162.out 2).trans rfl; have hfz56_0 := blk_frozen BK162.out 0; have hfz56_1 := blk_frozen BK162.out 1; have hfz56_2 := blk_frozen BK162.out 2) | ((with_reducible refine gate_callee (f := 28) rfl ?_); refine goesL_ (some 76) rfl rfl Try.func28 (by kernel_rfl) rfl #[.int .i64 ((rd_T63 y158 x67_2).f0), .int .i64 ((rd_T63 y158 x67_2).f2)] rfl (by (try simp only [List.map_toArray, List.map_cons, List.map_nil]); first | done | rfl | (simp only [List.length_drop, List.length_take]; rfl)) ?_; (with_reducible refine (octal_Format.calls k2 ((rd_T63 y158 x67_2).f0) ((rd_T63 y158 x67_2).f2) t163 t164 _ A38.out).mono ?_); rintro e w57 ⟨v165, rfl, ho0, hb⟩; refine ⟨_, rfl, ?_⟩; have n0_ := Aside0.mk (Kd.R_elder' (by (with_reducible repeat (first | apply Kd.R_alloc | apply Kd.R_drewN | apply Kd.R_drew)); exact (Kd.R_mono (Kd.R_far (p := ⟨gb162, 2, none⟩) (Kd.R_far (p := ⟨gb162, 1, none⟩) (Kd.R_far (p := ⟨gb162, 0, none⟩) (Kd.R_types HO_4.out BK162.out (by decide)) (fun _ hk => hk.2) (.int .i64 ((rd_T63 y158 x67_2).f0))) (fun _ hk => hk.2) (.int .i64 ((rd_T63 y158 x67_2).f1))) (fun _ hk => hk.2) (.int .i64 ((rd_T63 y158 x67_2).f2))) (fun _ h_ => h_.1))) (Kd.R_base ho0) hb); have n1_ := Aside0.mk (Kd.R_below (by (with_reducible repeat (first | apply Kd.R_alloc | apply Kd.R_drewN | apply Kd.R_drew)); exact (Kd.R_mono (Kd.R_far (p := ⟨gb162, 2, none⟩) (Kd.R_far (p := ⟨gb162, 1, none⟩) (Kd.R_far (p := ⟨gb162, 0, none⟩) (Kd.R_mono HO_65.out (fun k_ hk => (⟨hk, hk.2⟩ : _ ∧ k_ ≠ gb162))) (fun _ hk => hk.2) (.int .i64 ((rd_T63 y158 x67_2).f0))) (fun _ hk => hk.2) (.int .i64 ((rd_T63 y158 x67_2).f1))) (fun _ hk => hk.2) (.int .i64 ((rd_T63 y158 x67_2).f2))) (fun _ h_ => h_.1))) hb); have n2_ := Aside0.mk (Kd.R_lower (Kd.R_new' ho0 (Kd.R_lt (by (with_reducible repeat (first | apply Kd.R_alloc | apply Kd.R_drewN | apply Kd.R_drew)); exact (Kd.R_mono (Kd.R_far (p := ⟨gb162, 2, none⟩) (Kd.R_far (p := ⟨gb162, 1, none⟩) (Kd.R_far (p := ⟨gb162, 0, none⟩) (Kd.R_types HO_4.out BK162.out (by decide)) (fun _ hk => hk.2) (.int .i64 ((rd_T63 y158 x67_2).f0))) (fun _ hk => hk.2) (.int .i64 ((rd_T63 y158 x67_2).f1))) (fun _ hk => hk.2) (.int .i64 ((rd_T63 y158 x67_2).f2))) (fun _ h_ => h_.1))))) (below_size (by repeat (first | (with_reducible first | exact HB.out | apply below_alloc | apply pw_below_drewN | apply below_drew1 | refine below_set ?_ GE143.out | refine below_set ?_ GE162.out) | exact HB.out)))); have n3_ := Aside0.mk (blk_below (g := gb143) (o := .cells #[.int .i64 a0_0, .string a0_1, .string a0_2, .string a0_3, .string a0_4, .string a0_5, .int .u8 a0_6, .int .i64 a0_7, .int .i64 a0_8, .int .i64 a0_9, .int .i64 a0_10, .int .i64 a0_11] 25 (0, 0)) (by (with_reducible repeat (first | refine blk_drewN ?_ _ | refine blk_drew ?_ | refine blk_alloc ?_ _)); refine blk_far ?_ NB143_162.out _; (with_reducible repeat (first | refine blk_drewN ?_ _ | refine blk_drew ?_ | refine blk_alloc ?_ _)); refine blk_far ?_ NB143_162.out _; (with_reducible repeat (first | refine blk_drewN ?_ _ | refine blk_drew ?_ | refine blk_alloc ?_ _)); refine blk_far ?_ NB143_162.out _; (with_reducible repeat (first | refine blk_drewN ?_ _ | refine blk_drew ?_ | refine blk_alloc ?_ _)); exact BK143.out) hb); have n4_ := Aside0.mk (blk_below (g := gb162) (o := .cells #[.int .i64 ((rd_T63 y158 x67_2).f0), .int .i64 ((rd_T63 y158 x67_2).f1), .int .i64 ((rd_T63 y158 x67_2).f2)] 63 (0, 0)) (by (with_reducible repeat (first | refine blk_drewN ?_ _ | refine blk_drew ?_ | refine blk_alloc ?_ _)); refine blk_put (cs := #[.int .i64 ((rd_T63 y158 x67_2).f0), .int .i64 ((rd_T63 y158 x67_2).f1), .int .i64 0]) ?_ 2 _ rfl; (with_reducible repeat (first | refine blk_drewN ?_ _ | refine blk_drew ?_ | refine blk_alloc ?_ _)); refine blk_put (cs := #[.int .i64 ((rd_T63 y158 x67_2).f0), .int .i64 0, .int .i64 0]) ?_ 1 _ rfl; (with_reducible repeat (first | refine blk_drewN ?_ _ | refine blk_drew ?_ | refine blk_alloc ?_ _)); refine blk_put (cs := #[.int .i64 0, .int .i64 0, .int .i64 0]) ?_ 0 _ rfl; (with_reducible repeat (first | refine blk_drewN ?_ _ | refine blk_drew ?_ | refine blk_alloc ?_ _)); exact BK162.out) hb); have n5_ := Aside0.mk (below_step (by repeat (first | (with_reducible first | exact HB.out | apply below_alloc | apply pw_below_drewN | apply below_drew1 | refine below_set ?_ GE143.out | refine below_set ?_ GE162.out) | exact HB.out)) hb); clear HO_4; clear HO_65; clear BK143; clear BK162; clear HB; have HO_4 := n0_; have HO_65 := n1_; have HO166 := n2_; have BK143 := n3_; have BK162 := n4_; have HB := n5_; clear n0_ n1_ n2_ n3_ n4_ n5_; (try clear hb); (try clear hb2); (try clear hk); (try clear hi); (try clear ho0)))
           go_ret2
           exact ⟨_, by first | rfl | (simp [errW_none, errW_some] <;> rfl) | (simp [*, errW_none, errW_some] <;> rfl), by first | exact Kd.R_nil _ _ _ _ _ | exact Kd.N_nil _ _ _ _ _ | exact Kd.V_nil _ _ _ _ _ | exact Kd.Q_nil _ _ _ _ _ | exact Kd.S_nil _ _ _ _ _, by repeat (first | (with_reducible first | exact HB.out | apply below_alloc | apply pw_below_drewN | apply below_drew1 | refine below_set ?_ GE143.out | refine below_set ?_ GE162.out) | exact HB.out)⟩
         ·rw [if_neg c37] at H
          exact absurd H (by simp)
        ·rw [if_neg c36] at H
         exact absurd H (by simp)
       ·rw [if_neg c35] at H
        have c35b0 : decide (x67_2 < (y158.length : Int)) = false := decide_eq_false c35
        clear c35
        by_cases c58 : 156 < (x4_2.length : Int)
        ·rw [if_pos c58] at H
         have c58b0 : decide (156 < (x4_2.length : Int)) = true := decide_eq_true c58
         have c58b1 : decide (156 < x4_2.length) = true := decide_eq_true (by omega)
         clear c58
         obtain ⟨y172, hy172⟩ : ∃ y_ : List Int, y_ = (x4_2.set (156 : Int).toNat a0_6) := ⟨_, rfl⟩
         replace H : (if 257 ≤ (x4_2.length : Int) then (if 257 < (x4_2.length : Int) then (if 257 + (⟨#[117, 115, 116, 97, 114, 0, 48, 48]⟩ : ByteArray).size ≤ y172.length then ((sum_Seal.f (y172.take 257 ++ bytesOf (⟨#[117, 115, 116, 97, 114, 0, 48, 48]⟩ : ByteArray) ++ y172.drop (257 + (⟨#[117, 115, 116, 97, 114, 0, 48, 48]⟩ : ByteArray).size))).bind fun bt178 => (some (bt178.1, bt178.2))) else (none)) else (none)) else (none)) = some (r1, r2) := by first | (rw [hy172]; with_reducible exact H) | (have H2_ := (Option.bind_some _ _).symm.trans H; rw [hy172]; with_reducible exact H2_) | (have H2_ := (Option.bind_some _ _).symm.trans H; with_reducible exact H2_) | with_reducible exact H | (rw [hy172]; exact H) | exact H
         have Ny172 := Aside0.mk hy172
         clear hy172
         by_cases c60 : 257 ≤ (x4_2.length : Int)
         ·rw [if_pos c60] at H
          have c60b0 := eq_true c60
          have c60b1 : decide (257 ≤ (x4_2.length : Int)) = true := decide_eq_true c60
          clear c60
          obtain ⟨y173, hy173⟩ : ∃ y_ : List Int, y_ = (y172.drop 257) := ⟨_, rfl⟩
          replace H : (if 257 < (x4_2.length : Int) then (if 257 + (⟨#[117, 115, 116, 97, 114, 0, 48, 48]⟩ : ByteArray).size ≤ y172.length then ((sum_Seal.f (y172.take 257 ++ bytesOf (⟨#[117, 115, 116, 97, 114, 0, 48, 48]⟩ : ByteArray) ++ y172.drop (257 + (⟨#[117, 115, 116, 97, 114, 0, 48, 48]⟩ : ByteArray).size))).bind fun bt178 => (some (bt178.1, bt178.2))) else (none)) else (none)) = some (r1, r2) := by first | (rw [hy173]; with_reducible exact H) | (have H2_ := (Option.bind_some _ _).symm.trans H; rw [hy173]; with_reducible exact H2_) | (have H2_ := (Option.bind_some _ _).symm.trans H; with_reducible exact H2_) | with_reducible exact H | (rw [hy173]; exact H) | exact H
          have Ny173 := Aside0.mk hy173
          clear hy173
          by_cases c61 : 257 < (x4_2.length : Int)
          ·rw [if_pos c61] at H
           have c61b0 := eq_true c61
           have c61b1 : decide (257 < (x4_2.length : Int)) = true := decide_eq_true c61
           clear c61
           by_cases c62 : 257 + (⟨#[117, 115, 116, 97, 114, 0, 48, 48]⟩ : ByteArray).size ≤ y172.length
           ·rw [if_pos c62] at H
            have LMc62 := Aside0.mk c62
            clear c62
            obtain ⟨y177, hy177⟩ : ∃ y_ : List Int, y_ = (y172.take 257 ++ bytesOf (⟨#[117, 115, 116, 97, 114, 0, 48, 48]⟩ : ByteArray) ++ y172.drop (257 + (⟨#[117, 115, 116, 97, 114, 0, 48, 48]⟩ : ByteArray).size)) := ⟨_, rfl⟩
            replace H : ((sum_Seal.f y177).bind fun bt178 => (some (bt178.1, bt178.2))) = some (r1, r2) := by first | (rw [hy177]; with_reducible exact H) | (have H2_ := (Option.bind_some _ _).symm.trans H; rw [hy177]; with_reducible exact H2_) | (have H2_ := (Option.bind_some _ _).symm.trans H; with_reducible exact H2_) | with_reducible exact H | (rw [hy177]; exact H) | exact H
            have Ny177 := Aside0.mk hy177
            clear hy177
            replace H := Option.bind_eq_some_iff.mp H
            obtain ⟨⟨t178, t179⟩, A630, H⟩ := H
            replace H : (some (t178, t179)) = some (r1, r2) := H
            have A63 := Aside0.mk A630
            clear A630
            simp only [Option.some.injEq, Prod.mk.injEq] at H
            obtain ⟨rfl, rfl⟩ := H
            have hcz64_0 : wr.cell? ⟨gb143, 0, none⟩ = some (.int .i64 a0_0) := (blk_cell BK143.out 0).trans rfl
            have hcz64_1 : wr.cell? ⟨gb143, 1, none⟩ = some (.string a0_1) := (blk_cell BK143.out 1).trans rfl
            have hcz64_2 : wr.cell? ⟨gb143, 2, none⟩ = some (.string a0_2) := (blk_cell BK143.out 2).trans rfl
            have hcz64_3 : wr.cell? ⟨gb143, 3, none⟩ = some (.string a0_3) := (blk_cell BK143.out 3).trans rfl
            have hcz64_4 : wr.cell? ⟨gb143, 4, none⟩ = some (.string a0_4) := (blk_cell BK143.out 4).trans rfl
            have hcz64_5 : wr.cell? ⟨gb143, 5, none⟩ = some (.string a0_5) := (blk_cell BK143.out 5).trans rfl
            have hcz64_6 : wr.cell? ⟨gb143, 6, none⟩ = some (.int .u8 a0_6) := (blk_cell BK143.out 6).trans rfl
            have hcz64_7 : wr.cell? ⟨gb143, 7, none⟩ = some (.int .i64 a0_7) := (blk_cell BK143.out 7).trans rfl
            have hcz64_8 : wr.cell? ⟨gb143, 8, none⟩ = some (.int .i64 a0_8) := (blk_cell BK143.out 8).trans rfl
            have hcz64_9 : wr.cell? ⟨gb143, 9, none⟩ = some (.int .i64 a0_9) := (blk_cell BK143.out 9).trans rfl
            have hcz64_10 : wr.cell? ⟨gb143, 10, none⟩ = some (.int .i64 a0_10) := (blk_cell BK143.out 10).trans rfl
            have hcz64_11 : wr.cell? ⟨gb143, 11, none⟩ = some (.int .i64 a0_11) := (blk_cell BK143.out 11).trans rfl
            have hfz64_0 := blk_frozen BK143.out 0
            have hfz64_1 := blk_frozen BK143.out 1
            have hfz64_2 := blk_frozen BK143.out 2
            have hfz64_3 := blk_frozen BK143.out 3
            have hfz64_4 := blk_frozen BK143.out 4
            have hfz64_5 := blk_frozen BK143.out 5
            have hfz64_6 := blk_frozen BK143.out 6
            have hfz64_7 := blk_frozen BK143.out 7
            have hfz64_8 := blk_frozen BK143.out 8
            have hfz64_9 := blk_frozen BK143.out 9
            have hfz64_10 := blk_frozen BK143.out 10
            have hfz64_11 := blk_frozen BK143.out 11
            have p59 : 0 ≤ (156 : Int) := (by omega)
            have q59 : (156 : Int) < ((x4_2.length : Int) : Int) := of_decide_eq_true (by first | (with_reducible assumption) | assumption)
            have qi59 : (156 < x4_2.length) = True := eq_true (by omega)
            obtain ⟨go59, co59, eo59, gb59, gl59, cl59, HG59⟩ := Kd.R_form HO_4.out (by omega)
            (first | cases eo59 | (injection eo59 with ea_ en_ ec_; (first | subst ea_ | (injection ea_ with ea_; subst ea_)); subst ec_; clear en_))
            have GB59 := Aside0.mk gb59
            have GG59 := Aside0.mk HG59
            clear gb59 gl59 HG59
            obtain ⟨hx59_0, hf59_0⟩ := Kd.R_celln 0 HO_4.out (156 : Int) p59 q59
            (try rw [show ((156 : Int)).toNat = 156 from rfl] at hx59_0)
            (try simp only [Nat.reduceMul, Nat.zero_mul, Nat.zero_add, Nat.reduceAdd] at hx59_0)
            (try rw [show ((156 : Int)).toNat = 156 from rfl] at hf59_0)
            (try simp only [Nat.reduceMul, Nat.zero_mul, Nat.zero_add, Nat.reduceAdd] at hf59_0)
            replace p59 := eq_true p59
            replace q59 := eq_true q59
            have HP65 := Kd.R_putg HO_4.out (156 : Int) a0_6
            go_wp2_with (first | ((with_reducible refine gate_store (t := 5) (p := 92) rfl ?_); refine store_event (t := 5) (p := 92) (v := ?vo_w66) (w1 := (wr.setCell ⟨go59, (156 : Int).toNat, none⟩ (.int .u8 a0_6))) ?hg ?ho ?hn ?hr ?_; (case ho => rfl); (case hg => rfl); (case hn => rfl); (case hr => first | (go_simp; done) | (go_simp; rfl)); intro w66 hw; have hg : wr.grownBy w66 (some go59) := (by rw [hw]; exact HP65.2); have hp_ : Kd.R (Kd.int .u8) 5 w66 w.heap.size (fun _ => True) (.slice (some ⟨go59, 0, none⟩) x4_2.length co59) y172 := (by rw [hw, Ny172.out]; exact HP65.1); clear HP65; have n0_ := Aside0.mk (hp_); have n1_ := Aside0.mk (Kd.R_over' (v := (.slice (some ⟨go59, 0, none⟩) x4_2.length co59)) (by (with_reducible repeat (first | apply Kd.R_alloc | apply Kd.R_drewN | apply Kd.R_drew)); exact HO_65.out) (Kd.R_typed HO_4.out) (by decide) hg); have n2_ := Aside0.mk (blk_grown (g := gb143) (o := .cells #[.int .i64 a0_0, .string a0_1, .string a0_2, .string a0_3, .string a0_4, .string a0_5, .int .u8 a0_6, .int .i64 a0_7, .int .i64 a0_8, .int .i64 a0_9, .int .i64 a0_10, .int .i64 a0_11] 25 (0, 0)) (by (with_reducible repeat (first | refine blk_drewN ?_ _ | refine blk_drew ?_ | refine blk_alloc ?_ _)); exact BK143.out) hg (Kd.R_ne HO_4.out BK143.out (by decide))); have n3_ := Aside0.mk ((by rw [hw]; exact below_set (HB.out) GB59.out : Below w.heap.size w w66)); clear HO_4; clear HO_65; clear BK143; clear HB; have HO_4 := n0_; have HO_65 := n1_; have BK143 := n2_; have HB := n3_; clear n0_ n1_ n2_ n3_; clear hg hw hp_; have hlx67 := (Kd.R_reads' HO_4.out).1; have q67 : (257 : Int) ≤ ((x4_2.length : Int) : Int) := of_decide_eq_true (by first | (with_reducible assumption) | assumption); obtain ⟨i067, hi067, _, hsz67, _⟩ := info_parts info5; have hroom67 : x4_2.length ≤ co59 := (Kd.R_reads' HO_4.out).2.1; have hroomc67 : y172.length ≤ co59 := (by rw [← hlx67]; exact hroom67); have hC67 : Kd.C (Kd.int .u8) _ (some ⟨go59, 0, none⟩) y172.length y172 := (Kd.R_reads' HO_4.out).2.2; have hcut67 := cut_from (P := Try.prog) 22 5 .i64 Try.underlying22 hi067 1 hsz67 (some ⟨go59, 0, none⟩) x4_2.length co59 257 (by omega) q67; have hr67 := Kd.C_drop (m := (257 : Int).toNat) (c := co59) hC67 (by omega) hroomc67; obtain ⟨A67, hA67⟩ : ∃ A1, A1 = (if co59 = (257 : Int).toNat then (some ⟨go59, 0, none⟩) else ((some ⟨go59, 0, none⟩) : Option Addr).map (·.add ((257 : Int).toNat * 1))) := ⟨_, rfl⟩; obtain ⟨c67, hc67⟩ : ∃ c1, c1 = co59 - (257 : Int).toNat := ⟨_, rfl⟩; have hy67 : y173.length = x4_2.length - (257 : Int).toNat := (by rw [Ny173.out, List.length_drop] <;> omega); rw [show (y172).drop (257 : Int).toNat = y173 from Ny173.out.symm] at hr67; replace hr67 : Kd.C (Kd.int .u8) _ A67 y173.length y173 := (by rw [hA67]; exact hr67); rw [← hy67, ← hA67, ← hc67] at hcut67; have HR176 := Aside0.mk hr67; have HC176 := Aside0.mk (show y173.length ≤ c67 from by rw [hy67, hc67]; exact Nat.sub_le_sub_right hroom67 _); clear hr67 hC67 hroom67 hi067 hsz67 hc67 hroomc67; have KY67 := Aside0.mk hy67; have KA67 := Aside0.mk hA67; clear hy67 hA67; have KE67 := Aside0.mk hlx67; have KL67 := Aside0.mk (show 257 ≤ y172.length from by omega); clear hlx67; replace q67 := eq_true q67) | ((with_reducible refine gate_builtin (b := .copy) (xs := #[.tmp 94, _]) rfl ?_); have hj_ : (257 : Int) < ((x4_2.length : Int) : Int) := of_decide_eq_true (by first | (with_reducible assumption) | assumption); have hb_ := (Kd.R_reads' HO_4.out).1; refine Copy.R_copystr (w0 := w) w.heap.size rfl (.tmp 94) _ 22 9 5 rfl Try.underlying22 (by kernel_rfl) (g := go59) (n := x4_2.length) (c := co59) (off := 257) rfl rfl ?hA ?hm (by (with_reducible repeat (first | apply Kd.R_alloc | apply Kd.R_drewN | apply Kd.R_drew)); exact HO_4.out) ?hfit (by repeat (first | (with_reducible first | exact HB.out | apply below_alloc | apply pw_below_drewN | apply below_drew1 | refine below_set ?_ GE143.out) | exact HB.out)) (below_size (by repeat (first | (with_reducible first | exact HB.out | apply below_alloc | apply pw_below_drewN | apply below_drew1 | refine below_set ?_ GE143.out) | exact HB.out))) ?_; (case hA => have ha_ := KA67.out; exact ha_); (case hm => have ha_ := KY67.out; omega); (case hfit => exact LMc62.out); intro w68 ho hb hg; clear hj_ hb_; rw [← Ny177.out] at ho; have n0_ := Aside0.mk (ho); have n1_ := Aside0.mk (Kd.R_over' (v := (.slice (some ⟨go59, 0, none⟩) x4_2.length co59)) (by (with_reducible repeat (first | apply Kd.R_alloc | apply Kd.R_drewN | apply Kd.R_drew)); exact HO_65.out) (Kd.R_typed HO_4.out) (by decide) hg); have n2_ := Aside0.mk (blk_grown (g := gb143) (o := .cells #[.int .i64 a0_0, .string a0_1, .string a0_2, .string a0_3, .string a0_4, .string a0_5, .int .u8 a0_6, .int .i64 a0_7, .int .i64 a0_8, .int .i64 a0_9, .int .i64 a0_10, .int .i64 a0_11] 25 (0, 0)) (by (with_reducible repeat (first | refine blk_drewN ?_ _ | refine blk_drew ?_ | refine blk_alloc ?_ _)); exact BK143.out) hg (Kd.R_ne HO_4.out BK143.out (by decide))); have n3_ := Aside0.mk (hb); clear HO_4; clear HO_65; clear BK143; clear HB; have HO_4 := n0_; have HO_65 := n1_; have BK143 := n2_; have HB := n3_; clear n0_ n1_ n2_ n3_; clear ho hb hg) | ((with_reducible refine gate_callee (f := 17) rfl ?_); refine goesL_ (some 97) rfl rfl Try.func17 (by kernel_rfl) rfl #[.slice (some ⟨go59, 0, none⟩) y177.length co59] rfl (by (try simp only [List.map_toArray, List.map_cons, List.map_nil]); first | done | (rw [show y177.length = x4_2.length from (Kd.R_reads' HO_4.out).1.symm] <;> rfl) | rfl | (simp only [List.length_drop, List.length_take]; rfl)) ?_; (with_reducible refine (sum_Seal.calls _ _ y177 t178 t179 _ ?side1 ?side2 A63.out).mono ?_); (case side1 => repeat (first | exact (Kd.R_reads' HO_4.out).2.2 | (with_reducible refine Kd.C_alloc ?_ _) | (with_reducible refine Kd.C_drewN ?_ _) | (with_reducible refine Kd.C_drew ?_))); (case side2 => rw [show y177.length = x4_2.length from (Kd.R_reads' HO_4.out).1.symm]; exact (Kd.R_reads' HO_4.out).2.1); rintro e w70 ⟨v180, rfl, ho0, hb⟩; refine ⟨_, rfl, ?_⟩; have n0_ := Aside0.mk (Kd.R_elder' (by (with_reducible repeat (first | apply Kd.R_alloc | apply Kd.R_drewN | apply Kd.R_drew)); exact HO_4.out) (Kd.R_base ho0) hb); have n1_ := Aside0.mk (Kd.R_below (by (with_reducible repeat (first | apply Kd.R_alloc | apply Kd.R_drewN | apply Kd.R_drew)); exact HO_65.out) hb); have n2_ := Aside0.mk (Kd.R_lower (Kd.R_new' ho0 (Kd.R_lt (by (with_reducible repeat (first | apply Kd.R_alloc | apply Kd.R_drewN | apply Kd.R_drew)); exact HO_4.out))) (below_size (by repeat (first | (with_reducible first | exact HB.out | apply below_alloc | apply pw_below_drewN | apply below_drew1 | refine below_set ?_ GE143.out) | exact HB.out)))); have n3_ := Aside0.mk (blk_below (g := gb143) (o := .cells #[.int .i64 a0_0, .string a0_1, .string a0_2, .string a0_3, .string a0_4, .string a0_5, .int .u8 a0_6, .int .i64 a0_7, .int .i64 a0_8, .int .i64 a0_9, .int .i64 a0_10, .int .i64 a0_11] 25 (0, 0)) (by (with_reducible repeat (first | refine blk_drewN ?_ _ | refine blk_drew ?_ | refine blk_alloc ?_ _)); exact BK143.out) hb); have n4_ := Aside0.mk (below_step (by repeat (first | (with_reducible first | exact HB.out | apply below_alloc | apply pw_below_drewN | apply below_drew1 | refine below_set ?_ GE143.out) | exact HB.out)) hb); clear HO_4; clear HO_65; clear BK143; clear HB; have HO_4 := n0_; have HO_65 := n1_; have HO181 := n2_; have BK143 := n3_; have HB := n4_; clear n0_ n1_ n2_ n3_ n4_; (try clear hb); (try clear hb2); (try clear hk); (try clear hi); (try clear ho0)))
            go_ret2
            exact ⟨_, by first | rfl | (simp [errW_none, errW_some] <;> rfl) | (simp [*, errW_none, errW_some] <;> rfl), by (with_reducible repeat (first | apply Kd.R_alloc | apply Kd.R_drewN | apply Kd.R_drew)); exact Kd.R_mono HO181.out (fun _ hk => trivial), by repeat (first | (with_reducible first | exact HB.out | apply below_alloc | apply pw_below_drewN | apply below_drew1 | refine below_set ?_ GE143.out) | exact HB.out)⟩
           ·rw [if_neg c62] at H
            exact absurd H (by simp)
          ·rw [if_neg c61] at H
           exact absurd H (by simp)
         ·rw [if_neg c60] at H
          exact absurd H (by simp)
        ·rw [if_neg c58] at H
         exact absurd H (by simp)
 ·rw [if_neg c2] at H
  exact absurd H (by simp)

end Go.Proofs.Ytchldbhnohicoaa.XA
