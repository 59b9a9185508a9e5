-- Written by a program of this session (wip/tools/xprint.py) out of the translation's print. Lean checks it.
import Derived.Test.YtchldbhnohicoaaXA0
namespace Go.Proofs.Ytchldbhnohicoaa.XA
open Go.RowKit Go.Proofs.YtchldbhnohicoaaW.PrintWords Go.Proofs.YtchldbhnohicoaaW.PrintLast Go.Proofs.YtchldbhnohicoaaW.PrintMore
attribute [local go_sem] max2_int min2_int max_two min_two max_three min_three max_four min_four   -- for this text's walks alone
set_option linter.unusedVariables false
set_option linter.unusedSimpArgs false

/-! ### octal_binary: function 36 -/
mutual
def octal_binary.j0 : Nat → List Int → Bool → Option (Int × Int)
 | 0, _, _ => none
 | k + 1, x0, x16 => if x16 = true then (some (0, 20)) else (if 0 < (x0.length : Int) then (if (rd x0 0) = 255 then (octal_binary.j1 k x0 (-1)) else (octal_binary.j1 k x0 0)) else (none))
def octal_binary.j1 : Nat → List Int → Int → Option (Int × Int)
 | 0, _, _ => none
 | k + 1, x0, x4 => if 1 ≤ (x0.length : Int) then ((some (x0.drop 1 : List Int)).bind fun y104 => (octal_binary.l0 k x4 y104 (y104.length : Int) 0)) else (none)
def octal_binary.l0 : Nat → Int → List Int → Int → Int → Option (Int × Int)
 | 0, _, _, _, _ => none
 | k + 1, x4, x22, x23, x24 => if x24 < x23 then (if 0 ≤ x24 then (if x24 < (x22.length : Int) then (if x4 ≥ 36028797018963968 then (some (0, 20)) else (if x4 < (-36028797018963968) then (some (0, 20)) else (octal_binary.l0 k (Go.bits .or .i64 (wrap64 (x4 * 256)) (wrap64 (rd x22 x24))) x22 x23 (wrap64 (x24 + 1))))) else (none)) else (none)) else (some (x4, 0))
end
def octal_binary.f (k : Nat) (l0 : List Int) : Option (Int × Int) := if 0 < (l0.length : Int) then (if (rd l0 0) = 128 then (octal_binary.j0 k l0 false) else (octal_binary.j0 k l0 ((rd l0 0) != 255))) else (none)
theorem octal_binary.mono_l : ∀ k, (∀ y0 y1, LeO (octal_binary.j0 k y0 y1) (octal_binary.j0 (k + 1) y0 y1)) ∧ (∀ y0 y1, LeO (octal_binary.j1 k y0 y1) (octal_binary.j1 (k + 1) y0 y1)) ∧ (∀ y0 y1 y2 y3, LeO (octal_binary.l0 k y0 y1 y2 y3) (octal_binary.l0 (k + 1) y0 y1 y2 y3))
 | 0 => ⟨fun _ _ r h => by simp [octal_binary.j0] at h, fun _ _ r h => by simp [octal_binary.j1] at h, fun _ _ _ _ r h => by simp [octal_binary.l0] at h⟩
 | k + 1 => by
  obtain ⟨ih0, ih1, ih2⟩ := octal_binary.mono_l k
  refine ⟨?_, ?_, ?_⟩
  ·intro y0 y1
   unfold octal_binary.j0
   repeat' first
   | (with_reducible exact ih0 _ _)
   | (with_reducible exact ih1 _ _)
   | (with_reducible exact ih2 _ _ _ _)
   | (with_reducible exact LeO.refl _)
   | (with_reducible exact LeO.none _)
   | (with_reducible refine LeO.ite ?_ ?_)
   | (with_reducible refine LeO.bind ?_ (fun _ => ?_))
   | exact ih0 _ _
   | exact ih1 _ _
   | exact ih2 _ _ _ _
   | exact LeO.none _
   | refine LeO.ite ?_ ?_
   | refine LeO.bind ?_ (fun _ => ?_)
  ·intro y0 y1
   unfold octal_binary.j1
   repeat' first
   | (with_reducible exact ih0 _ _)
   | (with_reducible exact ih1 _ _)
   | (with_reducible exact ih2 _ _ _ _)
   | (with_reducible exact LeO.refl _)
   | (with_reducible exact LeO.none _)
   | (with_reducible refine LeO.ite ?_ ?_)
   | (with_reducible refine LeO.bind ?_ (fun _ => ?_))
   | exact ih0 _ _
   | exact ih1 _ _
   | exact ih2 _ _ _ _
   | exact LeO.none _
   | refine LeO.ite ?_ ?_
   | refine LeO.bind ?_ (fun _ => ?_)
  ·intro y0 y1 y2 y3
   unfold octal_binary.l0
   repeat' first
   | (with_reducible exact ih0 _ _)
   | (with_reducible exact ih1 _ _)
   | (with_reducible exact ih2 _ _ _ _)
   | (with_reducible exact LeO.refl _)
   | (with_reducible exact LeO.none _)
   | (with_reducible refine LeO.ite ?_ ?_)
   | (with_reducible refine LeO.bind ?_ (fun _ => ?_))
   | exact ih0 _ _
   | exact ih1 _ _
   | exact ih2 _ _ _ _
   | exact LeO.none _
   | refine LeO.ite ?_ ?_
   | refine LeO.bind ?_ (fun _ => ?_)
theorem octal_binary.mono : ∀ a0 k, LeO (octal_binary.f k a0) (octal_binary.f (k + 1) a0) := by
 intro a0 k
 obtain ⟨ih0, ih1, ih2⟩ := octal_binary.mono_l k
 unfold octal_binary.f
 repeat' first
   | (with_reducible exact ih0 _ _)
   | (with_reducible exact ih1 _ _)
   | (with_reducible exact ih2 _ _ _ _)
   | (with_reducible exact LeO.refl _)
   | (with_reducible exact LeO.none _)
   | (with_reducible refine LeO.ite ?_ ?_)
   | (with_reducible refine LeO.bind ?_ (fun _ => ?_))
   | exact ih0 _ _
   | exact ih1 _ _
   | exact ih2 _ _ _ _
   | exact LeO.none _
   | refine LeO.ite ?_ ?_
   | refine LeO.bind ?_ (fun _ => ?_)
set_option maxHeartbeats 8000000 in
set_option maxRecDepth 100000 in
theorem octal_binary.calls (k : Nat) (A0 : Option Addr) (c0 : Nat) (l0 : List Int) (r1 : Int) (r2 : Int) (w : World) (hr0 : Kd.C (Kd.int .u8) w A0 l0.length l0) (hc0 : l0.length ≤ c0) (h : octal_binary.f k l0 = some (r1, r2)) :
  Calls Try.prog 36 #[.slice A0 l0.length c0] w fun e w' => e = .returned (.tuple #[.int .i64 r1, .int .i64 r2]) ∧ Drawn0 w w' := by
 have HR0 := Aside0.mk hr0
 have HC0 := Aside0.mk hc0
 clear hr0 hc0
 have H : (if 0 < (l0.length : Int) then (if (rd l0 0) = 128 then (octal_binary.j0 k l0 false) else (octal_binary.j0 k l0 ((rd l0 0) != 255))) else (none)) = some (r1, r2) := h
 clear h
 have HC2 := Aside0.mk H
 clear H
 go_enter Try.func36, Try.ntmps36
 go_upto_region 1 with (fail)
 go_cut [16] (fun v16 wc => ∃ (kq : Nat) (x16_1 : Bool), v16 = .bool x16_1 ∧ Aside0 (octal_binary.j0 kq l0 x16_1 = some (r1, r2)) ∧ Aside0 (kq ≤ k) ∧ Drawn0 w wc)
 case first =>
  have H := HC2.out
  clear HC2
  by_cases c3 : 0 < (l0.length : Int)
  ·rw [if_pos c3] at H
   have c3b0 : decide (0 < (l0.length : Int)) = true := decide_eq_true c3
   have c3b1 : decide (0 < l0.length) = true := decide_eq_true (by omega)
   clear c3
   (first | rw [c3b0] | (simp only [i64_w, i32_w]; rw [c3b0]) | skip)
   by_cases c4 : (rd l0 0) = 128
   ·rw [if_pos c4] at H
    have c4b0 : ((rd l0 0) == 128) = true := beq_iff_eq.mpr c4
    have c4b1 : ((rd l0 0) != 128) = false := bne_eq_false_iff_eq.mpr c4
    clear c4
    have H' := Aside0.mk H
    clear H
    have p101 : 0 ≤ (0 : Int) := (by omega)
    have q101 : 0 < (l0.length : Int) := of_decide_eq_true (by first | (with_reducible assumption) | assumption)
    obtain ⟨ad101, e101, hx101_0⟩ := Kd.at_int HR0.out 0 p101 q101
    cases e101
    have qi101 : (0 < l0.length) = True := eq_true (by omega)
    (try rw [show ((0 : Int)).toNat = 0 from rfl] at hx101_0)
    (try rw [Addr.add_zero'] at hx101_0)
    replace p101 := eq_true p101
    replace q101 := eq_true q101
    go_wp2
    go_meet
    case rel => exact ⟨_, (false), (by first | rfl | (simp; done) | (simp [*]; done)), H', ⟨by first | omega | exact Nat.le_refl _⟩, by repeat (first | exact Drawn0.refl _ | apply Drawn0.step)⟩
   ·rw [if_neg c4] at H
    have c4b0 : ((rd l0 0) == 128) = false := beq_eq_false_iff_ne.mpr c4
    have c4b1 : ((rd l0 0) != 128) = true := bne_iff_ne.mpr c4
    have H' := Aside0.mk H
    clear H
    have p101 : 0 ≤ (0 : Int) := (by omega)
    have q101 : 0 < (l0.length : Int) := of_decide_eq_true (by first | (with_reducible assumption) | assumption)
    obtain ⟨ad101, e101, hx101_0⟩ := Kd.at_int HR0.out 0 p101 q101
    cases e101
    have qi101 : (0 < l0.length) = True := eq_true (by omega)
    (try rw [show ((0 : Int)).toNat = 0 from rfl] at hx101_0)
    (try rw [Addr.add_zero'] at hx101_0)
    replace p101 := eq_true p101
    replace q101 := eq_true q101
    have p102 : 0 ≤ (0 : Int) := (by omega)
    have q102 : 0 < (l0.length : Int) := of_decide_eq_true (by first | (with_reducible assumption) | assumption)
    obtain ⟨ad102, e102, hx102_0⟩ := Kd.at_int HR0.out 0 p102 q102
    obtain rfl : ad101 = ad102 := (by injection e102)
    have qi102 : (0 < l0.length) = True := eq_true (by omega)
    (try rw [show ((0 : Int)).toNat = 0 from rfl] at hx102_0)
    (try rw [Addr.add_zero'] at hx102_0)
    replace p102 := eq_true p102
    replace q102 := eq_true q102
    go_wp2
    go_meet
    case rel => exact ⟨_, (((rd l0 0) != 255)), (by first | rfl | (simp; done) | (simp [*]; done)), H', ⟨by first | omega | exact Nat.le_refl _⟩, by repeat (first | exact Drawn0.refl _ | apply Drawn0.step)⟩
  ·rw [if_neg c3] at H
   exact absurd H (by simp)
 case rest =>
  clear HC2
  try clear p1
  try clear q1
  try clear hx1
  try clear qi1
  try clear p2
  try clear c3
  try clear c3b0
  try clear c3b1
  try clear c4
  try clear c4b0
  try clear c4b1
  try clear hx101_0
  try clear hx102_0
  try clear p101
  try clear p102
  try clear q101
  try clear q102
  obtain ⟨kq, x16_1, rfl, HA, HJ1, ⟨mc1, rfl⟩⟩ := hcut
  cases kq with
  | zero => exact absurd HA.out (by simp [octal_binary.j0])
  | succ kj1 =>
   have H := HA.out
   clear HA
   simp only [octal_binary.j0] at H
   by_cases c5 : x16_1 = true
   ·subst c5
    have H1 : (some (0, 20)) = some (r1, r2) := by rw [if_pos rfl] at H; exact H
    clear H
    have H := H1
    clear H1
    simp only [Option.some.injEq, Prod.mk.injEq] at H
    obtain ⟨rfl, rfl⟩ := H
    go_wp2
    go_ret2
    exact ⟨by first | rfl | (simp; done) | (simp [*]; done), by repeat (first | exact Drawn0.refl _ | apply Drawn0.step)⟩
   ·replace c5 := Bool.eq_false_iff.mpr c5
    subst c5
    have H1 : (if 0 < (l0.length : Int) then (if (rd l0 0) = 255 then (octal_binary.j1 kj1 l0 (-1)) else (octal_binary.j1 kj1 l0 0)) else (none)) = some (r1, r2) := by rw [if_neg (show ¬ (false = true) by decide)] at H; exact H
    clear H
    have H := H1
    clear H1
    by_cases c6 : 0 < (l0.length : Int)
    ·rw [if_pos c6] at H
     have c6b0 : decide (0 < (l0.length : Int)) = true := decide_eq_true c6
     have c6b1 : decide (0 < l0.length) = true := decide_eq_true (by omega)
     clear c6
     have HC7 := Aside0.mk H
     clear H
     have p103 : 0 ≤ (0 : Int) := (by omega)
     have q103 : 0 < (l0.length : Int) := of_decide_eq_true (by first | (with_reducible assumption) | assumption)
     obtain ⟨ad103, e103, hx103_0⟩ := Kd.at_int HR0.out 0 p103 q103
     cases e103
     have qi103 : (0 < l0.length) = True := eq_true (by omega)
     (try rw [show ((0 : Int)).toNat = 0 from rfl] at hx103_0)
     (try rw [Addr.add_zero'] at hx103_0)
     replace p103 := eq_true p103
     replace q103 := eq_true q103
     go_upto_if 20 with (fail)
     go_cut [4] (fun v4 wc => ∃ (kq : Nat) (x4_6 : Int), v4 = .int .i64 x4_6 ∧ Aside0 (octal_binary.j1 kq l0 x4_6 = some (r1, r2)) ∧ Aside0 (kq ≤ kj1) ∧ Drawn0 w wc)
     case first =>
      have H := HC7.out
      clear HC7
      by_cases c8 : (rd l0 0) = 255
      ·rw [if_pos c8] at H
       have c8b0 : ((rd l0 0) == 255) = true := beq_iff_eq.mpr c8
       have c8b1 : ((rd l0 0) != 255) = false := bne_eq_false_iff_eq.mpr c8
       clear c8
       (first | rw [c8b0] | (simp only [i64_w, i32_w]; rw [c8b0]) | skip)
       have H' := Aside0.mk H
       clear H
       go_wp2
       go_meet
       case rel => exact ⟨_, ((-1)), (by first | rfl | (simp; done) | (simp [*]; done)), H', ⟨by have := HJ1.out; first | omega | exact Nat.le_refl _⟩, by repeat (first | exact Drawn0.refl _ | apply Drawn0.step)⟩
      ·rw [if_neg c8] at H
       have c8b0 : ((rd l0 0) == 255) = false := beq_eq_false_iff_ne.mpr c8
       have c8b1 : ((rd l0 0) != 255) = true := bne_iff_ne.mpr c8
       (first | rw [c8b0] | (simp only [i64_w, i32_w]; rw [c8b0]) | skip)
       have H' := Aside0.mk H
       clear H
       go_wp2
       go_meet
       case rel => exact ⟨_, (0), (by first | rfl | (simp; done) | (simp [*]; done)), H', ⟨by have := HJ1.out; first | omega | exact Nat.le_refl _⟩, by repeat (first | exact Drawn0.refl _ | apply Drawn0.step)⟩
     case rest =>
      clear HC7
      try clear c1
      try clear p1
      try clear q1
      try clear hx1
      try clear qi1
      try clear p2
      try clear c3
      try clear c3b0
      try clear c3b1
      try clear c4
      try clear c4b0
      try clear c4b1
      try clear c5
      try clear c6
      try clear c6b0
      try clear c6b1
      try clear c8
      try clear c8b0
      try clear c8b1
      try clear hx101_0
      try clear hx102_0
      try clear hx103_0
      try clear p1
      try clear p101
      try clear p102
      try clear p103
      try clear p2
      try clear q1
      try clear q101
      try clear q102
      try clear q103
      obtain ⟨kq, x4_6, rfl, HA, HJ6, ⟨mc6, rfl⟩⟩ := hcut
      cases kq with
      | zero => exact absurd HA.out (by simp [octal_binary.j1])
      | succ kj6 =>
       have H := HA.out
       clear HA
       simp only [octal_binary.j1] at H
       by_cases c9 : 1 ≤ (l0.length : Int)
       ·rw [if_pos c9] at H
        have c9b0 := eq_true c9
        have c9b1 : decide (1 ≤ (l0.length : Int)) = true := decide_eq_true c9
        clear c9
        obtain ⟨y104, hy104⟩ : ∃ y_ : List Int, y_ = (l0.drop 1) := ⟨_, rfl⟩
        replace H : (octal_binary.l0 kj6 x4_6 y104 (y104.length : Int) 0) = some (r1, r2) := by first | (rw [hy104]; with_reducible exact H) | (have H2_ := (Option.bind_some _ _).symm.trans H; rw [hy104]; with_reducible exact H2_) | (have H2_ := (Option.bind_some _ _).symm.trans H; with_reducible exact H2_) | with_reducible exact H | (rw [hy104]; exact H) | exact H
        have Ny104 := Aside0.mk hy104
        clear hy104
        have H' := Aside0.mk H
        clear H
        have q10 : (1 : Int) ≤ ((l0.length : Int) : Int) := of_decide_eq_true (by first | (with_reducible assumption) | assumption)
        obtain ⟨i010, hi010, _, hsz10, _⟩ := info_parts info5
        have hroom10 : l0.length ≤ c0 := HC0.out
        have hC10 : Kd.C (Kd.int .u8) _ (some ad103) l0.length l0 := HR0.out
        have hcut10 := cut_from (P := Try.prog) 22 5 .i64 Try.underlying22 hi010 1 hsz10 (some ad103) l0.length c0 1 (by omega) q10
        have hr10 := Kd.C_drop (m := (1 : Int).toNat) (c := c0) hC10 (by omega) hroom10
        obtain ⟨A10, hA10⟩ : ∃ A1, A1 = (if c0 = (1 : Int).toNat then (some ad103) else ((some ad103) : Option Addr).map (·.add ((1 : Int).toNat * 1))) := ⟨_, rfl⟩
        obtain ⟨c10, hc10⟩ : ∃ c1, c1 = c0 - (1 : Int).toNat := ⟨_, rfl⟩
        have hy10 : y104.length = l0.length - (1 : Int).toNat := (by rw [Ny104.out, List.length_drop] <;> omega)
        rw [show (l0).drop (1 : Int).toNat = y104 from Ny104.out.symm] at hr10
        replace hr10 : Kd.C (Kd.int .u8) _ A10 y104.length y104 := (by rw [hA10]; exact hr10)
        rw [← hy10, ← hA10, ← hc10] at hcut10
        have HR107 := Aside0.mk hr10
        have HC107 := Aside0.mk (show y104.length ≤ c10 from by rw [hy10, hc10]; exact Nat.sub_le_sub_right hroom10 _)
        clear hr10 hC10 hroom10 hi010 hsz10 hc10
        have KY10 := Aside0.mk hy10
        have KA10 := Aside0.mk hA10
        clear hy10 hA10
        replace q10 := eq_true q10
        go_wp2
        go_loopg [4, 24] kj6 (fun kq v4 v24 w' => ∃ (x4_3 : Int) (x24_3 : Int), v4 = .int .i64 x4_3 ∧ v24 = .int .i64 x24_3 ∧ Aside0 (octal_binary.l0 kq x4_3 y104 (y104.length : Int) x24_3 = some (r1, r2)) ∧ Aside0 (kq ≤ kj6) ∧ Drawn0 w w')
        case atStart => exact ⟨(x4_6), (0), (by first | rfl | (simp; done) | (simp [*]; done)), (by first | rfl | (simp; done) | (simp [*]; done)), H', ⟨Nat.le_refl _⟩, by repeat (first | exact Drawn0.refl _ | apply Drawn0.step)⟩
        case round =>
         clear H'
         try clear c1
         try clear p1
         try clear q1
         try clear hx1
         try clear qi1
         try clear p2
         try clear c3
         try clear c3b0
         try clear c3b1
         try clear c4
         try clear c4b0
         try clear c4b1
         try clear c5
         try clear c6
         try clear c6b0
         try clear c6b1
         try clear c8
         try clear c8b0
         try clear c8b1
         try clear c9
         try clear c9b0
         try clear c9b1
         try clear c10
         try clear p10
         try clear q10
         try clear hx10
         try clear qi10
         try clear hx101_0
         try clear hx102_0
         try clear hx103_0
         try clear p1
         try clear p101
         try clear p102
         try clear p103
         try clear p2
         try clear q1
         try clear q10
         try clear q101
         try clear q102
         try clear q103
         obtain ⟨x4_3, x24_3, rfl, rfl, HA, HK3, ⟨m3, rfl⟩⟩ := hrel
         cases gk with
         | zero => exact absurd HA.out (by simp [octal_binary.l0])
         | succ k3 =>
          have H := HA.out
          clear HA
          simp only [octal_binary.l0] at H
          by_cases c11 : x24_3 < (y104.length : Int)
          ·rw [if_pos c11] at H
           have c11b0 : decide (x24_3 < (y104.length : Int)) = true := decide_eq_true c11
           clear c11
           by_cases c12 : 0 ≤ x24_3
           ·rw [if_pos c12] at H
            have c12b0 : decide (0 ≤ x24_3) = true := decide_eq_true c12
            clear c12
            by_cases c13 : x24_3 < (y104.length : Int)
            ·rw [if_pos c13] at H
             have c13b0 : decide (x24_3 < (y104.length : Int)) = true := decide_eq_true c13
             clear c13
             by_cases c14 : x4_3 ≥ 36028797018963968
             ·rw [if_pos c14] at H
              have c14b0 : decide (36028797018963968 ≤ x4_3) = true := decide_eq_true c14
              clear c14
              simp only [Option.some.injEq, Prod.mk.injEq] at H
              obtain ⟨rfl, rfl⟩ := H
              have p108 : 0 ≤ (x24_3 : Int) := of_decide_eq_true (by first | (with_reducible assumption) | assumption)
              have q108 : x24_3 < (y104.length : Int) := of_decide_eq_true (by first | (with_reducible assumption) | assumption)
              obtain ⟨ad108, e108, hx108_0⟩ := Kd.at_int HR107.out x24_3 p108 q108
              cases e108
              replace p108 := eq_true p108
              replace q108 := eq_true q108
              go_wp2
              go_ret2
              exact ⟨by first | rfl | (simp; done) | (simp [*]; done), by repeat (first | exact Drawn0.refl _ | apply Drawn0.step)⟩
             ·rw [if_neg c14] at H
              have c14b0 : decide (36028797018963968 ≤ x4_3) = false := decide_eq_false c14
              clear c14
              by_cases c15 : x4_3 < (-36028797018963968)
              ·rw [if_pos c15] at H
               have c15b0 : decide (x4_3 < (-36028797018963968)) = true := decide_eq_true c15
               clear c15
               simp only [Option.some.injEq, Prod.mk.injEq] at H
               obtain ⟨rfl, rfl⟩ := H
               have p108 : 0 ≤ (x24_3 : Int) := of_decide_eq_true (by first | (with_reducible assumption) | assumption)
               have q108 : x24_3 < (y104.length : Int) := of_decide_eq_true (by first | (with_reducible assumption) | assumption)
               obtain ⟨ad108, e108, hx108_0⟩ := Kd.at_int HR107.out x24_3 p108 q108
               cases e108
               replace p108 := eq_true p108
               replace q108 := eq_true q108
               go_wp2
               go_ret2
               exact ⟨by first | rfl | (simp; done) | (simp [*]; done), by repeat (first | exact Drawn0.refl _ | apply Drawn0.step)⟩
              ·rw [if_neg c15] at H
               have c15b0 : decide (x4_3 < (-36028797018963968)) = false := decide_eq_false c15
               clear c15
               have H' := Aside0.mk H
               clear H
               have p108 : 0 ≤ (x24_3 : Int) := of_decide_eq_true (by first | (with_reducible assumption) | assumption)
               have q108 : x24_3 < (y104.length : Int) := of_decide_eq_true (by first | (with_reducible assumption) | assumption)
               obtain ⟨ad108, e108, hx108_0⟩ := Kd.at_int HR107.out x24_3 p108 q108
               cases e108
               replace p108 := eq_true p108
               replace q108 := eq_true q108
               go_wp2
               go_roundg k3
               case measure => have := HJ1.out; have := HJ6.out; have := HK3.out; omega
               case rel => exact ⟨(Go.bits .or .i64 (wrap64 (x4_3 * 256)) (wrap64 (rd y104 x24_3))), (wrap64 (x24_3 + 1)), (by first | rfl | (simp; done) | (simp [*]; done)), (by first | rfl | (simp; done) | (simp [*]; done)), H', ⟨by have := HJ1.out; have := HJ6.out; have := HK3.out; omega⟩, by repeat (first | exact Drawn0.refl _ | apply Drawn0.step)⟩
            ·rw [if_neg c13] at H
             exact absurd H (by simp)
           ·rw [if_neg c12] at H
            exact absurd H (by simp)
          ·rw [if_neg c11] at H
           have c11b0 : decide (x24_3 < (y104.length : Int)) = false := decide_eq_false c11
           clear c11
           simp only [Option.some.injEq, Prod.mk.injEq] at H
           obtain ⟨rfl, rfl⟩ := H
           go_wp2
           go_ret2
           exact ⟨by first | rfl | (simp; done) | (simp [*]; done), by repeat (first | exact Drawn0.refl _ | apply Drawn0.step)⟩
       ·rw [if_neg c9] at H
        exact absurd H (by simp)
    ·rw [if_neg c6] at H
     exact absurd H (by simp)

end Go.Proofs.Ytchldbhnohicoaa.XA
