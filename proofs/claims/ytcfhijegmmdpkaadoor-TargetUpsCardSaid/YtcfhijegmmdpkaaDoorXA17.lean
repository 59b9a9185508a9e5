-- Written by a program of this session (wip/tools/xprint.py) out of the translation's print. Lean checks it.
import Derived.Test.YtcfhijegmmdpkaaDoorXA0
import Derived.Test.YtcfhijegmmdpkaaDoorESound
import Derived.Test.YtcfhijegmmdpkaaDoorXA2
import Derived.Test.YtcfhijegmmdpkaaDoorXA7
import Derived.Test.YtcfhijegmmdpkaaDoorEResolve
namespace Go.Proofs.YtcfhijegmmdpkaaDoor.XA
open Go.RowKit Go.Proofs.YtcfhijegmmdpkaaDoorW.PrintWords Go.Proofs.YtcfhijegmmdpkaaDoorW.PrintLast Go.Proofs.YtcfhijegmmdpkaaDoorW.PrintMore
attribute [local go_sem] max2_int min2_int max_two min_two max_three min_three max_four min_four   -- for this text's walks alone
set_option linter.unusedVariables false
set_option linter.unusedSimpArgs false

/-! ### pannierlaw11_TargetUps: function 11 -/
mutual
def pannierlaw11_TargetUps.j0 : Nat → Int → ByteArray → Bool → Option (Bool)
 | 0, _, _, _ => none
 | k + 1, x1, x5, x27 => if x27 = true then (some true) else (pannierlaw11_TargetUps.l0 k x1 x5 (⟨#[46, 46]⟩ : ByteArray) (wrap64 (x1 - 1)) 0)
def pannierlaw11_TargetUps.l0 : Nat → Int → ByteArray → ByteArray → Int → Int → Option (Bool)
 | 0, _, _, _, _, _ => none
 | k + 1, x1, x5, x7, x29, x30 => if x30 < x29 then (if x7.size + 3 ≤ 9223372036854775807 then (pannierlaw11_TargetUps.l0 k x1 x5 (x7 ++ (⟨#[47, 46, 46]⟩ : ByteArray)) x29 (wrap64 (x30 + 1))) else (none)) else ((target_Resolve.f x5 x7).bind fun bt332 => ((path_Parts.f x5).bind fun t334 => (if x1 > (t334.length : Int) then (if bt332.2 = 110 then (some (bt332.1.toList == ([] : List UInt8))) else (some false)) else (if bt332.2 = 0 then (if 0 ≤ (wrap64 ((t334.length : Int) - x1)) then (if (wrap64 ((t334.length : Int) - x1)) ≤ (t334.length : Int) then ((path_Join.f (t334.take ((wrap64 ((t334.length : Int) - x1)) : Int).toNat)).bind fun t341 => (some (bt332.1.toList == t341.toList))) else (none)) else (none)) else (some false)))))
end
def pannierlaw11_TargetUps.f (k : Nat) (a0 : ByteArray) (a1 : Int) : Option (Bool) := (pannierlaw11_points.f k).bind fun t329 => (if t329 = true then ((pannierlaw11_clean.f k a0).bind fun bt330 => (if bt330.2 = true then (if a1 < 1 then (pannierlaw11_TargetUps.j0 k a1 bt330.1 true) else (pannierlaw11_TargetUps.j0 k a1 bt330.1 (decide (a1 > 50)))) else (pannierlaw11_TargetUps.j0 k a1 bt330.1 true))) else (some false))
theorem pannierlaw11_TargetUps.mono_l : ∀ k, (∀ y0 y1 y2, LeO (pannierlaw11_TargetUps.j0 k y0 y1 y2) (pannierlaw11_TargetUps.j0 (k + 1) y0 y1 y2)) ∧ (∀ y0 y1 y2 y3 y4, LeO (pannierlaw11_TargetUps.l0 k y0 y1 y2 y3 y4) (pannierlaw11_TargetUps.l0 (k + 1) y0 y1 y2 y3 y4))
 | 0 => ⟨fun _ _ _ r h => by simp [pannierlaw11_TargetUps.j0] at h, fun _ _ _ _ _ r h => by simp [pannierlaw11_TargetUps.l0] at h⟩
 | k + 1 => by
  obtain ⟨ih0, ih1⟩ := pannierlaw11_TargetUps.mono_l k
  refine ⟨?_, ?_⟩
  ·intro y0 y1 y2
   unfold pannierlaw11_TargetUps.j0
   repeat' first
   | (with_reducible exact ih0 _ _ _)
   | (with_reducible exact ih1 _ _ _ _ _)
   | (with_reducible exact pannierlaw11_clean.mono _ _)
   | (with_reducible exact pannierlaw11_points.mono _)
   | (with_reducible exact LeO.refl _)
   | (with_reducible exact LeO.none _)
   | (with_reducible refine LeO.ite ?_ ?_)
   | (with_reducible refine LeO.bind ?_ (fun _ => ?_))
   | exact ih0 _ _ _
   | exact ih1 _ _ _ _ _
   | exact pannierlaw11_clean.mono _ _
   | exact pannierlaw11_points.mono _
   | exact LeO.none _
   | refine LeO.ite ?_ ?_
   | refine LeO.bind ?_ (fun _ => ?_)
  ·intro y0 y1 y2 y3 y4
   unfold pannierlaw11_TargetUps.l0
   repeat' first
   | (with_reducible exact ih0 _ _ _)
   | (with_reducible exact ih1 _ _ _ _ _)
   | (with_reducible exact pannierlaw11_clean.mono _ _)
   | (with_reducible exact pannierlaw11_points.mono _)
   | (with_reducible exact LeO.refl _)
   | (with_reducible exact LeO.none _)
   | (with_reducible refine LeO.ite ?_ ?_)
   | (with_reducible refine LeO.bind ?_ (fun _ => ?_))
   | exact ih0 _ _ _
   | exact ih1 _ _ _ _ _
   | exact pannierlaw11_clean.mono _ _
   | exact pannierlaw11_points.mono _
   | exact LeO.none _
   | refine LeO.ite ?_ ?_
   | refine LeO.bind ?_ (fun _ => ?_)
theorem pannierlaw11_TargetUps.mono : ∀ a0 a1 k, LeO (pannierlaw11_TargetUps.f k a0 a1) (pannierlaw11_TargetUps.f (k + 1) a0 a1) := by
 intro a0 a1 k
 obtain ⟨ih0, ih1⟩ := pannierlaw11_TargetUps.mono_l k
 unfold pannierlaw11_TargetUps.f
 repeat' first
   | (with_reducible exact ih0 _ _ _)
   | (with_reducible exact ih1 _ _ _ _ _)
   | (with_reducible exact pannierlaw11_clean.mono _ _)
   | (with_reducible exact pannierlaw11_points.mono _)
   | (with_reducible exact LeO.refl _)
   | (with_reducible exact LeO.none _)
   | (with_reducible refine LeO.ite ?_ ?_)
   | (with_reducible refine LeO.bind ?_ (fun _ => ?_))
   | exact ih0 _ _ _
   | exact ih1 _ _ _ _ _
   | exact pannierlaw11_clean.mono _ _
   | exact pannierlaw11_points.mono _
   | exact LeO.none _
   | refine LeO.ite ?_ ?_
   | refine LeO.bind ?_ (fun _ => ?_)
set_option maxHeartbeats 8000000 in
set_option maxRecDepth 100000 in
theorem pannierlaw11_TargetUps.calls (k : Nat) (a0 : ByteArray) (a1 : Int) (r : Bool) (w : World) (h : pannierlaw11_TargetUps.f k a0 a1 = some r) (hGG0 : GG w) :
  Calls Tryd.prog 11 #[.string a0, .int .i64 a1] w fun e w' => e = .returned (.bool r) ∧ Below w.heap.size w w' := by
 have HGG := Aside0.mk hGG0
 clear hGG0
 have HB := Aside0.mk (Below.refl w.heap.size w)
 have H : ((pannierlaw11_points.f k).bind fun t329 => (if t329 = true then ((pannierlaw11_clean.f k a0).bind fun bt330 => (if bt330.2 = true then (if a1 < 1 then (pannierlaw11_TargetUps.j0 k a1 bt330.1 true) else (pannierlaw11_TargetUps.j0 k a1 bt330.1 (decide (a1 > 50)))) else (pannierlaw11_TargetUps.j0 k a1 bt330.1 true))) else (some false))) = some r := h
 clear h
 replace H := Option.bind_eq_some_iff.mp H
 obtain ⟨t329, A30, H⟩ := H
 replace H : (if t329 = true then ((pannierlaw11_clean.f k a0).bind fun bt330 => (if bt330.2 = true then (if a1 < 1 then (pannierlaw11_TargetUps.j0 k a1 bt330.1 true) else (pannierlaw11_TargetUps.j0 k a1 bt330.1 (decide (a1 > 50)))) else (pannierlaw11_TargetUps.j0 k a1 bt330.1 true))) else (some false)) = some r := H
 have A3 := Aside0.mk A30
 clear A30
 by_cases c4 : t329 = true
 ·subst c4
  have H1 : ((pannierlaw11_clean.f k a0).bind fun bt330 => (if bt330.2 = true then (if a1 < 1 then (pannierlaw11_TargetUps.j0 k a1 bt330.1 true) else (pannierlaw11_TargetUps.j0 k a1 bt330.1 (decide (a1 > 50)))) else (pannierlaw11_TargetUps.j0 k a1 bt330.1 true))) = some r := by rw [if_pos rfl] at H; exact H
  clear H
  have H := H1
  clear H1
  replace H := Option.bind_eq_some_iff.mp H
  obtain ⟨⟨t330, t331⟩, A50, H⟩ := H
  replace H : (if t331 = true then (if a1 < 1 then (pannierlaw11_TargetUps.j0 k a1 t330 true) else (pannierlaw11_TargetUps.j0 k a1 t330 (decide (a1 > 50)))) else (pannierlaw11_TargetUps.j0 k a1 t330 true)) = some r := H
  have A5 := Aside0.mk A50
  clear A50
  have HC6 := Aside0.mk H
  clear H
  go_enter Tryd.func11, Tryd.ntmps11
  go_upto_region 4 with (first | ((with_reducible refine gate_callee (f := 28) rfl ?_); refine goesL_ (some 11) rfl rfl Tryd.func28 (by kernel_rfl) rfl #[] rfl (by (try simp only [List.map_toArray, List.map_cons, List.map_nil]); first | done | rfl | (simp only [List.length_drop, List.length_take]; rfl)) ?_; (with_reducible refine (pannierlaw11_points.calls k  true _ A3.out ?hGG).mono ?_); (case hGG => exact GG_below HGG.out (by repeat (first | (with_reducible first | exact HB.out | apply below_alloc | apply pw_below_drewN | apply below_drew1) | exact HB.out))); rintro e w7 ⟨rfl, hb⟩; refine ⟨_, rfl, ?_⟩; have n0_ := Aside0.mk (below_step (by repeat (first | (with_reducible first | exact HB.out | apply below_alloc | apply pw_below_drewN | apply below_drew1) | exact HB.out)) hb); clear HB; have HB := n0_; clear n0_; (try clear hb); (try clear hb2); (try clear hk); (try clear hi)) | ((with_reducible refine gate_callee (f := 29) rfl ?_); refine goesL_ (some 15) rfl rfl Tryd.func29 (by kernel_rfl) rfl #[.string a0] rfl (by (try simp only [List.map_toArray, List.map_cons, List.map_nil]); first | done | rfl | (simp only [List.length_drop, List.length_take]; rfl)) ?_; (with_reducible refine (pannierlaw11_clean.calls k a0 t330 t331 _ A5.out ?hGG).mono ?_); (case hGG => exact GG_below HGG.out (by repeat (first | (with_reducible first | exact HB.out | apply below_alloc | apply pw_below_drewN | apply below_drew1) | exact HB.out))); rintro e w8 ⟨rfl, hb⟩; refine ⟨_, rfl, ?_⟩; have n0_ := Aside0.mk (below_step (by repeat (first | (with_reducible first | exact HB.out | apply below_alloc | apply pw_below_drewN | apply below_drew1) | exact HB.out)) hb); clear HB; have HB := n0_; clear n0_; (try clear hb); (try clear hb2); (try clear hk); (try clear hi)))
  (try simp only [Act.put, List.setIfInBounds_toArray, List.set_cons_zero, List.set_cons_succ])
  go_cut [27] (fun v27 wc => ∃ (kq : Nat) (x27_5 : Bool), v27 = .bool x27_5 ∧ Aside0 (pannierlaw11_TargetUps.j0 kq a1 t330 x27_5 = some r) ∧ Aside0 (kq ≤ k) ∧ Aside0 (Below w.heap.size w wc))
  case first =>
   have H := HC6.out
   clear HC6
   by_cases c9 : t331 = true
   ·subst c9
    have H1 : (if a1 < 1 then (pannierlaw11_TargetUps.j0 k a1 t330 true) else (pannierlaw11_TargetUps.j0 k a1 t330 (decide (a1 > 50)))) = some r := by rw [if_pos rfl] at H; exact H
    clear H
    have H := H1
    clear H1
    by_cases c10 : a1 < 1
    ·rw [if_pos c10] at H
     have c10b0 : decide (a1 < 1) = true := decide_eq_true c10
     clear c10
     (first | rw [c10b0] | (simp only [i64_w, i32_w]; rw [c10b0]) | skip)
     have H' := Aside0.mk H
     clear H
     go_wp2
     go_meet
     case rel => exact ⟨_, (true), (by first | rfl | (simp; done) | (simp [*]; done)), H', ⟨by first | omega | exact Nat.le_refl _⟩, ⟨by repeat (first | (with_reducible first | exact HB.out | apply below_alloc | apply pw_below_drewN | apply below_drew1) | exact HB.out)⟩⟩
    ·rw [if_neg c10] at H
     have c10b0 : decide (a1 < 1) = false := decide_eq_false c10
     clear c10
     (first | rw [c10b0] | (simp only [i64_w, i32_w]; rw [c10b0]) | skip)
     have H' := Aside0.mk H
     clear H
     go_wp2
     go_meet
     case rel => exact ⟨_, (decide (a1 > 50)), (by first | rfl | (simp; done) | (simp [*]; done)), H', ⟨by first | omega | exact Nat.le_refl _⟩, ⟨by repeat (first | (with_reducible first | exact HB.out | apply below_alloc | apply pw_below_drewN | apply below_drew1) | exact HB.out)⟩⟩
   ·replace c9 := Bool.eq_false_iff.mpr c9
    subst c9
    have H1 : (pannierlaw11_TargetUps.j0 k a1 t330 true) = some r := by rw [if_neg (show ¬ (false = true) by decide)] at H; exact H
    clear H
    have H := H1
    clear H1
    have H' := Aside0.mk H
    clear H
    go_wp2
    go_meet
    case rel => exact ⟨_, (true), (by first | rfl | (simp; done) | (simp [*]; done)), H', ⟨by first | omega | exact Nat.le_refl _⟩, ⟨by repeat (first | (with_reducible first | exact HB.out | apply below_alloc | apply pw_below_drewN | apply below_drew1) | exact HB.out)⟩⟩
  case rest =>
   clear HC6
   try clear c1
   try clear c2
   try clear p2
   try clear c4
   try clear c9
   try clear c10
   try clear c10b0
   obtain ⟨kq, x27_5, rfl, HA, HJ5, HB⟩ := hcut
   cases kq with
   | zero => exact absurd HA.out (by simp [pannierlaw11_TargetUps.j0])
   | succ kj5 =>
    have H := HA.out
    clear HA
    simp only [pannierlaw11_TargetUps.j0] at H
    by_cases c11 : x27_5 = true
    ·subst c11
     have H1 : (some true) = some r := by rw [if_pos rfl] at H; exact H
     clear H
     have H := H1
     clear H1
     obtain rfl := Option.some.inj H
     go_wp2
     all_goals (go_ret; exact ⟨by first | rfl | (simp [errW_none, errW_some] <;> rfl) | (simp [*, errW_none, errW_some] <;> rfl), by repeat (first | (with_reducible first | exact HB.out | apply below_alloc | apply pw_below_drewN | apply below_drew1) | exact HB.out)⟩)
    ·replace c11 := Bool.eq_false_iff.mpr c11
     subst c11
     have H1 : (pannierlaw11_TargetUps.l0 kj5 a1 t330 (⟨#[46, 46]⟩ : ByteArray) (wrap64 (a1 - 1)) 0) = some r := by rw [if_neg (show ¬ (false = true) by decide)] at H; exact H
     clear H
     have H := H1
     clear H1
     have H' := Aside0.mk H
     clear H
     go_wp2
     go_loopg [7, 30] kj5 (fun kq v7 v30 w' => ∃ (x7_2 : ByteArray) (x30_2 : Int), v7 = .string x7_2 ∧ v30 = .int .i64 x30_2 ∧ Aside0 (pannierlaw11_TargetUps.l0 kq a1 t330 x7_2 (wrap64 (a1 - 1)) x30_2 = some r) ∧ Aside0 (kq ≤ kj5) ∧ Aside0 (Below w.heap.size w w'))
     case atStart => exact ⟨((⟨#[46, 46]⟩ : ByteArray)), (0), (by first | rfl | (simp; done) | (simp [*]; done)), (by first | rfl | (simp; done) | (simp [*]; done)), H', ⟨Nat.le_refl _⟩, ⟨by repeat (first | (with_reducible first | exact HB.out | apply below_alloc | apply pw_below_drewN | apply below_drew1) | exact HB.out)⟩⟩
     case round =>
      clear H'
      try clear c1
      try clear c2
      try clear p2
      try clear c4
      try clear p6
      try clear c9
      try clear c10
      try clear c10b0
      try clear c11
      try clear p2
      obtain ⟨x7_2, x30_2, rfl, rfl, HA, HK2, HB⟩ := hrel
      cases gk with
      | zero => exact absurd HA.out (by simp [pannierlaw11_TargetUps.l0])
      | succ k2 =>
       have H := HA.out
       clear HA
       simp only [pannierlaw11_TargetUps.l0] at H
       by_cases c12 : x30_2 < (wrap64 (a1 - 1))
       ·rw [if_pos c12] at H
        have c12b0 : decide (x30_2 < (wrap64 (a1 - 1))) = true := decide_eq_true c12
        clear c12
        by_cases c13 : x7_2.size + 3 ≤ 9223372036854775807
        ·rw [if_pos c13] at H
         have c13b0 := eq_true c13
         have c13b1 : decide (x7_2.size + 3 ≤ 9223372036854775807) = true := decide_eq_true c13
         try have c13b2 : (9223372036854775807 < x7_2.size + 3) = False := eq_false (Nat.not_lt.2 c13)
         have H' := Aside0.mk H
         clear H
         go_wp2
         go_roundg k2
         case measure => have := HJ5.out; have := HK2.out; omega
         case rel => exact ⟨(x7_2 ++ (⟨#[47, 46, 46]⟩ : ByteArray)), (wrap64 (x30_2 + 1)), (by first | rfl | (simp; done) | (simp [*]; done)), (by first | rfl | (simp; done) | (simp [*]; done)), H', ⟨by have := HJ5.out; have := HK2.out; omega⟩, ⟨by repeat (first | (with_reducible first | exact HB.out | apply below_alloc | apply pw_below_drewN | apply below_drew1) | exact HB.out)⟩⟩
        ·rw [if_neg c13] at H
         exact absurd H (by simp)
       ·rw [if_neg c12] at H
        have c12b0 : decide (x30_2 < (wrap64 (a1 - 1))) = false := decide_eq_false c12
        clear c12
        replace H := Option.bind_eq_some_iff.mp H
        obtain ⟨⟨t332, t333⟩, A140, H⟩ := H
        replace H : ((path_Parts.f t330).bind fun t334 => (if a1 > (t334.length : Int) then (if t333 = 110 then (some (t332.toList == ([] : List UInt8))) else (some false)) else (if t333 = 0 then (if 0 ≤ (wrap64 ((t334.length : Int) - a1)) then (if (wrap64 ((t334.length : Int) - a1)) ≤ (t334.length : Int) then ((path_Join.f (t334.take ((wrap64 ((t334.length : Int) - a1)) : Int).toNat)).bind fun t341 => (some (t332.toList == t341.toList))) else (none)) else (none)) else (some false)))) = some r := H
        have A14 := Aside0.mk A140
        clear A140
        replace H := Option.bind_eq_some_iff.mp H
        obtain ⟨t334, A150, H⟩ := H
        replace H : (if a1 > (t334.length : Int) then (if t333 = 110 then (some (t332.toList == ([] : List UInt8))) else (some false)) else (if t333 = 0 then (if 0 ≤ (wrap64 ((t334.length : Int) - a1)) then (if (wrap64 ((t334.length : Int) - a1)) ≤ (t334.length : Int) then ((path_Join.f (t334.take ((wrap64 ((t334.length : Int) - a1)) : Int).toNat)).bind fun t341 => (some (t332.toList == t341.toList))) else (none)) else (none)) else (some false))) = some r := H
        have A15 := Aside0.mk A150
        clear A150
        by_cases c16 : a1 > (t334.length : Int)
        ·rw [if_pos c16] at H
         have c16b0 : decide ((t334.length : Int) < a1) = true := decide_eq_true c16
         clear c16
         by_cases c17 : t333 = 110
         ·rw [if_pos c17] at H
          have c17b0 : (t333 == 110) = true := beq_iff_eq.mpr c17
          have c17b1 : (t333 != 110) = false := bne_eq_false_iff_eq.mpr c17
          clear c17
          obtain rfl := Option.some.inj H
          go_wp2_with (first | ((with_reducible refine gate_callee (f := 30) rfl ?_); refine goesL_ (some 38) rfl rfl Tryd.func30 (by kernel_rfl) rfl #[.string t330, .string x7_2] rfl (by (try simp only [List.map_toArray, List.map_cons, List.map_nil]); first | done | rfl | (simp only [List.length_drop, List.length_take]; rfl)) ?_; (with_reducible refine (target_Resolve.calls t330 x7_2 t332 t333 _ A14.out ?hGG).mono ?_); (case hGG => exact GG_below HGG.out (by repeat (first | (with_reducible first | exact HB.out | apply below_alloc | apply pw_below_drewN | apply below_drew1) | exact HB.out))); rintro e w18 ⟨rfl, hb⟩; refine ⟨_, rfl, ?_⟩; have n0_ := Aside0.mk (below_step (by repeat (first | (with_reducible first | exact HB.out | apply below_alloc | apply pw_below_drewN | apply below_drew1) | exact HB.out)) hb); clear HB; have HB := n0_; clear n0_; (try clear hb); (try clear hb2); (try clear hk); (try clear hi)) | ((with_reducible refine gate_callee (f := 24) rfl ?_); refine goesL_ (some 42) rfl rfl Tryd.func24 (by kernel_rfl) rfl #[.string t330] rfl (by (try simp only [List.map_toArray, List.map_cons, List.map_nil]); first | done | rfl | (simp only [List.length_drop, List.length_take]; rfl)) ?_; (with_reducible refine (path_Parts.calls t330 t334 _ A15.out).mono ?_); rintro e w19 ⟨v335, rfl, ho0, hb⟩; refine ⟨_, rfl, ?_⟩; have n0_ := Aside0.mk (Kd.R_lower ho0 (below_size (by repeat (first | (with_reducible first | exact HB.out | apply below_alloc | apply pw_below_drewN | apply below_drew1) | exact HB.out)))); have n1_ := Aside0.mk (below_step (by repeat (first | (with_reducible first | exact HB.out | apply below_alloc | apply pw_below_drewN | apply below_drew1) | exact HB.out)) hb); clear HB; have HO336 := n0_; have HB := n1_; clear n0_ n1_; (try clear hb); (try clear hb2); (try clear hk); (try clear hi); (try clear ho0); obtain ⟨Ao20, co20, eo20⟩ := Kd.R_slice HO336.out; subst eo20))
          all_goals (go_ret; exact ⟨by first | rfl | (simp [errW_none, errW_some] <;> rfl) | (simp [*, errW_none, errW_some] <;> rfl), by repeat (first | (with_reducible first | exact HB.out | apply below_alloc | apply pw_below_drewN | apply below_drew1) | exact HB.out)⟩)
         ·rw [if_neg c17] at H
          have c17b0 : (t333 == 110) = false := beq_eq_false_iff_ne.mpr c17
          have c17b1 : (t333 != 110) = true := bne_iff_ne.mpr c17
          obtain rfl := Option.some.inj H
          go_wp2_with (first | ((with_reducible refine gate_callee (f := 30) rfl ?_); refine goesL_ (some 38) rfl rfl Tryd.func30 (by kernel_rfl) rfl #[.string t330, .string x7_2] rfl (by (try simp only [List.map_toArray, List.map_cons, List.map_nil]); first | done | rfl | (simp only [List.length_drop, List.length_take]; rfl)) ?_; (with_reducible refine (target_Resolve.calls t330 x7_2 t332 t333 _ A14.out ?hGG).mono ?_); (case hGG => exact GG_below HGG.out (by repeat (first | (with_reducible first | exact HB.out | apply below_alloc | apply pw_below_drewN | apply below_drew1) | exact HB.out))); rintro e w21 ⟨rfl, hb⟩; refine ⟨_, rfl, ?_⟩; have n0_ := Aside0.mk (below_step (by repeat (first | (with_reducible first | exact HB.out | apply below_alloc | apply pw_below_drewN | apply below_drew1) | exact HB.out)) hb); clear HB; have HB := n0_; clear n0_; (try clear hb); (try clear hb2); (try clear hk); (try clear hi)) | ((with_reducible refine gate_callee (f := 24) rfl ?_); refine goesL_ (some 42) rfl rfl Tryd.func24 (by kernel_rfl) rfl #[.string t330] rfl (by (try simp only [List.map_toArray, List.map_cons, List.map_nil]); first | done | rfl | (simp only [List.length_drop, List.length_take]; rfl)) ?_; (with_reducible refine (path_Parts.calls t330 t334 _ A15.out).mono ?_); rintro e w22 ⟨v335, rfl, ho0, hb⟩; refine ⟨_, rfl, ?_⟩; have n0_ := Aside0.mk (Kd.R_lower ho0 (below_size (by repeat (first | (with_reducible first | exact HB.out | apply below_alloc | apply pw_below_drewN | apply below_drew1) | exact HB.out)))); have n1_ := Aside0.mk (below_step (by repeat (first | (with_reducible first | exact HB.out | apply below_alloc | apply pw_below_drewN | apply below_drew1) | exact HB.out)) hb); clear HB; have HO336 := n0_; have HB := n1_; clear n0_ n1_; (try clear hb); (try clear hb2); (try clear hk); (try clear hi); (try clear ho0); obtain ⟨Ao23, co23, eo23⟩ := Kd.R_slice HO336.out; subst eo23))
          all_goals (go_ret; exact ⟨by first | rfl | (simp [errW_none, errW_some] <;> rfl) | (simp [*, errW_none, errW_some] <;> rfl), by repeat (first | (with_reducible first | exact HB.out | apply below_alloc | apply pw_below_drewN | apply below_drew1) | exact HB.out)⟩)
        ·rw [if_neg c16] at H
         have c16b0 : decide ((t334.length : Int) < a1) = false := decide_eq_false c16
         clear c16
         by_cases c24 : t333 = 0
         ·rw [if_pos c24] at H
          have c24b0 : (t333 == 0) = true := beq_iff_eq.mpr c24
          have c24b1 : (t333 != 0) = false := bne_eq_false_iff_eq.mpr c24
          clear c24
          obtain ⟨ji25, hji25⟩ : ∃ j_ : Int, (wrap64 ((t334.length : Int) - a1)) = j_ := ⟨_, rfl⟩
          replace H : (if 0 ≤ (ji25) then (if (ji25) ≤ (t334.length : Int) then ((path_Join.f (t334.take ((ji25) : Int).toNat)).bind fun t341 => (some (t332.toList == t341.toList))) else (none)) else (none)) = some r := by first | (rw [hji25] at H; exact H) | (simp only [hji25] at H ⊢; exact H)
          (try rw [hji25] at A14)
          (try rw [hji25] at A15)
          have hji25w : (IntKind.i64.wrap ((t334.length : Int) - a1)) = ji25 := (i64_w _).trans hji25
          by_cases c26 : 0 ≤ (ji25)
          ·rw [if_pos c26] at H
           have c26b0 := eq_true c26
           have c26b1 : decide (0 ≤ (ji25)) = true := decide_eq_true c26
           clear c26
           by_cases c27 : (ji25) ≤ (t334.length : Int)
           ·rw [if_pos c27] at H
            have c27b0 := eq_true c27
            have c27b1 : decide ((ji25) ≤ (t334.length : Int)) = true := decide_eq_true c27
            clear c27
            obtain ⟨y337, hy337⟩ : ∃ y_ : List ByteArray, y_ = (t334.take ((ji25) : Int).toNat) := ⟨_, rfl⟩
            replace H : ((path_Join.f y337).bind fun t341 => (some (t332.toList == t341.toList))) = some r := by first | (rw [hy337]; with_reducible exact H) | (have H2_ := (Option.bind_some _ _).symm.trans H; rw [hy337]; with_reducible exact H2_) | (have H2_ := (Option.bind_some _ _).symm.trans H; with_reducible exact H2_) | with_reducible exact H | (rw [hy337]; exact H) | exact H
            have Ny337 := Aside0.mk hy337
            clear hy337
            replace H := Option.bind_eq_some_iff.mp H
            obtain ⟨t341, A280, H⟩ := H
            replace H : (some (t332.toList == t341.toList)) = some r := H
            have A28 := Aside0.mk A280
            clear A280
            obtain rfl := Option.some.inj H
            go_wp2_with (first | ((with_reducible refine gate_callee (f := 30) rfl ?_); refine goesL_ (some 38) rfl rfl Tryd.func30 (by kernel_rfl) rfl #[.string t330, .string x7_2] rfl (by (try simp only [List.map_toArray, List.map_cons, List.map_nil]); first | done | rfl | (simp only [List.length_drop, List.length_take]; rfl)) ?_; (with_reducible refine (target_Resolve.calls t330 x7_2 t332 t333 _ A14.out ?hGG).mono ?_); (case hGG => exact GG_below HGG.out (by repeat (first | (with_reducible first | exact HB.out | apply below_alloc | apply pw_below_drewN | apply below_drew1) | exact HB.out))); rintro e w29 ⟨rfl, hb⟩; refine ⟨_, rfl, ?_⟩; have n0_ := Aside0.mk (below_step (by repeat (first | (with_reducible first | exact HB.out | apply below_alloc | apply pw_below_drewN | apply below_drew1) | exact HB.out)) hb); clear HB; have HB := n0_; clear n0_; (try clear hb); (try clear hb2); (try clear hk); (try clear hi)) | ((with_reducible refine gate_callee (f := 24) rfl ?_); refine goesL_ (some 42) rfl rfl Tryd.func24 (by kernel_rfl) rfl #[.string t330] rfl (by (try simp only [List.map_toArray, List.map_cons, List.map_nil]); first | done | rfl | (simp only [List.length_drop, List.length_take]; rfl)) ?_; (with_reducible refine (path_Parts.calls t330 t334 _ A15.out).mono ?_); rintro e w30 ⟨v335, rfl, ho0, hb⟩; refine ⟨_, rfl, ?_⟩; have n0_ := Aside0.mk (Kd.R_lower ho0 (below_size (by repeat (first | (with_reducible first | exact HB.out | apply below_alloc | apply pw_below_drewN | apply below_drew1) | exact HB.out)))); have n1_ := Aside0.mk (below_step (by repeat (first | (with_reducible first | exact HB.out | apply below_alloc | apply pw_below_drewN | apply below_drew1) | exact HB.out)) hb); clear HB; have HO336 := n0_; have HB := n1_; clear n0_ n1_; (try clear hb); (try clear hb2); (try clear hk); (try clear hi); (try clear ho0); obtain ⟨Ao31, co31, eo31⟩ := Kd.R_slice HO336.out; subst eo31; have q32 : ((ji25) : Int) ≤ ((t334.length : Int) : Int) := of_decide_eq_true (by first | (with_reducible assumption) | assumption); obtain ⟨i032, hi032, _, hsz32, _⟩ := info_parts info9; have hroom32 : t334.length ≤ co31 := (Kd.R_reads' HO336.out).2.1; have hC32 : Kd.C Kd.string _ Ao31 t334.length t334 := (Kd.R_reads' HO336.out).2.2; have hcut32 := cut_to (P := Tryd.prog) 23 9 .i64 Tryd.underlying23 hi032 Ao31 t334.length co31 (ji25) (of_decide_eq_true (by first | (with_reducible assumption) | assumption)) q32 hroom32; have hr32 := Kd.C_take (m := ((ji25) : Int).toNat) hC32 (by omega); have hy32 : y337.length = ((ji25) : Int).toNat := (by rw [Ny337.out, List.length_take]; omega); rw [← Ny337.out] at hr32; rw [← hy32] at hcut32; have HR340 := Aside0.mk hr32; have HC340 := Aside0.mk (show y337.length ≤ co31 from by omega); clear hr32 hC32 hroom32 hi032 hsz32; have KY32 := Aside0.mk hy32; clear hy32; have KL32 := Aside0.mk (show ((ji25) : Int).toNat ≤ t334.length from by omega); replace q32 := eq_true q32) | (go_at_call 22; (with_reducible refine (path_Join.calls _ _ y337 t341 _ ?side1 ?side2 A28.out).mono ?_); (case side1 => repeat (first | exact (by repeat (first | (with_reducible exact HR340.out) | (with_reducible refine Kd.C_alloc ?_ _) | (with_reducible refine Kd.C_drewN ?_ _) | (with_reducible refine Kd.C_drew ?_) | exact HR340.out)) | (with_reducible refine Kd.C_alloc ?_ _) | (with_reducible refine Kd.C_drewN ?_ _) | (with_reducible refine Kd.C_drew ?_))); (case side2 => exact HC340.out); rintro e w33 ⟨rfl, hb⟩; have n0_ := Aside0.mk (Kd.R_below (by (with_reducible repeat (first | apply Kd.R_alloc | apply Kd.R_drewN | apply Kd.R_drew)); exact HO336.out) hb); have n1_ := Aside0.mk (Kd.C_below (by repeat (first | (with_reducible exact HR340.out) | (with_reducible refine Kd.C_alloc ?_ _) | (with_reducible refine Kd.C_drewN ?_ _) | (with_reducible refine Kd.C_drew ?_) | exact HR340.out)) hb); have n2_ := Aside0.mk (below_step (by repeat (first | (with_reducible first | exact HB.out | apply below_alloc | apply pw_below_drewN | apply below_drew1) | exact HB.out)) hb); clear HO336; clear HR340; clear HB; have HO336 := n0_; have HR340 := n1_; have HB := n2_; clear n0_ n1_ n2_; (try clear hb); (try clear hb2); (try clear hk); (try clear hi)))
            all_goals (go_ret; exact ⟨by first | rfl | (simp [errW_none, errW_some] <;> rfl) | (simp only [← hji25]; first | rfl | (simp [errW_none, errW_some] <;> rfl)) | (simp [*, errW_none, errW_some] <;> rfl), by repeat (first | (with_reducible first | exact HB.out | apply below_alloc | apply pw_below_drewN | apply below_drew1) | exact HB.out)⟩)
           ·rw [if_neg c27] at H
            exact absurd H (by simp)
          ·rw [if_neg c26] at H
           exact absurd H (by simp)
         ·rw [if_neg c24] at H
          have c24b0 : (t333 == 0) = false := beq_eq_false_iff_ne.mpr c24
          have c24b1 : (t333 != 0) = true := bne_iff_ne.mpr c24
          obtain rfl := Option.some.inj H
          go_wp2_with (first | ((with_reducible refine gate_callee (f := 30) rfl ?_); refine goesL_ (some 38) rfl rfl Tryd.func30 (by kernel_rfl) rfl #[.string t330, .string x7_2] rfl (by (try simp only [List.map_toArray, List.map_cons, List.map_nil]); first | done | rfl | (simp only [List.length_drop, List.length_take]; rfl)) ?_; (with_reducible refine (target_Resolve.calls t330 x7_2 t332 t333 _ A14.out ?hGG).mono ?_); (case hGG => exact GG_below HGG.out (by repeat (first | (with_reducible first | exact HB.out | apply below_alloc | apply pw_below_drewN | apply below_drew1) | exact HB.out))); rintro e w34 ⟨rfl, hb⟩; refine ⟨_, rfl, ?_⟩; have n0_ := Aside0.mk (below_step (by repeat (first | (with_reducible first | exact HB.out | apply below_alloc | apply pw_below_drewN | apply below_drew1) | exact HB.out)) hb); clear HB; have HB := n0_; clear n0_; (try clear hb); (try clear hb2); (try clear hk); (try clear hi)) | ((with_reducible refine gate_callee (f := 24) rfl ?_); refine goesL_ (some 42) rfl rfl Tryd.func24 (by kernel_rfl) rfl #[.string t330] rfl (by (try simp only [List.map_toArray, List.map_cons, List.map_nil]); first | done | rfl | (simp only [List.length_drop, List.length_take]; rfl)) ?_; (with_reducible refine (path_Parts.calls t330 t334 _ A15.out).mono ?_); rintro e w35 ⟨v335, rfl, ho0, hb⟩; refine ⟨_, rfl, ?_⟩; have n0_ := Aside0.mk (Kd.R_lower ho0 (below_size (by repeat (first | (with_reducible first | exact HB.out | apply below_alloc | apply pw_below_drewN | apply below_drew1) | exact HB.out)))); have n1_ := Aside0.mk (below_step (by repeat (first | (with_reducible first | exact HB.out | apply below_alloc | apply pw_below_drewN | apply below_drew1) | exact HB.out)) hb); clear HB; have HO336 := n0_; have HB := n1_; clear n0_ n1_; (try clear hb); (try clear hb2); (try clear hk); (try clear hi); (try clear ho0); obtain ⟨Ao36, co36, eo36⟩ := Kd.R_slice HO336.out; subst eo36))
          all_goals (go_ret; exact ⟨by first | rfl | (simp [errW_none, errW_some] <;> rfl) | (simp [*, errW_none, errW_some] <;> rfl), by repeat (first | (with_reducible first | exact HB.out | apply below_alloc | apply pw_below_drewN | apply below_drew1) | exact HB.out)⟩)
 ·replace c4 := Bool.eq_false_iff.mpr c4
  subst c4
  have H1 : (some false) = some r := by rw [if_neg (show ¬ (false = true) by decide)] at H; exact H
  clear H
  have H := H1
  clear H1
  obtain rfl := Option.some.inj H
  go_enter Tryd.func11, Tryd.ntmps11
  go_wp2_with (first | ((with_reducible refine gate_callee (f := 28) rfl ?_); refine goesL_ (some 11) rfl rfl Tryd.func28 (by kernel_rfl) rfl #[] rfl (by (try simp only [List.map_toArray, List.map_cons, List.map_nil]); first | done | rfl | (simp only [List.length_drop, List.length_take]; rfl)) ?_; (with_reducible refine (pannierlaw11_points.calls k  false _ A3.out ?hGG).mono ?_); (case hGG => exact GG_below HGG.out (by repeat (first | (with_reducible first | exact HB.out | apply below_alloc | apply pw_below_drewN | apply below_drew1) | exact HB.out))); rintro e w37 ⟨rfl, hb⟩; refine ⟨_, rfl, ?_⟩; have n0_ := Aside0.mk (below_step (by repeat (first | (with_reducible first | exact HB.out | apply below_alloc | apply pw_below_drewN | apply below_drew1) | exact HB.out)) hb); clear HB; have HB := n0_; clear n0_; (try clear hb); (try clear hb2); (try clear hk); (try clear hi)))
  all_goals (go_ret; exact ⟨by first | rfl | (simp [errW_none, errW_some] <;> rfl) | (simp [*, errW_none, errW_some] <;> rfl), by repeat (first | (with_reducible first | exact HB.out | apply below_alloc | apply pw_below_drewN | apply below_drew1) | exact HB.out)⟩)

/-- THE ONE PURE STATEMENT of pannierlaw11_TargetUps: yours. -/
def pannierlaw11_TargetUps.Pure : Prop := ∀ (a0 : ByteArray) (a1 : Int), a0.size ≤ 140737488351232 → (Lit.int .i64 a1).wf = true → ∃ k, pannierlaw11_TargetUps.f k a0 a1 = some true
theorem pannierlaw11_TargetUps.walk (P : pannierlaw11_TargetUps.Pure) (a0 : ByteArray) (a1 : Int) (w : World) (w0 : a0.size ≤ 140737488351232) (w1 : (Lit.int .i64 a1).wf = true) (hGG0 : GG w) :
  Calls Tryd.prog 11 #[.string a0, .int .i64 a1] w fun e w' => e = .returned (.bool true) ∧ Below w.heap.size w w' := by
 obtain ⟨k, h⟩ := P a0 a1 w0 w1
 refine (pannierlaw11_TargetUps.calls k a0 a1 true w h hGG0).mono ?_
 rintro e w' ⟨rfl, hd⟩
 exact ⟨rfl, hd⟩

end Go.Proofs.YtcfhijegmmdpkaaDoor.XA
