-- Written by a program of this session (wip/tools/xprint.py) out of the translation's print. Lean checks it.
import Derived.Test.YtcfhijegmmdpkaaDoorXA0
import Derived.Test.YtcfhijegmmdpkaaDoorESound
import Derived.Test.YtcfhijegmmdpkaaDoorXA1
import Derived.Test.YtcfhijegmmdpkaaDoorXA2
import Derived.Test.YtcfhijegmmdpkaaDoorXA3
import Derived.Test.YtcfhijegmmdpkaaDoorXA7
import Derived.Test.YtcfhijegmmdpkaaDoorEResolve
namespace Go.Proofs.YtcfhijegmmdpkaaDoor.XA
open Go.RowKit Go.Proofs.YtcfhijegmmdpkaaDoorW.PrintWords Go.Proofs.YtcfhijegmmdpkaaDoorW.PrintLast Go.Proofs.YtcfhijegmmdpkaaDoorW.PrintMore
attribute [local go_sem] max2_int min2_int max_two min_two max_three min_three max_four min_four   -- for this text's walks alone
set_option linter.unusedVariables false
set_option linter.unusedSimpArgs false

/-! ### panniertop_WholeInside: function 15 -/
mutual
def panniertop_WholeInside.j0 : Nat → ByteArray → List ByteArray → Bool → Option (Bool)
 | 0, _, _, _ => none
 | k + 1, x0, x1, x29 => if x29 = true then (some false) else ((path_Clean.f k x0).bind fun bt399 => (if bt399.2 = 0 then (if (x1.length : Int) > 20 then (panniertop_WholeInside.j1 k x1 bt399.1 true) else (panniertop_WholeInside.j1 k x1 bt399.1 (decide ((x0.size : Int) > 300)))) else (panniertop_WholeInside.j1 k x1 bt399.1 true)))
def panniertop_WholeInside.j1 : Nat → List ByteArray → List ByteArray → Bool → Option (Bool)
 | 0, _, _, _ => none
 | k + 1, x1, x7, x46 => if x46 = true then (some true) else ((path_Join.f x7).bind fun t403 => (panniertop_WholeInside.l0 k t403 x1 (x1.length : Int) 0))
def panniertop_WholeInside.l0 : Nat → ByteArray → List ByteArray → Int → Int → Option (Bool)
 | 0, _, _, _, _ => none
 | k + 1, x9, x49, x50, x51 => if x51 < x50 then (if 0 ≤ x51 then (if x51 < (x49.length : Int) then (if ((rdOf ByteArray.empty x49 x51).size : Int) > 100 then (some true) else ((target_Resolve.f x9 (rdOf ByteArray.empty x49 x51)).bind fun bt405 => (if bt405.2 = 0 then (if bt405.1.toList = ([] : List UInt8) then (panniertop_WholeInside.j3 k x9 bt405.1 x49 x50 x51) else ((path_Clean.f k bt405.1).bind fun bt407 => (if bt407.2 = 0 then ((path_Join.f bt407.1).bind fun t411 => (if t411.toList = bt405.1.toList then (panniertop_WholeInside.j3 k x9 bt405.1 x49 x50 x51) else (some false))) else (some false)))) else (if bt405.1.toList = ([] : List UInt8) then (panniertop_WholeInside.l0 k x9 x49 x50 (wrap64 (x51 + 1))) else (some false))))) else (none)) else (none)) else (some true)
def panniertop_WholeInside.j3 : Nat → ByteArray → ByteArray → List ByteArray → Int → Int → Option (Bool)
 | 0, _, _, _, _, _ => none
 | k + 1, x9, x12, x49, x50, x51 => if (x12.size : Int) > 1000 then (some true) else ((target_Relative.f k x12 x9).bind fun t412 => ((target_Resolve.f x12 t412).bind fun bt413 => ((target_Relative.f k x9 x12).bind fun t415 => ((target_Resolve.f x9 t415).bind fun bt416 => (if bt413.2 = 0 then (if bt413.1.toList = x9.toList then (if bt416.2 = 0 then (if bt416.1.toList = x12.toList then ((path_Under.f (⟨#[]⟩ : ByteArray) x12).bind fun t418 => (if t418 = true then (panniertop_WholeInside.l0 k x12 x49 x50 (wrap64 (x51 + 1))) else (some false))) else (some false)) else (some false)) else (some false)) else (some false))))))
end
def panniertop_WholeInside.f (k : Nat) (a0 : ByteArray) (l1 : List ByteArray) : Option (Bool) := (target_Resolve.f (⟨#[97]⟩ : ByteArray) (⟨#[46, 46, 47, 98]⟩ : ByteArray)).bind fun bt397 => (if bt397.1.toList = ([98] : List UInt8) then (panniertop_WholeInside.j0 k a0 l1 (bt397.2 != 0)) else (panniertop_WholeInside.j0 k a0 l1 true))
theorem panniertop_WholeInside.mono_l : ∀ k, (∀ y0 y1 y2, LeO (panniertop_WholeInside.j0 k y0 y1 y2) (panniertop_WholeInside.j0 (k + 1) y0 y1 y2)) ∧ (∀ y0 y1 y2, LeO (panniertop_WholeInside.j1 k y0 y1 y2) (panniertop_WholeInside.j1 (k + 1) y0 y1 y2)) ∧ (∀ y0 y1 y2 y3, LeO (panniertop_WholeInside.l0 k y0 y1 y2 y3) (panniertop_WholeInside.l0 (k + 1) y0 y1 y2 y3)) ∧ (∀ y0 y1 y2 y3 y4, LeO (panniertop_WholeInside.j3 k y0 y1 y2 y3 y4) (panniertop_WholeInside.j3 (k + 1) y0 y1 y2 y3 y4))
 | 0 => ⟨fun _ _ _ r h => by simp [panniertop_WholeInside.j0] at h, fun _ _ _ r h => by simp [panniertop_WholeInside.j1] at h, fun _ _ _ _ r h => by simp [panniertop_WholeInside.l0] at h, fun _ _ _ _ _ r h => by simp [panniertop_WholeInside.j3] at h⟩
 | k + 1 => by
  obtain ⟨ih0, ih1, ih2, ih3⟩ := panniertop_WholeInside.mono_l k
  refine ⟨?_, ?_, ?_, ?_⟩
  ·intro y0 y1 y2
   unfold panniertop_WholeInside.j0
   repeat' first
   | (with_reducible exact ih0 _ _ _)
   | (with_reducible exact ih1 _ _ _)
   | (with_reducible exact ih2 _ _ _ _)
   | (with_reducible exact ih3 _ _ _ _ _)
   | (with_reducible exact path_Clean.mono _ _)
   | (with_reducible exact target_Relative.mono _ _ _)
   | (with_reducible exact LeO.refl _)
   | (with_reducible exact LeO.none _)
   | (with_reducible refine LeO.ite ?_ ?_)
   | (with_reducible refine LeO.bind ?_ (fun _ => ?_))
   | exact ih0 _ _ _
   | exact ih1 _ _ _
   | exact ih2 _ _ _ _
   | exact ih3 _ _ _ _ _
   | exact path_Clean.mono _ _
   | exact target_Relative.mono _ _ _
   | exact LeO.none _
   | refine LeO.ite ?_ ?_
   | refine LeO.bind ?_ (fun _ => ?_)
  ·intro y0 y1 y2
   unfold panniertop_WholeInside.j1
   repeat' first
   | (with_reducible exact ih0 _ _ _)
   | (with_reducible exact ih1 _ _ _)
   | (with_reducible exact ih2 _ _ _ _)
   | (with_reducible exact ih3 _ _ _ _ _)
   | (with_reducible exact path_Clean.mono _ _)
   | (with_reducible exact target_Relative.mono _ _ _)
   | (with_reducible exact LeO.refl _)
   | (with_reducible exact LeO.none _)
   | (with_reducible refine LeO.ite ?_ ?_)
   | (with_reducible refine LeO.bind ?_ (fun _ => ?_))
   | exact ih0 _ _ _
   | exact ih1 _ _ _
   | exact ih2 _ _ _ _
   | exact ih3 _ _ _ _ _
   | exact path_Clean.mono _ _
   | exact target_Relative.mono _ _ _
   | exact LeO.none _
   | refine LeO.ite ?_ ?_
   | refine LeO.bind ?_ (fun _ => ?_)
  ·intro y0 y1 y2 y3
   unfold panniertop_WholeInside.l0
   repeat' first
   | (with_reducible exact ih0 _ _ _)
   | (with_reducible exact ih1 _ _ _)
   | (with_reducible exact ih2 _ _ _ _)
   | (with_reducible exact ih3 _ _ _ _ _)
   | (with_reducible exact path_Clean.mono _ _)
   | (with_reducible exact target_Relative.mono _ _ _)
   | (with_reducible exact LeO.refl _)
   | (with_reducible exact LeO.none _)
   | (with_reducible refine LeO.ite ?_ ?_)
   | (with_reducible refine LeO.bind ?_ (fun _ => ?_))
   | exact ih0 _ _ _
   | exact ih1 _ _ _
   | exact ih2 _ _ _ _
   | exact ih3 _ _ _ _ _
   | exact path_Clean.mono _ _
   | exact target_Relative.mono _ _ _
   | exact LeO.none _
   | refine LeO.ite ?_ ?_
   | refine LeO.bind ?_ (fun _ => ?_)
  ·intro y0 y1 y2 y3 y4
   unfold panniertop_WholeInside.j3
   repeat' first
   | (with_reducible exact ih0 _ _ _)
   | (with_reducible exact ih1 _ _ _)
   | (with_reducible exact ih2 _ _ _ _)
   | (with_reducible exact ih3 _ _ _ _ _)
   | (with_reducible exact path_Clean.mono _ _)
   | (with_reducible exact target_Relative.mono _ _ _)
   | (with_reducible exact LeO.refl _)
   | (with_reducible exact LeO.none _)
   | (with_reducible refine LeO.ite ?_ ?_)
   | (with_reducible refine LeO.bind ?_ (fun _ => ?_))
   | exact ih0 _ _ _
   | exact ih1 _ _ _
   | exact ih2 _ _ _ _
   | exact ih3 _ _ _ _ _
   | exact path_Clean.mono _ _
   | exact target_Relative.mono _ _ _
   | exact LeO.none _
   | refine LeO.ite ?_ ?_
   | refine LeO.bind ?_ (fun _ => ?_)
theorem panniertop_WholeInside.mono : ∀ a0 a1 k, LeO (panniertop_WholeInside.f k a0 a1) (panniertop_WholeInside.f (k + 1) a0 a1) := by
 intro a0 a1 k
 obtain ⟨ih0, ih1, ih2, ih3⟩ := panniertop_WholeInside.mono_l k
 unfold panniertop_WholeInside.f
 repeat' first
   | (with_reducible exact ih0 _ _ _)
   | (with_reducible exact ih1 _ _ _)
   | (with_reducible exact ih2 _ _ _ _)
   | (with_reducible exact ih3 _ _ _ _ _)
   | (with_reducible exact path_Clean.mono _ _)
   | (with_reducible exact target_Relative.mono _ _ _)
   | (with_reducible exact LeO.refl _)
   | (with_reducible exact LeO.none _)
   | (with_reducible refine LeO.ite ?_ ?_)
   | (with_reducible refine LeO.bind ?_ (fun _ => ?_))
   | exact ih0 _ _ _
   | exact ih1 _ _ _
   | exact ih2 _ _ _ _
   | exact ih3 _ _ _ _ _
   | exact path_Clean.mono _ _
   | exact target_Relative.mono _ _ _
   | exact LeO.none _
   | refine LeO.ite ?_ ?_
   | refine LeO.bind ?_ (fun _ => ?_)
set_option maxHeartbeats 8000000 in
set_option maxRecDepth 100000 in
theorem panniertop_WholeInside.calls (k : Nat) (a0 : ByteArray) (A1 : Option Addr) (c1 : Nat) (l1 : List ByteArray) (r : Bool) (w : World) (hr1 : Kd.C Kd.string w A1 l1.length l1) (hc1 : l1.length ≤ c1) (h : panniertop_WholeInside.f k a0 l1 = some r) (hGG0 : GG w) :
  Calls Tryd.prog 15 #[.string a0, .slice A1 l1.length c1] w fun e w' => e = .returned (.bool r) ∧ Below w.heap.size w w' := by
 have HGG := Aside0.mk hGG0
 clear hGG0
 have HR1 := Aside0.mk hr1
 have HC1 := Aside0.mk hc1
 clear hr1 hc1
 have HB := Aside0.mk (Below.refl w.heap.size w)
 have H : ((target_Resolve.f (⟨#[97]⟩ : ByteArray) (⟨#[46, 46, 47, 98]⟩ : ByteArray)).bind fun bt397 => (if bt397.1.toList = ([98] : List UInt8) then (panniertop_WholeInside.j0 k a0 l1 (bt397.2 != 0)) else (panniertop_WholeInside.j0 k a0 l1 true))) = some r := h
 clear h
 replace H := Option.bind_eq_some_iff.mp H
 obtain ⟨⟨t397, t398⟩, A30, H⟩ := H
 replace H : (if t397.toList = ([98] : List UInt8) then (panniertop_WholeInside.j0 k a0 l1 (t398 != 0)) else (panniertop_WholeInside.j0 k a0 l1 true)) = some r := H
 have A3 := Aside0.mk A30
 clear A30
 have HC4 := Aside0.mk H
 clear H
 go_enter Tryd.func15, Tryd.ntmps15
 go_upto_region 2 with (first | ((with_reducible refine gate_callee (f := 30) rfl ?_); refine goesL_ (some 21) rfl rfl Tryd.func30 (by kernel_rfl) rfl #[.string (⟨#[97]⟩ : ByteArray), .string (⟨#[46, 46, 47, 98]⟩ : ByteArray)] rfl (by (try simp only [List.map_toArray, List.map_cons, List.map_nil]); first | done | rfl | (simp only [List.length_drop, List.length_take]; rfl)) ?_; (with_reducible refine (target_Resolve.calls (⟨#[97]⟩ : ByteArray) (⟨#[46, 46, 47, 98]⟩ : ByteArray) t397 t398 _ A3.out ?hGG).mono ?_); (case hGG => exact GG_below HGG.out (by repeat (first | (with_reducible first | exact HB.out | apply below_alloc | apply pw_below_drewN | apply below_drew1) | exact HB.out))); rintro e w5 ⟨rfl, hb⟩; refine ⟨_, rfl, ?_⟩; have n0_ := Aside0.mk (below_step (by repeat (first | (with_reducible first | exact HB.out | apply below_alloc | apply pw_below_drewN | apply below_drew1) | exact HB.out)) hb); clear HB; have HB := n0_; clear n0_; (try clear hb); (try clear hb2); (try clear hk); (try clear hi)))
 (try simp only [Act.put, List.setIfInBounds_toArray, List.set_cons_zero, List.set_cons_succ])
 go_cut [29] (fun v29 wc => ∃ (kq : Nat) (x29_3 : Bool), v29 = .bool x29_3 ∧ Aside0 (panniertop_WholeInside.j0 kq a0 l1 x29_3 = some r) ∧ Aside0 (kq ≤ k) ∧ Aside0 (Below w.heap.size w wc))
 case first =>
  have H := HC4.out
  clear HC4
  by_cases c6 : t397.toList = ([98] : List UInt8)
  ·rw [if_pos c6] at H
   have c6b0 : (t397.toList == ([98] : List UInt8)) = true := beq_iff_eq.mpr c6
   have c6b1 : (t397.toList != ([98] : List UInt8)) = false := bne_eq_false_iff_eq.mpr c6
   clear c6
   (first | rw [c6b0] | (simp only [i64_w, i32_w]; rw [c6b0]) | skip)
   have H' := Aside0.mk H
   clear H
   go_wp2
   go_meet
   case rel => exact ⟨_, ((t398 != 0)), (by first | rfl | (simp; done) | (simp [*]; done)), H', ⟨by first | omega | exact Nat.le_refl _⟩, ⟨by repeat (first | (with_reducible first | exact HB.out | apply below_alloc | apply pw_below_drewN | apply below_drew1) | exact HB.out)⟩⟩
  ·rw [if_neg c6] at H
   have c6b0 : (t397.toList == ([98] : List UInt8)) = false := beq_eq_false_iff_ne.mpr c6
   have c6b1 : (t397.toList != ([98] : List UInt8)) = true := bne_iff_ne.mpr c6
   (first | rw [c6b0] | (simp only [i64_w, i32_w]; rw [c6b0]) | skip)
   have H' := Aside0.mk H
   clear H
   go_wp2
   go_meet
   case rel => exact ⟨_, (true), (by first | rfl | (simp; done) | (simp [*]; done)), H', ⟨by first | omega | exact Nat.le_refl _⟩, ⟨by repeat (first | (with_reducible first | exact HB.out | apply below_alloc | apply pw_below_drewN | apply below_drew1) | exact HB.out)⟩⟩
 case rest =>
  clear HC4
  try clear c1
  try clear p2
  try clear c3
  try clear c6
  try clear c6b0
  try clear c6b1
  obtain ⟨kq, x29_3, rfl, HA, HJ3, HB⟩ := hcut
  cases kq with
  | zero => exact absurd HA.out (by simp [panniertop_WholeInside.j0])
  | succ kj3 =>
   have H := HA.out
   clear HA
   simp only [panniertop_WholeInside.j0] at H
   by_cases c7 : x29_3 = true
   ·subst c7
    have H1 : (some false) = some r := by rw [if_pos rfl] at H; exact H
    clear H
    have H := H1
    clear H1
    obtain rfl := Option.some.inj H
    go_wp2
    all_goals (go_ret; exact ⟨by first | rfl | (simp [errW_none, errW_some] <;> rfl) | (simp [*, errW_none, errW_some] <;> rfl), by repeat (first | (with_reducible first | exact HB.out | apply below_alloc | apply pw_below_drewN | apply below_drew1) | exact HB.out)⟩)
   ·replace c7 := Bool.eq_false_iff.mpr c7
    subst c7
    have H1 : ((path_Clean.f kj3 a0).bind fun bt399 => (if bt399.2 = 0 then (if (l1.length : Int) > 20 then (panniertop_WholeInside.j1 kj3 l1 bt399.1 true) else (panniertop_WholeInside.j1 kj3 l1 bt399.1 (decide ((a0.size : Int) > 300)))) else (panniertop_WholeInside.j1 kj3 l1 bt399.1 true))) = some r := by rw [if_neg (show ¬ (false = true) by decide)] at H; exact H
    clear H
    have H := H1
    clear H1
    replace H := Option.bind_eq_some_iff.mp H
    obtain ⟨⟨t399, t400⟩, A80, H⟩ := H
    replace H : (if t400 = 0 then (if (l1.length : Int) > 20 then (panniertop_WholeInside.j1 kj3 l1 t399 true) else (panniertop_WholeInside.j1 kj3 l1 t399 (decide ((a0.size : Int) > 300)))) else (panniertop_WholeInside.j1 kj3 l1 t399 true)) = some r := H
    have A8 := Aside0.mk A80
    clear A80
    have HC9 := Aside0.mk H
    clear H
    go_upto_region 5 with (first | ((with_reducible refine gate_callee (f := 17) rfl ?_); refine goesL_ (some 32) rfl rfl Tryd.func17 (by kernel_rfl) rfl #[.string a0] rfl (by (try simp only [List.map_toArray, List.map_cons, List.map_nil]); first | done | rfl | (simp only [List.length_drop, List.length_take]; rfl)) ?_; (with_reducible refine (path_Clean.calls kj3 a0 t399 t400 _ A8.out ?hGG).mono ?_); (case hGG => exact GG_below HGG.out (by repeat (first | (with_reducible first | exact HB.out | apply below_alloc | apply pw_below_drewN | apply below_drew1) | exact HB.out))); rintro e w10 ⟨v401, rfl, ho0, hb⟩; refine ⟨_, rfl, ?_⟩; have n0_ := Aside0.mk (Kd.R_lower ho0 (below_size (by repeat (first | (with_reducible first | exact HB.out | apply below_alloc | apply pw_below_drewN | apply below_drew1) | exact HB.out)))); have n1_ := Aside0.mk (below_step (by repeat (first | (with_reducible first | exact HB.out | apply below_alloc | apply pw_below_drewN | apply below_drew1) | exact HB.out)) hb); clear HB; have HO402 := n0_; have HB := n1_; clear n0_ n1_; (try clear hb); (try clear hb2); (try clear hk); (try clear hi); (try clear ho0)))
    (try simp only [Act.put, List.setIfInBounds_toArray, List.set_cons_zero, List.set_cons_succ])
    go_cut [46] (fun v46 wc => ∃ (kq : Nat) (x46_8 : Bool), v46 = .bool x46_8 ∧ Aside0 (panniertop_WholeInside.j1 kq l1 t399 x46_8 = some r) ∧ Aside0 (kq ≤ kj3) ∧ Aside0 (Kd.R Kd.string 9 wc w.heap.size (fun _ => True) v401 t399) ∧ Aside0 (Below w.heap.size w wc))
    case first =>
     have H := HC9.out
     clear HC9
     by_cases c11 : t400 = 0
     ·rw [if_pos c11] at H
      have c11b0 : (t400 == 0) = true := beq_iff_eq.mpr c11
      have c11b1 : (t400 != 0) = false := bne_eq_false_iff_eq.mpr c11
      clear c11
      (first | rw [c11b0] | (simp only [i64_w, i32_w]; rw [c11b0]) | skip)
      by_cases c12 : (l1.length : Int) > 20
      ·rw [if_pos c12] at H
       have c12b0 : decide (20 < (l1.length : Int)) = true := decide_eq_true c12
       have c12b1 : decide (20 < l1.length) = true := decide_eq_true (by omega)
       clear c12
       have H' := Aside0.mk H
       clear H
       go_wp2
       go_meet
       case rel => exact ⟨_, (true), (by first | rfl | (simp; done) | (simp [*]; done)), H', ⟨by have := HJ3.out; first | omega | exact Nat.le_refl _⟩, ⟨by (with_reducible repeat (first | apply Kd.R_alloc | apply Kd.R_drewN | apply Kd.R_drew)); first | exact HO402.out | exact Kd.R_mono HO402.out (fun _ hk_ => by have h_ : ∀ (A : Option Addr) (n c : Nat), (Value.slice A n c).ownBlock = A.map (·.block) := fun A _ _ => (by cases A <;> rfl); simpa only [h_] using hk_)⟩, ⟨by repeat (first | (with_reducible first | exact HB.out | apply below_alloc | apply pw_below_drewN | apply below_drew1) | exact HB.out)⟩⟩
      ·rw [if_neg c12] at H
       have c12b0 : decide (20 < (l1.length : Int)) = false := decide_eq_false c12
       have c12b1 : decide (20 < l1.length) = false := decide_eq_false (by omega)
       clear c12
       have H' := Aside0.mk H
       clear H
       go_wp2
       go_meet
       case rel => exact ⟨_, (decide ((a0.size : Int) > 300)), (by first | rfl | (simp; done) | (simp [*]; done)), H', ⟨by have := HJ3.out; first | omega | exact Nat.le_refl _⟩, ⟨by (with_reducible repeat (first | apply Kd.R_alloc | apply Kd.R_drewN | apply Kd.R_drew)); first | exact HO402.out | exact Kd.R_mono HO402.out (fun _ hk_ => by have h_ : ∀ (A : Option Addr) (n c : Nat), (Value.slice A n c).ownBlock = A.map (·.block) := fun A _ _ => (by cases A <;> rfl); simpa only [h_] using hk_)⟩, ⟨by repeat (first | (with_reducible first | exact HB.out | apply below_alloc | apply pw_below_drewN | apply below_drew1) | exact HB.out)⟩⟩
     ·rw [if_neg c11] at H
      have c11b0 : (t400 == 0) = false := beq_eq_false_iff_ne.mpr c11
      have c11b1 : (t400 != 0) = true := bne_iff_ne.mpr c11
      (first | rw [c11b0] | (simp only [i64_w, i32_w]; rw [c11b0]) | skip)
      have H' := Aside0.mk H
      clear H
      go_wp2
      go_meet
      case rel => exact ⟨_, (true), (by first | rfl | (simp; done) | (simp [*]; done)), H', ⟨by have := HJ3.out; first | omega | exact Nat.le_refl _⟩, ⟨by (with_reducible repeat (first | apply Kd.R_alloc | apply Kd.R_drewN | apply Kd.R_drew)); first | exact HO402.out | exact Kd.R_mono HO402.out (fun _ hk_ => by have h_ : ∀ (A : Option Addr) (n c : Nat), (Value.slice A n c).ownBlock = A.map (·.block) := fun A _ _ => (by cases A <;> rfl); simpa only [h_] using hk_)⟩, ⟨by repeat (first | (with_reducible first | exact HB.out | apply below_alloc | apply pw_below_drewN | apply below_drew1) | exact HB.out)⟩⟩
    case rest =>
     clear HC9
     try clear c1
     try clear p2
     try clear c3
     try clear c6
     try clear c6b0
     try clear c6b1
     try clear c7
     try clear c11
     try clear c11b0
     try clear c11b1
     try clear c12
     try clear c12b0
     try clear c12b1
     try clear p2
     obtain ⟨kq, x46_8, rfl, HA, HJ8, HO_7, HB⟩ := hcut
     cases kq with
     | zero => exact absurd HA.out (by simp [panniertop_WholeInside.j1])
     | succ kj8 =>
      have H := HA.out
      clear HA
      simp only [panniertop_WholeInside.j1] at H
      by_cases c13 : x46_8 = true
      ·subst c13
       have H1 : (some true) = some r := by rw [if_pos rfl] at H; exact H
       clear H
       have H := H1
       clear H1
       obtain rfl := Option.some.inj H
       go_wp2
       all_goals (go_ret; exact ⟨by first | rfl | (simp [errW_none, errW_some] <;> rfl) | (simp [*, errW_none, errW_some] <;> rfl), by repeat (first | (with_reducible first | exact HB.out | apply below_alloc | apply pw_below_drewN | apply below_drew1) | exact HB.out)⟩)
      ·replace c13 := Bool.eq_false_iff.mpr c13
       subst c13
       have H1 : ((path_Join.f t399).bind fun t403 => (panniertop_WholeInside.l0 kj8 t403 l1 (l1.length : Int) 0)) = some r := by rw [if_neg (show ¬ (false = true) by decide)] at H; exact H
       clear H
       have H := H1
       clear H1
       replace H := Option.bind_eq_some_iff.mp H
       obtain ⟨t403, A140, H⟩ := H
       replace H : (panniertop_WholeInside.l0 kj8 t403 l1 (l1.length : Int) 0) = some r := H
       have A14 := Aside0.mk A140
       clear A140
       have H' := Aside0.mk H
       clear H
       obtain ⟨Ao15, co15, eo15⟩ := Kd.R_slice HO_7.out
       subst eo15
       go_wp2_with (first | ((with_reducible refine gate_callee (f := 22) rfl ?_); refine goesL_ (some 48) rfl rfl Tryd.func22 (by kernel_rfl) rfl #[.slice Ao15 t399.length co15] rfl (by (try simp only [List.map_toArray, List.map_cons, List.map_nil]); first | done | rfl | (simp only [List.length_drop, List.length_take]; rfl)) ?_; (with_reducible refine (path_Join.calls _ _ t399 t403 _ ?side1 ?side2 A14.out).mono ?_); (case side1 => repeat (first | exact (Kd.R_reads' HO_7.out).2.2 | (with_reducible refine Kd.C_alloc ?_ _) | (with_reducible refine Kd.C_drewN ?_ _) | (with_reducible refine Kd.C_drew ?_))); (case side2 => exact (Kd.R_reads' HO_7.out).2.1); rintro e w16 ⟨rfl, hb⟩; refine ⟨_, rfl, ?_⟩; have n0_ := Aside0.mk (Kd.R_below (by (with_reducible repeat (first | apply Kd.R_alloc | apply Kd.R_drewN | apply Kd.R_drew)); exact HO_7.out) hb); have n1_ := Aside0.mk (below_step (by repeat (first | (with_reducible first | exact HB.out | apply below_alloc | apply pw_below_drewN | apply below_drew1) | exact HB.out)) hb); clear HO_7; clear HB; have HO_7 := n0_; have HB := n1_; clear n0_ n1_; (try clear hb); (try clear hb2); (try clear hk); (try clear hi)))
       go_loopg [9, 51] kj8 (fun kq v9 v51 w' => ∃ (x9_3 : ByteArray) (x51_3 : Int), v9 = .string x9_3 ∧ v51 = .int .i64 x51_3 ∧ Aside0 (panniertop_WholeInside.l0 kq x9_3 l1 (l1.length : Int) x51_3 = some r) ∧ Aside0 (kq ≤ kj8) ∧ Aside0 (Below w.heap.size w w'))
       case atStart => exact ⟨(t403), (0), (by first | rfl | (simp; done) | (simp [*]; done)), (by first | rfl | (simp; done) | (simp [*]; done)), H', ⟨Nat.le_refl _⟩, ⟨by repeat (first | (with_reducible first | exact HB.out | apply below_alloc | apply pw_below_drewN | apply below_drew1) | exact HB.out)⟩⟩
       case round =>
        clear H'
        try clear c1
        try clear c2
        try clear p2
        try clear c3
        try clear c6
        try clear c6b0
        try clear c6b1
        try clear c7
        try clear c11
        try clear c11b0
        try clear c11b1
        try clear c12
        try clear c12b0
        try clear c12b1
        try clear c13
        try clear c15
        try clear p2
        obtain ⟨x9_3, x51_3, rfl, rfl, HA, HK3, HB⟩ := hrel
        cases gk with
        | zero => exact absurd HA.out (by simp [panniertop_WholeInside.l0])
        | succ k3 =>
         have H := HA.out
         clear HA
         simp only [panniertop_WholeInside.l0] at H
         by_cases c17 : x51_3 < (l1.length : Int)
         ·rw [if_pos c17] at H
          have c17b0 : decide (x51_3 < (l1.length : Int)) = true := decide_eq_true c17
          clear c17
          by_cases c18 : 0 ≤ x51_3
          ·rw [if_pos c18] at H
           have c18b0 : decide (0 ≤ x51_3) = true := decide_eq_true c18
           clear c18
           by_cases c19 : x51_3 < (l1.length : Int)
           ·rw [if_pos c19] at H
            have c19b0 : decide (x51_3 < (l1.length : Int)) = true := decide_eq_true c19
            clear c19
            by_cases c20 : ((rdOf ByteArray.empty l1 x51_3).size : Int) > 100
            ·rw [if_pos c20] at H
             have c20b0 : decide (100 < ((rdOf ByteArray.empty l1 x51_3).size : Int)) = true := decide_eq_true c20
             have c20b1 : decide (100 < (rdOf ByteArray.empty l1 x51_3).size) = true := decide_eq_true (by omega)
             clear c20
             obtain rfl := Option.some.inj H
             have p404 : 0 ≤ (x51_3 : Int) := of_decide_eq_true (by first | (with_reducible assumption) | assumption)
             have q404 : x51_3 < (l1.length : Int) := of_decide_eq_true (by first | (with_reducible assumption) | assumption)
             obtain ⟨ad404, e404, hx404_0⟩ := Kd.at_string HR1.out x51_3 p404 q404
             cases e404
             replace hx404_0 := (HB.out.cell (World.block_lt_of_cell? w _ hx404_0)).trans hx404_0
             replace p404 := eq_true p404
             replace q404 := eq_true q404
             go_wp2
             all_goals (go_ret; exact ⟨by first | rfl | (simp [errW_none, errW_some] <;> rfl) | (simp [*, errW_none, errW_some] <;> rfl), by repeat (first | (with_reducible first | exact HB.out | apply below_alloc | apply pw_below_drewN | apply below_drew1) | exact HB.out)⟩)
            ·rw [if_neg c20] at H
             have c20b0 : decide (100 < ((rdOf ByteArray.empty l1 x51_3).size : Int)) = false := decide_eq_false c20
             have c20b1 : decide (100 < (rdOf ByteArray.empty l1 x51_3).size) = false := decide_eq_false (by omega)
             clear c20
             replace H := Option.bind_eq_some_iff.mp H
             obtain ⟨⟨t405, t406⟩, A210, H⟩ := H
             replace H : (if t406 = 0 then (if t405.toList = ([] : List UInt8) then (panniertop_WholeInside.j3 k3 x9_3 t405 l1 (l1.length : Int) x51_3) else ((path_Clean.f k3 t405).bind fun bt407 => (if bt407.2 = 0 then ((path_Join.f bt407.1).bind fun t411 => (if t411.toList = t405.toList then (panniertop_WholeInside.j3 k3 x9_3 t405 l1 (l1.length : Int) x51_3) else (some false))) else (some false)))) else (if t405.toList = ([] : List UInt8) then (panniertop_WholeInside.l0 k3 x9_3 l1 (l1.length : Int) (wrap64 (x51_3 + 1))) else (some false))) = some r := H
             have A21 := Aside0.mk A210
             clear A210
             by_cases c22 : t406 = 0
             ·rw [if_pos c22] at H
              have c22b0 : (t406 == 0) = true := beq_iff_eq.mpr c22
              have c22b1 : (t406 != 0) = false := bne_eq_false_iff_eq.mpr c22
              clear c22
              have HC23 := Aside0.mk H
              clear H
              have p404 : 0 ≤ (x51_3 : Int) := of_decide_eq_true (by first | (with_reducible assumption) | assumption)
              have q404 : x51_3 < (l1.length : Int) := of_decide_eq_true (by first | (with_reducible assumption) | assumption)
              obtain ⟨ad404, e404, hx404_0⟩ := Kd.at_string HR1.out x51_3 p404 q404
              cases e404
              replace hx404_0 := (HB.out.cell (World.block_lt_of_cell? w _ hx404_0)).trans hx404_0
              replace p404 := eq_true p404
              replace q404 := eq_true q404
              go_upto_if 69 with (first | ((with_reducible refine gate_callee (f := 30) rfl ?_); refine goesL_ (some 61) rfl rfl Tryd.func30 (by kernel_rfl) rfl #[.string x9_3, .string (rdOf ByteArray.empty l1 x51_3)] rfl (by (try simp only [List.map_toArray, List.map_cons, List.map_nil]); first | done | rfl | (simp only [List.length_drop, List.length_take]; rfl)) ?_; (with_reducible refine (target_Resolve.calls x9_3 (rdOf ByteArray.empty l1 x51_3) t405 t406 _ A21.out ?hGG).mono ?_); (case hGG => exact GG_below HGG.out (by repeat (first | (with_reducible first | exact HB.out | apply below_alloc | apply pw_below_drewN | apply below_drew1) | exact HB.out))); rintro e w24 ⟨rfl, hb⟩; refine ⟨_, rfl, ?_⟩; have n0_ := Aside0.mk (below_step (by repeat (first | (with_reducible first | exact HB.out | apply below_alloc | apply pw_below_drewN | apply below_drew1) | exact HB.out)) hb); clear HB; have HB := n0_; clear n0_; (try clear hb); (try clear hb2); (try clear hk); (try clear hi)))
              (try simp only [Act.put, List.setIfInBounds_toArray, List.set_cons_zero, List.set_cons_succ])
              go_cut [] (fun wc => ∃ (kq : Nat), Aside0 (panniertop_WholeInside.j3 kq x9_3 t405 l1 (l1.length : Int) x51_3 = some r) ∧ Aside0 (kq ≤ k3) ∧ Aside0 (Below w.heap.size w wc))
              case first =>
               have H := HC23.out
               clear HC23
               by_cases c25 : t405.toList = ([] : List UInt8)
               ·rw [if_pos c25] at H
                have c25b0 : (t405.toList == ([] : List UInt8)) = true := beq_iff_eq.mpr c25
                have c25b2 : (t405.toList).isEmpty = true := List.isEmpty_iff.mpr c25
                have c25b4 : (!(t405.toList).isEmpty) = false := by rw [c25b2]; rfl
                have c25b1 : (t405.toList != ([] : List UInt8)) = false := bne_eq_false_iff_eq.mpr c25
                clear c25
                (first | rw [c25b0] | (simp only [i64_w, i32_w]; rw [c25b0]) | skip)
                (try first | rw [c25b4] | rw [c25b2])
                have H' := Aside0.mk H
                clear H
                go_wp2
                all_goals (try (exfalso; first | (rename_i he_; rw [c25b2] at he_; (first | cases he_ | simp at he_); done) | (rename_i he_ _; rw [c25b2] at he_; (first | cases he_ | simp at he_); done) | (rename_i he_ _ _; rw [c25b2] at he_; (first | cases he_ | simp at he_); done) | (rename_i he_ _ _ _; rw [c25b2] at he_; (first | cases he_ | simp at he_); done) | (rename_i he_ _ _ _ _; rw [c25b2] at he_; (first | cases he_ | simp at he_); done) | (rename_i he_ _ _ _ _ _; rw [c25b2] at he_; (first | cases he_ | simp at he_); done) | (rename_i he_ _ _ _ _ _ _; rw [c25b2] at he_; (first | cases he_ | simp at he_); done)))
                go_meet
                case rel => exact ⟨_, H', ⟨by have := HJ3.out; have := HJ8.out; have := HK3.out; first | omega | exact Nat.le_refl _⟩, ⟨by repeat (first | (with_reducible first | exact HB.out | apply below_alloc | apply pw_below_drewN | apply below_drew1) | exact HB.out)⟩⟩
               ·rw [if_neg c25] at H
                have c25b0 : (t405.toList == ([] : List UInt8)) = false := beq_eq_false_iff_ne.mpr c25
                have c25b2 : (t405.toList).isEmpty = false := List.isEmpty_eq_false_iff.mpr c25
                have c25b4 : (!(t405.toList).isEmpty) = true := by rw [c25b2]; rfl
                have c25b1 : (t405.toList != ([] : List UInt8)) = true := bne_iff_ne.mpr c25
                (first | rw [c25b0] | (simp only [i64_w, i32_w]; rw [c25b0]) | skip)
                (try first | rw [c25b4] | rw [c25b2])
                replace H := Option.bind_eq_some_iff.mp H
                obtain ⟨⟨t407, t408⟩, A260, H⟩ := H
                replace H : (if t408 = 0 then ((path_Join.f t407).bind fun t411 => (if t411.toList = t405.toList then (panniertop_WholeInside.j3 k3 x9_3 t405 l1 (l1.length : Int) x51_3) else (some false))) else (some false)) = some r := H
                have A26 := Aside0.mk A260
                clear A260
                by_cases c27 : t408 = 0
                ·rw [if_pos c27] at H
                 have c27b0 : (t408 == 0) = true := beq_iff_eq.mpr c27
                 have c27b1 : (t408 != 0) = false := bne_eq_false_iff_eq.mpr c27
                 clear c27
                 replace H := Option.bind_eq_some_iff.mp H
                 obtain ⟨t411, A280, H⟩ := H
                 replace H : (if t411.toList = t405.toList then (panniertop_WholeInside.j3 k3 x9_3 t405 l1 (l1.length : Int) x51_3) else (some false)) = some r := H
                 have A28 := Aside0.mk A280
                 clear A280
                 by_cases c29 : t411.toList = t405.toList
                 ·rw [if_pos c29] at H
                  have c29b0 : (t411.toList == t405.toList) = true := beq_iff_eq.mpr c29
                  have c29b1 : (t411.toList != t405.toList) = false := bne_eq_false_iff_eq.mpr c29
                  clear c29
                  have H' := Aside0.mk H
                  clear H
                  go_wp2_with (first | ((with_reducible refine gate_callee (f := 17) rfl ?_); refine goesL_ (some 72) rfl rfl Tryd.func17 (by kernel_rfl) rfl #[.string t405] rfl (by (try simp only [List.map_toArray, List.map_cons, List.map_nil]); first | done | rfl | (simp only [List.length_drop, List.length_take]; rfl)) ?_; (with_reducible refine (path_Clean.calls k3 t405 t407 t408 _ A26.out ?hGG).mono ?_); (case hGG => exact GG_below HGG.out (by repeat (first | (with_reducible first | exact HB.out | apply below_alloc | apply pw_below_drewN | apply below_drew1) | exact HB.out))); rintro e w30 ⟨v409, rfl, ho0, hb⟩; refine ⟨_, rfl, ?_⟩; have n0_ := Aside0.mk (Kd.R_lower ho0 (below_size (by repeat (first | (with_reducible first | exact HB.out | apply below_alloc | apply pw_below_drewN | apply below_drew1) | exact HB.out)))); have n1_ := Aside0.mk (below_step (by repeat (first | (with_reducible first | exact HB.out | apply below_alloc | apply pw_below_drewN | apply below_drew1) | exact HB.out)) hb); clear HB; have HO410 := n0_; have HB := n1_; clear n0_ n1_; (try clear hb); (try clear hb2); (try clear hk); (try clear hi); (try clear ho0); obtain ⟨Ao31, co31, eo31⟩ := Kd.R_slice HO410.out; subst eo31) | (go_at_call 22; (with_reducible refine (path_Join.calls _ _ t407 t411 _ ?side1 ?side2 A28.out).mono ?_); (case side1 => repeat (first | exact (Kd.R_reads' HO410.out).2.2 | (with_reducible refine Kd.C_alloc ?_ _) | (with_reducible refine Kd.C_drewN ?_ _) | (with_reducible refine Kd.C_drew ?_))); (case side2 => exact (Kd.R_reads' HO410.out).2.1); rintro e w32 ⟨rfl, hb⟩; have n0_ := Aside0.mk (Kd.R_below (by (with_reducible repeat (first | apply Kd.R_alloc | apply Kd.R_drewN | apply Kd.R_drew)); exact HO410.out) hb); have n1_ := Aside0.mk (below_step (by repeat (first | (with_reducible first | exact HB.out | apply below_alloc | apply pw_below_drewN | apply below_drew1) | exact HB.out)) hb); clear HO410; clear HB; have HO410 := n0_; have HB := n1_; clear n0_ n1_; (try clear hb); (try clear hb2); (try clear hk); (try clear hi)))
                  go_meet
                  case rel => exact ⟨_, H', ⟨by have := HJ3.out; have := HJ8.out; have := HK3.out; first | omega | exact Nat.le_refl _⟩, ⟨by repeat (first | (with_reducible first | exact HB.out | apply below_alloc | apply pw_below_drewN | apply below_drew1) | exact HB.out)⟩⟩
                 ·rw [if_neg c29] at H
                  have c29b0 : (t411.toList == t405.toList) = false := beq_eq_false_iff_ne.mpr c29
                  have c29b1 : (t411.toList != t405.toList) = true := bne_iff_ne.mpr c29
                  obtain rfl := Option.some.inj H
                  go_wp2_with (first | ((with_reducible refine gate_callee (f := 17) rfl ?_); refine goesL_ (some 72) rfl rfl Tryd.func17 (by kernel_rfl) rfl #[.string t405] rfl (by (try simp only [List.map_toArray, List.map_cons, List.map_nil]); first | done | rfl | (simp only [List.length_drop, List.length_take]; rfl)) ?_; (with_reducible refine (path_Clean.calls k3 t405 t407 t408 _ A26.out ?hGG).mono ?_); (case hGG => exact GG_below HGG.out (by repeat (first | (with_reducible first | exact HB.out | apply below_alloc | apply pw_below_drewN | apply below_drew1) | exact HB.out))); rintro e w33 ⟨v409, rfl, ho0, hb⟩; refine ⟨_, rfl, ?_⟩; have n0_ := Aside0.mk (Kd.R_lower ho0 (below_size (by repeat (first | (with_reducible first | exact HB.out | apply below_alloc | apply pw_below_drewN | apply below_drew1) | exact HB.out)))); have n1_ := Aside0.mk (below_step (by repeat (first | (with_reducible first | exact HB.out | apply below_alloc | apply pw_below_drewN | apply below_drew1) | exact HB.out)) hb); clear HB; have HO410 := n0_; have HB := n1_; clear n0_ n1_; (try clear hb); (try clear hb2); (try clear hk); (try clear hi); (try clear ho0); obtain ⟨Ao34, co34, eo34⟩ := Kd.R_slice HO410.out; subst eo34) | (go_at_call 22; (with_reducible refine (path_Join.calls _ _ t407 t411 _ ?side1 ?side2 A28.out).mono ?_); (case side1 => repeat (first | exact (Kd.R_reads' HO410.out).2.2 | (with_reducible refine Kd.C_alloc ?_ _) | (with_reducible refine Kd.C_drewN ?_ _) | (with_reducible refine Kd.C_drew ?_))); (case side2 => exact (Kd.R_reads' HO410.out).2.1); rintro e w35 ⟨rfl, hb⟩; have n0_ := Aside0.mk (Kd.R_below (by (with_reducible repeat (first | apply Kd.R_alloc | apply Kd.R_drewN | apply Kd.R_drew)); exact HO410.out) hb); have n1_ := Aside0.mk (below_step (by repeat (first | (with_reducible first | exact HB.out | apply below_alloc | apply pw_below_drewN | apply below_drew1) | exact HB.out)) hb); clear HO410; clear HB; have HO410 := n0_; have HB := n1_; clear n0_ n1_; (try clear hb); (try clear hb2); (try clear hk); (try clear hi)))
                  all_goals (go_ret; exact ⟨by first | rfl | (simp [errW_none, errW_some] <;> rfl) | (simp [*, errW_none, errW_some] <;> rfl), by repeat (first | (with_reducible first | exact HB.out | apply below_alloc | apply pw_below_drewN | apply below_drew1) | exact HB.out)⟩)
                ·rw [if_neg c27] at H
                 have c27b0 : (t408 == 0) = false := beq_eq_false_iff_ne.mpr c27
                 have c27b1 : (t408 != 0) = true := bne_iff_ne.mpr c27
                 obtain rfl := Option.some.inj H
                 go_wp2_with (first | ((with_reducible refine gate_callee (f := 17) rfl ?_); refine goesL_ (some 72) rfl rfl Tryd.func17 (by kernel_rfl) rfl #[.string t405] rfl (by (try simp only [List.map_toArray, List.map_cons, List.map_nil]); first | done | rfl | (simp only [List.length_drop, List.length_take]; rfl)) ?_; (with_reducible refine (path_Clean.calls k3 t405 t407 t408 _ A26.out ?hGG).mono ?_); (case hGG => exact GG_below HGG.out (by repeat (first | (with_reducible first | exact HB.out | apply below_alloc | apply pw_below_drewN | apply below_drew1) | exact HB.out))); rintro e w36 ⟨v409, rfl, ho0, hb⟩; refine ⟨_, rfl, ?_⟩; have n0_ := Aside0.mk (Kd.R_lower ho0 (below_size (by repeat (first | (with_reducible first | exact HB.out | apply below_alloc | apply pw_below_drewN | apply below_drew1) | exact HB.out)))); have n1_ := Aside0.mk (below_step (by repeat (first | (with_reducible first | exact HB.out | apply below_alloc | apply pw_below_drewN | apply below_drew1) | exact HB.out)) hb); clear HB; have HO410 := n0_; have HB := n1_; clear n0_ n1_; (try clear hb); (try clear hb2); (try clear hk); (try clear hi); (try clear ho0)))
                 all_goals (go_ret; exact ⟨by first | rfl | (simp [errW_none, errW_some] <;> rfl) | (simp [*, errW_none, errW_some] <;> rfl), by repeat (first | (with_reducible first | exact HB.out | apply below_alloc | apply pw_below_drewN | apply below_drew1) | exact HB.out)⟩)
              case rest =>
               clear HC23
               try clear c1
               try clear c2
               try clear p2
               try clear c3
               try clear p4
               try clear q4
               try clear hx4
               try clear c6
               try clear c6b0
               try clear c6b1
               try clear p6
               try clear c7
               try clear c11
               try clear c11b0
               try clear c11b1
               try clear c12
               try clear c12b0
               try clear c12b1
               try clear c13
               try clear c15
               try clear c17
               try clear c17b0
               try clear c18
               try clear c18b0
               try clear c19
               try clear c19b0
               try clear c20
               try clear c20b0
               try clear c20b1
               try clear c22
               try clear c22b0
               try clear c22b1
               try clear c25
               try clear c25b0
               try clear c25b1
               try clear c27
               try clear c27b0
               try clear c27b1
               try clear c29
               try clear c29b0
               try clear c29b1
               try clear c30
               try clear hx404_0
               try clear p2
               try clear p404
               try clear q404
               obtain ⟨kq, HA, HJ22, HB⟩ := hcut
               cases kq with
               | zero => exact absurd HA.out (by simp [panniertop_WholeInside.j3])
               | succ kj22 =>
                have H := HA.out
                clear HA
                simp only [panniertop_WholeInside.j3] at H
                by_cases c37 : (t405.size : Int) > 1000
                ·rw [if_pos c37] at H
                 have c37b0 : decide (1000 < (t405.size : Int)) = true := decide_eq_true c37
                 have c37b1 : decide (1000 < t405.size) = true := decide_eq_true (by omega)
                 clear c37
                 obtain rfl := Option.some.inj H
                 go_wp2
                 all_goals (go_ret; exact ⟨by first | rfl | (simp [errW_none, errW_some] <;> rfl) | (simp [*, errW_none, errW_some] <;> rfl), by repeat (first | (with_reducible first | exact HB.out | apply below_alloc | apply pw_below_drewN | apply below_drew1) | exact HB.out)⟩)
                ·rw [if_neg c37] at H
                 have c37b0 : decide (1000 < (t405.size : Int)) = false := decide_eq_false c37
                 have c37b1 : decide (1000 < t405.size) = false := decide_eq_false (by omega)
                 clear c37
                 replace H := Option.bind_eq_some_iff.mp H
                 obtain ⟨t412, A380, H⟩ := H
                 replace H : ((target_Resolve.f t405 t412).bind fun bt413 => ((target_Relative.f kj22 x9_3 t405).bind fun t415 => ((target_Resolve.f x9_3 t415).bind fun bt416 => (if bt413.2 = 0 then (if bt413.1.toList = x9_3.toList then (if bt416.2 = 0 then (if bt416.1.toList = t405.toList then ((path_Under.f (⟨#[]⟩ : ByteArray) t405).bind fun t418 => (if t418 = true then (panniertop_WholeInside.l0 kj22 t405 l1 (l1.length : Int) (wrap64 (x51_3 + 1))) else (some false))) else (some false)) else (some false)) else (some false)) else (some false))))) = some r := H
                 have A38 := Aside0.mk A380
                 clear A380
                 replace H := Option.bind_eq_some_iff.mp H
                 obtain ⟨⟨t413, t414⟩, A390, H⟩ := H
                 replace H : ((target_Relative.f kj22 x9_3 t405).bind fun t415 => ((target_Resolve.f x9_3 t415).bind fun bt416 => (if t414 = 0 then (if t413.toList = x9_3.toList then (if bt416.2 = 0 then (if bt416.1.toList = t405.toList then ((path_Under.f (⟨#[]⟩ : ByteArray) t405).bind fun t418 => (if t418 = true then (panniertop_WholeInside.l0 kj22 t405 l1 (l1.length : Int) (wrap64 (x51_3 + 1))) else (some false))) else (some false)) else (some false)) else (some false)) else (some false)))) = some r := H
                 have A39 := Aside0.mk A390
                 clear A390
                 replace H := Option.bind_eq_some_iff.mp H
                 obtain ⟨t415, A400, H⟩ := H
                 replace H : ((target_Resolve.f x9_3 t415).bind fun bt416 => (if t414 = 0 then (if t413.toList = x9_3.toList then (if bt416.2 = 0 then (if bt416.1.toList = t405.toList then ((path_Under.f (⟨#[]⟩ : ByteArray) t405).bind fun t418 => (if t418 = true then (panniertop_WholeInside.l0 kj22 t405 l1 (l1.length : Int) (wrap64 (x51_3 + 1))) else (some false))) else (some false)) else (some false)) else (some false)) else (some false))) = some r := H
                 have A40 := Aside0.mk A400
                 clear A400
                 replace H := Option.bind_eq_some_iff.mp H
                 obtain ⟨⟨t416, t417⟩, A410, H⟩ := H
                 replace H : (if t414 = 0 then (if t413.toList = x9_3.toList then (if t417 = 0 then (if t416.toList = t405.toList then ((path_Under.f (⟨#[]⟩ : ByteArray) t405).bind fun t418 => (if t418 = true then (panniertop_WholeInside.l0 kj22 t405 l1 (l1.length : Int) (wrap64 (x51_3 + 1))) else (some false))) else (some false)) else (some false)) else (some false)) else (some false)) = some r := H
                 have A41 := Aside0.mk A410
                 clear A410
                 by_cases c42 : t414 = 0
                 ·rw [if_pos c42] at H
                  have c42b0 : (t414 == 0) = true := beq_iff_eq.mpr c42
                  have c42b1 : (t414 != 0) = false := bne_eq_false_iff_eq.mpr c42
                  clear c42
                  by_cases c43 : t413.toList = x9_3.toList
                  ·rw [if_pos c43] at H
                   have c43b0 : (t413.toList == x9_3.toList) = true := beq_iff_eq.mpr c43
                   have c43b1 : (t413.toList != x9_3.toList) = false := bne_eq_false_iff_eq.mpr c43
                   clear c43
                   by_cases c44 : t417 = 0
                   ·rw [if_pos c44] at H
                    have c44b0 : (t417 == 0) = true := beq_iff_eq.mpr c44
                    have c44b1 : (t417 != 0) = false := bne_eq_false_iff_eq.mpr c44
                    clear c44
                    by_cases c45 : t416.toList = t405.toList
                    ·rw [if_pos c45] at H
                     have c45b0 : (t416.toList == t405.toList) = true := beq_iff_eq.mpr c45
                     have c45b1 : (t416.toList != t405.toList) = false := bne_eq_false_iff_eq.mpr c45
                     clear c45
                     replace H := Option.bind_eq_some_iff.mp H
                     obtain ⟨t418, A460, H⟩ := H
                     replace H : (if t418 = true then (panniertop_WholeInside.l0 kj22 t405 l1 (l1.length : Int) (wrap64 (x51_3 + 1))) else (some false)) = some r := H
                     have A46 := Aside0.mk A460
                     clear A460
                     by_cases c47 : t418 = true
                     ·subst c47
                      have H1 : (panniertop_WholeInside.l0 kj22 t405 l1 (l1.length : Int) (wrap64 (x51_3 + 1))) = some r := by rw [if_pos rfl] at H; exact H
                      clear H
                      have H := H1
                      clear H1
                      have H' := Aside0.mk H
                      clear H
                      go_wp2_with (first | ((with_reducible refine gate_callee (f := 33) rfl ?_); refine goesL_ (some 90) rfl rfl Tryd.func33 (by kernel_rfl) rfl #[.string t405, .string x9_3] rfl (by (try simp only [List.map_toArray, List.map_cons, List.map_nil]); first | done | rfl | (simp only [List.length_drop, List.length_take]; rfl)) ?_; (with_reducible refine (target_Relative.calls kj22 t405 x9_3 t412 _ A38.out).mono ?_); rintro e w48 ⟨rfl, hb⟩; refine ⟨_, rfl, ?_⟩; have n0_ := Aside0.mk (below_step (by repeat (first | (with_reducible first | exact HB.out | apply below_alloc | apply pw_below_drewN | apply below_drew1) | exact HB.out)) hb); clear HB; have HB := n0_; clear n0_; (try clear hb); (try clear hb2); (try clear hk); (try clear hi)) | ((with_reducible refine gate_callee (f := 30) rfl ?_); refine goesL_ (some 91) rfl rfl Tryd.func30 (by kernel_rfl) rfl #[.string t405, .string t412] rfl (by (try simp only [List.map_toArray, List.map_cons, List.map_nil]); first | done | rfl | (simp only [List.length_drop, List.length_take]; rfl)) ?_; (with_reducible refine (target_Resolve.calls t405 t412 t413 t414 _ A39.out ?hGG).mono ?_); (case hGG => exact GG_below HGG.out (by repeat (first | (with_reducible first | exact HB.out | apply below_alloc | apply pw_below_drewN | apply below_drew1) | exact HB.out))); rintro e w49 ⟨rfl, hb⟩; refine ⟨_, rfl, ?_⟩; have n0_ := Aside0.mk (below_step (by repeat (first | (with_reducible first | exact HB.out | apply below_alloc | apply pw_below_drewN | apply below_drew1) | exact HB.out)) hb); clear HB; have HB := n0_; clear n0_; (try clear hb); (try clear hb2); (try clear hk); (try clear hi)) | ((with_reducible refine gate_callee (f := 33) rfl ?_); refine goesL_ (some 98) rfl rfl Tryd.func33 (by kernel_rfl) rfl #[.string x9_3, .string t405] rfl (by (try simp only [List.map_toArray, List.map_cons, List.map_nil]); first | done | rfl | (simp only [List.length_drop, List.length_take]; rfl)) ?_; (with_reducible refine (target_Relative.calls kj22 x9_3 t405 t415 _ A40.out).mono ?_); rintro e w50 ⟨rfl, hb⟩; refine ⟨_, rfl, ?_⟩; have n0_ := Aside0.mk (below_step (by repeat (first | (with_reducible first | exact HB.out | apply below_alloc | apply pw_below_drewN | apply below_drew1) | exact HB.out)) hb); clear HB; have HB := n0_; clear n0_; (try clear hb); (try clear hb2); (try clear hk); (try clear hi)) | ((with_reducible refine gate_callee (f := 30) rfl ?_); refine goesL_ (some 99) rfl rfl Tryd.func30 (by kernel_rfl) rfl #[.string x9_3, .string t415] rfl (by (try simp only [List.map_toArray, List.map_cons, List.map_nil]); first | done | rfl | (simp only [List.length_drop, List.length_take]; rfl)) ?_; (with_reducible refine (target_Resolve.calls x9_3 t415 t416 t417 _ A41.out ?hGG).mono ?_); (case hGG => exact GG_below HGG.out (by repeat (first | (with_reducible first | exact HB.out | apply below_alloc | apply pw_below_drewN | apply below_drew1) | exact HB.out))); rintro e w51 ⟨rfl, hb⟩; refine ⟨_, rfl, ?_⟩; have n0_ := Aside0.mk (below_step (by repeat (first | (with_reducible first | exact HB.out | apply below_alloc | apply pw_below_drewN | apply below_drew1) | exact HB.out)) hb); clear HB; have HB := n0_; clear n0_; (try clear hb); (try clear hb2); (try clear hk); (try clear hi)) | (go_at_call 27; (with_reducible refine (path_Under.calls (⟨#[]⟩ : ByteArray) t405 true _ A46.out).mono ?_); rintro e w' ⟨rfl, ⟨nd, rfl⟩⟩))
                      go_roundg kj22
                      case measure => have := HJ3.out; have := HJ8.out; have := HK3.out; have := HJ22.out; omega
                      case rel => exact ⟨(t405), (wrap64 (x51_3 + 1)), (by first | rfl | (simp; done) | (simp [*]; done)), (by first | rfl | (simp; done) | (simp [*]; done)), H', ⟨by have := HJ3.out; have := HJ8.out; have := HK3.out; have := HJ22.out; omega⟩, ⟨by repeat (first | (with_reducible first | exact HB.out | apply below_alloc | apply pw_below_drewN | apply below_drew1) | exact HB.out)⟩⟩
                     ·replace c47 := Bool.eq_false_iff.mpr c47
                      subst c47
                      have H1 : (some false) = some r := by rw [if_neg (show ¬ (false = true) by decide)] at H; exact H
                      clear H
                      have H := H1
                      clear H1
                      obtain rfl := Option.some.inj H
                      go_wp2_with (first | ((with_reducible refine gate_callee (f := 33) rfl ?_); refine goesL_ (some 90) rfl rfl Tryd.func33 (by kernel_rfl) rfl #[.string t405, .string x9_3] rfl (by (try simp only [List.map_toArray, List.map_cons, List.map_nil]); first | done | rfl | (simp only [List.length_drop, List.length_take]; rfl)) ?_; (with_reducible refine (target_Relative.calls kj22 t405 x9_3 t412 _ A38.out).mono ?_); rintro e w52 ⟨rfl, hb⟩; refine ⟨_, rfl, ?_⟩; have n0_ := Aside0.mk (below_step (by repeat (first | (with_reducible first | exact HB.out | apply below_alloc | apply pw_below_drewN | apply below_drew1) | exact HB.out)) hb); clear HB; have HB := n0_; clear n0_; (try clear hb); (try clear hb2); (try clear hk); (try clear hi)) | ((with_reducible refine gate_callee (f := 30) rfl ?_); refine goesL_ (some 91) rfl rfl Tryd.func30 (by kernel_rfl) rfl #[.string t405, .string t412] rfl (by (try simp only [List.map_toArray, List.map_cons, List.map_nil]); first | done | rfl | (simp only [List.length_drop, List.length_take]; rfl)) ?_; (with_reducible refine (target_Resolve.calls t405 t412 t413 t414 _ A39.out ?hGG).mono ?_); (case hGG => exact GG_below HGG.out (by repeat (first | (with_reducible first | exact HB.out | apply below_alloc | apply pw_below_drewN | apply below_drew1) | exact HB.out))); rintro e w53 ⟨rfl, hb⟩; refine ⟨_, rfl, ?_⟩; have n0_ := Aside0.mk (below_step (by repeat (first | (with_reducible first | exact HB.out | apply below_alloc | apply pw_below_drewN | apply below_drew1) | exact HB.out)) hb); clear HB; have HB := n0_; clear n0_; (try clear hb); (try clear hb2); (try clear hk); (try clear hi)) | ((with_reducible refine gate_callee (f := 33) rfl ?_); refine goesL_ (some 98) rfl rfl Tryd.func33 (by kernel_rfl) rfl #[.string x9_3, .string t405] rfl (by (try simp only [List.map_toArray, List.map_cons, List.map_nil]); first | done | rfl | (simp only [List.length_drop, List.length_take]; rfl)) ?_; (with_reducible refine (target_Relative.calls kj22 x9_3 t405 t415 _ A40.out).mono ?_); rintro e w54 ⟨rfl, hb⟩; refine ⟨_, rfl, ?_⟩; have n0_ := Aside0.mk (below_step (by repeat (first | (with_reducible first | exact HB.out | apply below_alloc | apply pw_below_drewN | apply below_drew1) | exact HB.out)) hb); clear HB; have HB := n0_; clear n0_; (try clear hb); (try clear hb2); (try clear hk); (try clear hi)) | ((with_reducible refine gate_callee (f := 30) rfl ?_); refine goesL_ (some 99) rfl rfl Tryd.func30 (by kernel_rfl) rfl #[.string x9_3, .string t415] rfl (by (try simp only [List.map_toArray, List.map_cons, List.map_nil]); first | done | rfl | (simp only [List.length_drop, List.length_take]; rfl)) ?_; (with_reducible refine (target_Resolve.calls x9_3 t415 t416 t417 _ A41.out ?hGG).mono ?_); (case hGG => exact GG_below HGG.out (by repeat (first | (with_reducible first | exact HB.out | apply below_alloc | apply pw_below_drewN | apply below_drew1) | exact HB.out))); rintro e w55 ⟨rfl, hb⟩; refine ⟨_, rfl, ?_⟩; have n0_ := Aside0.mk (below_step (by repeat (first | (with_reducible first | exact HB.out | apply below_alloc | apply pw_below_drewN | apply below_drew1) | exact HB.out)) hb); clear HB; have HB := n0_; clear n0_; (try clear hb); (try clear hb2); (try clear hk); (try clear hi)) | (go_at_call 27; (with_reducible refine (path_Under.calls (⟨#[]⟩ : ByteArray) t405 false _ A46.out).mono ?_); rintro e w' ⟨rfl, ⟨nd, rfl⟩⟩))
                      all_goals (go_ret; exact ⟨by first | rfl | (simp [errW_none, errW_some] <;> rfl) | (simp [*, errW_none, errW_some] <;> rfl), by repeat (first | (with_reducible first | exact HB.out | apply below_alloc | apply pw_below_drewN | apply below_drew1) | exact HB.out)⟩)
                    ·rw [if_neg c45] at H
                     have c45b0 : (t416.toList == t405.toList) = false := beq_eq_false_iff_ne.mpr c45
                     have c45b1 : (t416.toList != t405.toList) = true := bne_iff_ne.mpr c45
                     obtain rfl := Option.some.inj H
                     go_wp2_with (first | ((with_reducible refine gate_callee (f := 33) rfl ?_); refine goesL_ (some 90) rfl rfl Tryd.func33 (by kernel_rfl) rfl #[.string t405, .string x9_3] rfl (by (try simp only [List.map_toArray, List.map_cons, List.map_nil]); first | done | rfl | (simp only [List.length_drop, List.length_take]; rfl)) ?_; (with_reducible refine (target_Relative.calls kj22 t405 x9_3 t412 _ A38.out).mono ?_); rintro e w56 ⟨rfl, hb⟩; refine ⟨_, rfl, ?_⟩; have n0_ := Aside0.mk (below_step (by repeat (first | (with_reducible first | exact HB.out | apply below_alloc | apply pw_below_drewN | apply below_drew1) | exact HB.out)) hb); clear HB; have HB := n0_; clear n0_; (try clear hb); (try clear hb2); (try clear hk); (try clear hi)) | ((with_reducible refine gate_callee (f := 30) rfl ?_); refine goesL_ (some 91) rfl rfl Tryd.func30 (by kernel_rfl) rfl #[.string t405, .string t412] rfl (by (try simp only [List.map_toArray, List.map_cons, List.map_nil]); first | done | rfl | (simp only [List.length_drop, List.length_take]; rfl)) ?_; (with_reducible refine (target_Resolve.calls t405 t412 t413 t414 _ A39.out ?hGG).mono ?_); (case hGG => exact GG_below HGG.out (by repeat (first | (with_reducible first | exact HB.out | apply below_alloc | apply pw_below_drewN | apply below_drew1) | exact HB.out))); rintro e w57 ⟨rfl, hb⟩; refine ⟨_, rfl, ?_⟩; have n0_ := Aside0.mk (below_step (by repeat (first | (with_reducible first | exact HB.out | apply below_alloc | apply pw_below_drewN | apply below_drew1) | exact HB.out)) hb); clear HB; have HB := n0_; clear n0_; (try clear hb); (try clear hb2); (try clear hk); (try clear hi)) | ((with_reducible refine gate_callee (f := 33) rfl ?_); refine goesL_ (some 98) rfl rfl Tryd.func33 (by kernel_rfl) rfl #[.string x9_3, .string t405] rfl (by (try simp only [List.map_toArray, List.map_cons, List.map_nil]); first | done | rfl | (simp only [List.length_drop, List.length_take]; rfl)) ?_; (with_reducible refine (target_Relative.calls kj22 x9_3 t405 t415 _ A40.out).mono ?_); rintro e w58 ⟨rfl, hb⟩; refine ⟨_, rfl, ?_⟩; have n0_ := Aside0.mk (below_step (by repeat (first | (with_reducible first | exact HB.out | apply below_alloc | apply pw_below_drewN | apply below_drew1) | exact HB.out)) hb); clear HB; have HB := n0_; clear n0_; (try clear hb); (try clear hb2); (try clear hk); (try clear hi)) | ((with_reducible refine gate_callee (f := 30) rfl ?_); refine goesL_ (some 99) rfl rfl Tryd.func30 (by kernel_rfl) rfl #[.string x9_3, .string t415] rfl (by (try simp only [List.map_toArray, List.map_cons, List.map_nil]); first | done | rfl | (simp only [List.length_drop, List.length_take]; rfl)) ?_; (with_reducible refine (target_Resolve.calls x9_3 t415 t416 t417 _ A41.out ?hGG).mono ?_); (case hGG => exact GG_below HGG.out (by repeat (first | (with_reducible first | exact HB.out | apply below_alloc | apply pw_below_drewN | apply below_drew1) | exact HB.out))); rintro e w59 ⟨rfl, hb⟩; refine ⟨_, rfl, ?_⟩; have n0_ := Aside0.mk (below_step (by repeat (first | (with_reducible first | exact HB.out | apply below_alloc | apply pw_below_drewN | apply below_drew1) | exact HB.out)) hb); clear HB; have HB := n0_; clear n0_; (try clear hb); (try clear hb2); (try clear hk); (try clear hi)))
                     all_goals (go_ret; exact ⟨by first | rfl | (simp [errW_none, errW_some] <;> rfl) | (simp [*, errW_none, errW_some] <;> rfl), by repeat (first | (with_reducible first | exact HB.out | apply below_alloc | apply pw_below_drewN | apply below_drew1) | exact HB.out)⟩)
                   ·rw [if_neg c44] at H
                    have c44b0 : (t417 == 0) = false := beq_eq_false_iff_ne.mpr c44
                    have c44b1 : (t417 != 0) = true := bne_iff_ne.mpr c44
                    obtain rfl := Option.some.inj H
                    go_wp2_with (first | ((with_reducible refine gate_callee (f := 33) rfl ?_); refine goesL_ (some 90) rfl rfl Tryd.func33 (by kernel_rfl) rfl #[.string t405, .string x9_3] rfl (by (try simp only [List.map_toArray, List.map_cons, List.map_nil]); first | done | rfl | (simp only [List.length_drop, List.length_take]; rfl)) ?_; (with_reducible refine (target_Relative.calls kj22 t405 x9_3 t412 _ A38.out).mono ?_); rintro e w60 ⟨rfl, hb⟩; refine ⟨_, rfl, ?_⟩; have n0_ := Aside0.mk (below_step (by repeat (first | (with_reducible first | exact HB.out | apply below_alloc | apply pw_below_drewN | apply below_drew1) | exact HB.out)) hb); clear HB; have HB := n0_; clear n0_; (try clear hb); (try clear hb2); (try clear hk); (try clear hi)) | ((with_reducible refine gate_callee (f := 30) rfl ?_); refine goesL_ (some 91) rfl rfl Tryd.func30 (by kernel_rfl) rfl #[.string t405, .string t412] rfl (by (try simp only [List.map_toArray, List.map_cons, List.map_nil]); first | done | rfl | (simp only [List.length_drop, List.length_take]; rfl)) ?_; (with_reducible refine (target_Resolve.calls t405 t412 t413 t414 _ A39.out ?hGG).mono ?_); (case hGG => exact GG_below HGG.out (by repeat (first | (with_reducible first | exact HB.out | apply below_alloc | apply pw_below_drewN | apply below_drew1) | exact HB.out))); rintro e w61 ⟨rfl, hb⟩; refine ⟨_, rfl, ?_⟩; have n0_ := Aside0.mk (below_step (by repeat (first | (with_reducible first | exact HB.out | apply below_alloc | apply pw_below_drewN | apply below_drew1) | exact HB.out)) hb); clear HB; have HB := n0_; clear n0_; (try clear hb); (try clear hb2); (try clear hk); (try clear hi)) | ((with_reducible refine gate_callee (f := 33) rfl ?_); refine goesL_ (some 98) rfl rfl Tryd.func33 (by kernel_rfl) rfl #[.string x9_3, .string t405] rfl (by (try simp only [List.map_toArray, List.map_cons, List.map_nil]); first | done | rfl | (simp only [List.length_drop, List.length_take]; rfl)) ?_; (with_reducible refine (target_Relative.calls kj22 x9_3 t405 t415 _ A40.out).mono ?_); rintro e w62 ⟨rfl, hb⟩; refine ⟨_, rfl, ?_⟩; have n0_ := Aside0.mk (below_step (by repeat (first | (with_reducible first | exact HB.out | apply below_alloc | apply pw_below_drewN | apply below_drew1) | exact HB.out)) hb); clear HB; have HB := n0_; clear n0_; (try clear hb); (try clear hb2); (try clear hk); (try clear hi)) | ((with_reducible refine gate_callee (f := 30) rfl ?_); refine goesL_ (some 99) rfl rfl Tryd.func30 (by kernel_rfl) rfl #[.string x9_3, .string t415] rfl (by (try simp only [List.map_toArray, List.map_cons, List.map_nil]); first | done | rfl | (simp only [List.length_drop, List.length_take]; rfl)) ?_; (with_reducible refine (target_Resolve.calls x9_3 t415 t416 t417 _ A41.out ?hGG).mono ?_); (case hGG => exact GG_below HGG.out (by repeat (first | (with_reducible first | exact HB.out | apply below_alloc | apply pw_below_drewN | apply below_drew1) | exact HB.out))); rintro e w63 ⟨rfl, hb⟩; refine ⟨_, rfl, ?_⟩; have n0_ := Aside0.mk (below_step (by repeat (first | (with_reducible first | exact HB.out | apply below_alloc | apply pw_below_drewN | apply below_drew1) | exact HB.out)) hb); clear HB; have HB := n0_; clear n0_; (try clear hb); (try clear hb2); (try clear hk); (try clear hi)))
                    all_goals (go_ret; exact ⟨by first | rfl | (simp [errW_none, errW_some] <;> rfl) | (simp [*, errW_none, errW_some] <;> rfl), by repeat (first | (with_reducible first | exact HB.out | apply below_alloc | apply pw_below_drewN | apply below_drew1) | exact HB.out)⟩)
                  ·rw [if_neg c43] at H
                   have c43b0 : (t413.toList == x9_3.toList) = false := beq_eq_false_iff_ne.mpr c43
                   have c43b1 : (t413.toList != x9_3.toList) = true := bne_iff_ne.mpr c43
                   obtain rfl := Option.some.inj H
                   go_wp2_with (first | ((with_reducible refine gate_callee (f := 33) rfl ?_); refine goesL_ (some 90) rfl rfl Tryd.func33 (by kernel_rfl) rfl #[.string t405, .string x9_3] rfl (by (try simp only [List.map_toArray, List.map_cons, List.map_nil]); first | done | rfl | (simp only [List.length_drop, List.length_take]; rfl)) ?_; (with_reducible refine (target_Relative.calls kj22 t405 x9_3 t412 _ A38.out).mono ?_); rintro e w64 ⟨rfl, hb⟩; refine ⟨_, rfl, ?_⟩; have n0_ := Aside0.mk (below_step (by repeat (first | (with_reducible first | exact HB.out | apply below_alloc | apply pw_below_drewN | apply below_drew1) | exact HB.out)) hb); clear HB; have HB := n0_; clear n0_; (try clear hb); (try clear hb2); (try clear hk); (try clear hi)) | ((with_reducible refine gate_callee (f := 30) rfl ?_); refine goesL_ (some 91) rfl rfl Tryd.func30 (by kernel_rfl) rfl #[.string t405, .string t412] rfl (by (try simp only [List.map_toArray, List.map_cons, List.map_nil]); first | done | rfl | (simp only [List.length_drop, List.length_take]; rfl)) ?_; (with_reducible refine (target_Resolve.calls t405 t412 t413 t414 _ A39.out ?hGG).mono ?_); (case hGG => exact GG_below HGG.out (by repeat (first | (with_reducible first | exact HB.out | apply below_alloc | apply pw_below_drewN | apply below_drew1) | exact HB.out))); rintro e w65 ⟨rfl, hb⟩; refine ⟨_, rfl, ?_⟩; have n0_ := Aside0.mk (below_step (by repeat (first | (with_reducible first | exact HB.out | apply below_alloc | apply pw_below_drewN | apply below_drew1) | exact HB.out)) hb); clear HB; have HB := n0_; clear n0_; (try clear hb); (try clear hb2); (try clear hk); (try clear hi)) | ((with_reducible refine gate_callee (f := 33) rfl ?_); refine goesL_ (some 98) rfl rfl Tryd.func33 (by kernel_rfl) rfl #[.string x9_3, .string t405] rfl (by (try simp only [List.map_toArray, List.map_cons, List.map_nil]); first | done | rfl | (simp only [List.length_drop, List.length_take]; rfl)) ?_; (with_reducible refine (target_Relative.calls kj22 x9_3 t405 t415 _ A40.out).mono ?_); rintro e w66 ⟨rfl, hb⟩; refine ⟨_, rfl, ?_⟩; have n0_ := Aside0.mk (below_step (by repeat (first | (with_reducible first | exact HB.out | apply below_alloc | apply pw_below_drewN | apply below_drew1) | exact HB.out)) hb); clear HB; have HB := n0_; clear n0_; (try clear hb); (try clear hb2); (try clear hk); (try clear hi)) | ((with_reducible refine gate_callee (f := 30) rfl ?_); refine goesL_ (some 99) rfl rfl Tryd.func30 (by kernel_rfl) rfl #[.string x9_3, .string t415] rfl (by (try simp only [List.map_toArray, List.map_cons, List.map_nil]); first | done | rfl | (simp only [List.length_drop, List.length_take]; rfl)) ?_; (with_reducible refine (target_Resolve.calls x9_3 t415 t416 t417 _ A41.out ?hGG).mono ?_); (case hGG => exact GG_below HGG.out (by repeat (first | (with_reducible first | exact HB.out | apply below_alloc | apply pw_below_drewN | apply below_drew1) | exact HB.out))); rintro e w67 ⟨rfl, hb⟩; refine ⟨_, rfl, ?_⟩; have n0_ := Aside0.mk (below_step (by repeat (first | (with_reducible first | exact HB.out | apply below_alloc | apply pw_below_drewN | apply below_drew1) | exact HB.out)) hb); clear HB; have HB := n0_; clear n0_; (try clear hb); (try clear hb2); (try clear hk); (try clear hi)))
                   all_goals (go_ret; exact ⟨by first | rfl | (simp [errW_none, errW_some] <;> rfl) | (simp [*, errW_none, errW_some] <;> rfl), by repeat (first | (with_reducible first | exact HB.out | apply below_alloc | apply pw_below_drewN | apply below_drew1) | exact HB.out)⟩)
                 ·rw [if_neg c42] at H
                  have c42b0 : (t414 == 0) = false := beq_eq_false_iff_ne.mpr c42
                  have c42b1 : (t414 != 0) = true := bne_iff_ne.mpr c42
                  obtain rfl := Option.some.inj H
                  go_wp2_with (first | ((with_reducible refine gate_callee (f := 33) rfl ?_); refine goesL_ (some 90) rfl rfl Tryd.func33 (by kernel_rfl) rfl #[.string t405, .string x9_3] rfl (by (try simp only [List.map_toArray, List.map_cons, List.map_nil]); first | done | rfl | (simp only [List.length_drop, List.length_take]; rfl)) ?_; (with_reducible refine (target_Relative.calls kj22 t405 x9_3 t412 _ A38.out).mono ?_); rintro e w68 ⟨rfl, hb⟩; refine ⟨_, rfl, ?_⟩; have n0_ := Aside0.mk (below_step (by repeat (first | (with_reducible first | exact HB.out | apply below_alloc | apply pw_below_drewN | apply below_drew1) | exact HB.out)) hb); clear HB; have HB := n0_; clear n0_; (try clear hb); (try clear hb2); (try clear hk); (try clear hi)) | ((with_reducible refine gate_callee (f := 30) rfl ?_); refine goesL_ (some 91) rfl rfl Tryd.func30 (by kernel_rfl) rfl #[.string t405, .string t412] rfl (by (try simp only [List.map_toArray, List.map_cons, List.map_nil]); first | done | rfl | (simp only [List.length_drop, List.length_take]; rfl)) ?_; (with_reducible refine (target_Resolve.calls t405 t412 t413 t414 _ A39.out ?hGG).mono ?_); (case hGG => exact GG_below HGG.out (by repeat (first | (with_reducible first | exact HB.out | apply below_alloc | apply pw_below_drewN | apply below_drew1) | exact HB.out))); rintro e w69 ⟨rfl, hb⟩; refine ⟨_, rfl, ?_⟩; have n0_ := Aside0.mk (below_step (by repeat (first | (with_reducible first | exact HB.out | apply below_alloc | apply pw_below_drewN | apply below_drew1) | exact HB.out)) hb); clear HB; have HB := n0_; clear n0_; (try clear hb); (try clear hb2); (try clear hk); (try clear hi)) | ((with_reducible refine gate_callee (f := 33) rfl ?_); refine goesL_ (some 98) rfl rfl Tryd.func33 (by kernel_rfl) rfl #[.string x9_3, .string t405] rfl (by (try simp only [List.map_toArray, List.map_cons, List.map_nil]); first | done | rfl | (simp only [List.length_drop, List.length_take]; rfl)) ?_; (with_reducible refine (target_Relative.calls kj22 x9_3 t405 t415 _ A40.out).mono ?_); rintro e w70 ⟨rfl, hb⟩; refine ⟨_, rfl, ?_⟩; have n0_ := Aside0.mk (below_step (by repeat (first | (with_reducible first | exact HB.out | apply below_alloc | apply pw_below_drewN | apply below_drew1) | exact HB.out)) hb); clear HB; have HB := n0_; clear n0_; (try clear hb); (try clear hb2); (try clear hk); (try clear hi)) | ((with_reducible refine gate_callee (f := 30) rfl ?_); refine goesL_ (some 99) rfl rfl Tryd.func30 (by kernel_rfl) rfl #[.string x9_3, .string t415] rfl (by (try simp only [List.map_toArray, List.map_cons, List.map_nil]); first | done | rfl | (simp only [List.length_drop, List.length_take]; rfl)) ?_; (with_reducible refine (target_Resolve.calls x9_3 t415 t416 t417 _ A41.out ?hGG).mono ?_); (case hGG => exact GG_below HGG.out (by repeat (first | (with_reducible first | exact HB.out | apply below_alloc | apply pw_below_drewN | apply below_drew1) | exact HB.out))); rintro e w71 ⟨rfl, hb⟩; refine ⟨_, rfl, ?_⟩; have n0_ := Aside0.mk (below_step (by repeat (first | (with_reducible first | exact HB.out | apply below_alloc | apply pw_below_drewN | apply below_drew1) | exact HB.out)) hb); clear HB; have HB := n0_; clear n0_; (try clear hb); (try clear hb2); (try clear hk); (try clear hi)))
                  all_goals (go_ret; exact ⟨by first | rfl | (simp [errW_none, errW_some] <;> rfl) | (simp [*, errW_none, errW_some] <;> rfl), by repeat (first | (with_reducible first | exact HB.out | apply below_alloc | apply pw_below_drewN | apply below_drew1) | exact HB.out)⟩)
             ·rw [if_neg c22] at H
              have c22b0 : (t406 == 0) = false := beq_eq_false_iff_ne.mpr c22
              have c22b1 : (t406 != 0) = true := bne_iff_ne.mpr c22
              by_cases c72 : t405.toList = ([] : List UInt8)
              ·rw [if_pos c72] at H
               have c72b0 : (t405.toList == ([] : List UInt8)) = true := beq_iff_eq.mpr c72
               have c72b2 : (t405.toList).isEmpty = true := List.isEmpty_iff.mpr c72
               have c72b4 : (!(t405.toList).isEmpty) = false := by rw [c72b2]; rfl
               have c72b1 : (t405.toList != ([] : List UInt8)) = false := bne_eq_false_iff_eq.mpr c72
               clear c72
               have H' := Aside0.mk H
               clear H
               have p404 : 0 ≤ (x51_3 : Int) := of_decide_eq_true (by first | (with_reducible assumption) | assumption)
               have q404 : x51_3 < (l1.length : Int) := of_decide_eq_true (by first | (with_reducible assumption) | assumption)
               obtain ⟨ad404, e404, hx404_0⟩ := Kd.at_string HR1.out x51_3 p404 q404
               cases e404
               replace hx404_0 := (HB.out.cell (World.block_lt_of_cell? w _ hx404_0)).trans hx404_0
               replace p404 := eq_true p404
               replace q404 := eq_true q404
               go_wp2_with (first | ((with_reducible refine gate_callee (f := 30) rfl ?_); refine goesL_ (some 61) rfl rfl Tryd.func30 (by kernel_rfl) rfl #[.string x9_3, .string (rdOf ByteArray.empty l1 x51_3)] rfl (by (try simp only [List.map_toArray, List.map_cons, List.map_nil]); first | done | rfl | (simp only [List.length_drop, List.length_take]; rfl)) ?_; (with_reducible refine (target_Resolve.calls x9_3 (rdOf ByteArray.empty l1 x51_3) t405 t406 _ A21.out ?hGG).mono ?_); (case hGG => exact GG_below HGG.out (by repeat (first | (with_reducible first | exact HB.out | apply below_alloc | apply pw_below_drewN | apply below_drew1) | exact HB.out))); rintro e w73 ⟨rfl, hb⟩; refine ⟨_, rfl, ?_⟩; have n0_ := Aside0.mk (below_step (by repeat (first | (with_reducible first | exact HB.out | apply below_alloc | apply pw_below_drewN | apply below_drew1) | exact HB.out)) hb); clear HB; have HB := n0_; clear n0_; (try clear hb); (try clear hb2); (try clear hk); (try clear hi)))
               go_roundg k3
               case measure => have := HJ3.out; have := HJ8.out; have := HK3.out; omega
               case rel => exact ⟨(x9_3), (wrap64 (x51_3 + 1)), (by first | rfl | (simp; done) | (simp [*]; done)), (by first | rfl | (simp; done) | (simp [*]; done)), H', ⟨by have := HJ3.out; have := HJ8.out; have := HK3.out; omega⟩, ⟨by repeat (first | (with_reducible first | exact HB.out | apply below_alloc | apply pw_below_drewN | apply below_drew1) | exact HB.out)⟩⟩
              ·rw [if_neg c72] at H
               have c72b0 : (t405.toList == ([] : List UInt8)) = false := beq_eq_false_iff_ne.mpr c72
               have c72b2 : (t405.toList).isEmpty = false := List.isEmpty_eq_false_iff.mpr c72
               have c72b4 : (!(t405.toList).isEmpty) = true := by rw [c72b2]; rfl
               have c72b1 : (t405.toList != ([] : List UInt8)) = true := bne_iff_ne.mpr c72
               obtain rfl := Option.some.inj H
               have p404 : 0 ≤ (x51_3 : Int) := of_decide_eq_true (by first | (with_reducible assumption) | assumption)
               have q404 : x51_3 < (l1.length : Int) := of_decide_eq_true (by first | (with_reducible assumption) | assumption)
               obtain ⟨ad404, e404, hx404_0⟩ := Kd.at_string HR1.out x51_3 p404 q404
               cases e404
               replace hx404_0 := (HB.out.cell (World.block_lt_of_cell? w _ hx404_0)).trans hx404_0
               replace p404 := eq_true p404
               replace q404 := eq_true q404
               go_wp2_with (first | ((with_reducible refine gate_callee (f := 30) rfl ?_); refine goesL_ (some 61) rfl rfl Tryd.func30 (by kernel_rfl) rfl #[.string x9_3, .string (rdOf ByteArray.empty l1 x51_3)] rfl (by (try simp only [List.map_toArray, List.map_cons, List.map_nil]); first | done | rfl | (simp only [List.length_drop, List.length_take]; rfl)) ?_; (with_reducible refine (target_Resolve.calls x9_3 (rdOf ByteArray.empty l1 x51_3) t405 t406 _ A21.out ?hGG).mono ?_); (case hGG => exact GG_below HGG.out (by repeat (first | (with_reducible first | exact HB.out | apply below_alloc | apply pw_below_drewN | apply below_drew1) | exact HB.out))); rintro e w74 ⟨rfl, hb⟩; refine ⟨_, rfl, ?_⟩; have n0_ := Aside0.mk (below_step (by repeat (first | (with_reducible first | exact HB.out | apply below_alloc | apply pw_below_drewN | apply below_drew1) | exact HB.out)) hb); clear HB; have HB := n0_; clear n0_; (try clear hb); (try clear hb2); (try clear hk); (try clear hi)))
               all_goals (go_ret; exact ⟨by first | rfl | (simp [errW_none, errW_some] <;> rfl) | (simp [*, errW_none, errW_some] <;> rfl), by repeat (first | (with_reducible first | exact HB.out | apply below_alloc | apply pw_below_drewN | apply below_drew1) | exact HB.out)⟩)
           ·rw [if_neg c19] at H
            exact absurd H (by simp)
          ·rw [if_neg c18] at H
           exact absurd H (by simp)
         ·rw [if_neg c17] at H
          have c17b0 : decide (x51_3 < (l1.length : Int)) = false := decide_eq_false c17
          clear c17
          obtain rfl := Option.some.inj H
          go_wp2
          all_goals (go_ret; exact ⟨by first | rfl | (simp [errW_none, errW_some] <;> rfl) | (simp [*, errW_none, errW_some] <;> rfl), by repeat (first | (with_reducible first | exact HB.out | apply below_alloc | apply pw_below_drewN | apply below_drew1) | exact HB.out)⟩)
/-- THE ONE PURE STATEMENT of panniertop_WholeInside. -/
def panniertop_WholeInside.Pure : Prop := ∀ (a0 : ByteArray) (l1 : List ByteArray), a0.size ≤ 140737488351232 → l1.length ≤ 9223372036854775807 → (∀ x ∈ l1, x.size ≤ 9223372036854775807) → ∃ k, panniertop_WholeInside.f k a0 l1 = some true

end Go.Proofs.YtcfhijegmmdpkaaDoor.XA
