-- Written by a program of this session (wip/tools/xprint.py) out of the translation's print. Lean checks it.
import Derived.Test.YteeofjlohaeinaaXA0
import Derived.Test.YteeofjlohaeinaaXA11
import Derived.Test.YteeofjlohaeinaaESums
namespace Go.Proofs.Yteeofjlohaeinaa.XA
open Go.RowKit Go.Proofs.YteeofjlohaeinaaW.PrintWords Go.Proofs.YteeofjlohaeinaaW.PrintLast Go.Proofs.YteeofjlohaeinaaW.PrintMore
attribute [local go_sem] max2_int min2_int max_two min_two max_three min_three max_four min_four   -- for this text's walks alone
set_option linter.unusedVariables false
set_option linter.unusedSimpArgs false

/-! ### pannierlaw05_SumAdds: function 12 -/
mutual
def pannierlaw05_SumAdds.j0 : Nat → List Int → Int → Int → Bool → Option (Bool)
  | 0, _, _, _, _ => none
  | k + 1, x0, x1, x2, x32 => if x32 = true then (some true) else ((some (([] : List Int) : List Int)).bind fun y295 => (if y295.length + x0.length < 140737488355328 then ((some (y295 ++ x0 : List Int)).bind fun y298 => (if 0 ≤ x1 then (if x1 < (y298.length : Int) then ((some (y298.set (x1 : Int).toNat (((rd y298 x1) + x2) % 256) : List Int)).bind fun y302 => ((sum_Plain.f x0).bind fun t303 => (if x1 ≥ 148 then (pannierlaw05_SumAdds.j1 k x0 y302 (wrap64 (t303 + (wrap64 (x2)))) (decide (x1 < 156))) else (pannierlaw05_SumAdds.j1 k x0 y302 (wrap64 (t303 + (wrap64 (x2)))) false)))) else (none)) else (none))) else (none)))
def pannierlaw05_SumAdds.j1 : Nat → List Int → List Int → Int → Bool → Option (Bool)
  | 0, _, _, _, _ => none
  | k + 1, x0, x7, x8, x53 => if x53 = true then ((sum_Plain.f x7).bind fun t304 => ((sum_Plain.f x0).bind fun t305 => (if t304 = t305 then ((sum_Signed.f x7).bind fun t306 => ((sum_Signed.f x0).bind fun t307 => (some (t306 == t307)))) else (some false)))) else ((sum_Plain.f x7).bind fun t308 => (if t308 = x8 then ((sum_Plain.f x7).bind fun t309 => ((sum_Signed.f x7).bind fun t310 => (if (Int.tmod (wrap64 (t309 - t310)) 256) = 0 then ((sum_Signed.f x7).bind fun t311 => ((sum_Plain.f x7).bind fun t312 => (some (decide (t311 ≤ t312))))) else (some false)))) else (some false)))
end
def pannierlaw05_SumAdds.f (k : Nat) (l0 : List Int) (a1 : Int) (a2 : Int) : Option (Bool) := (pannierlaw05_sums.f k).bind fun t293 => (if t293 = true then (if (l0.length : Int) > 2000 then (pannierlaw05_SumAdds.j0 k l0 a1 a2 true) else (if a1 < 0 then (pannierlaw05_SumAdds.j0 k l0 a1 a2 true) else (if a1 ≥ (l0.length : Int) then (pannierlaw05_SumAdds.j0 k l0 a1 a2 true) else (if 0 ≤ a1 then (if a1 < (l0.length : Int) then (pannierlaw05_SumAdds.j0 k l0 a1 a2 (decide ((rd l0 a1) > ((255 - a2) % 256)))) else (none)) else (none))))) else (some false))
theorem pannierlaw05_SumAdds.mono_l : ∀ k, (∀ y0 y1 y2 y3, LeO (pannierlaw05_SumAdds.j0 k y0 y1 y2 y3) (pannierlaw05_SumAdds.j0 (k + 1) y0 y1 y2 y3)) ∧ (∀ y0 y1 y2 y3, LeO (pannierlaw05_SumAdds.j1 k y0 y1 y2 y3) (pannierlaw05_SumAdds.j1 (k + 1) y0 y1 y2 y3))
  | 0 => ⟨fun _ _ _ _ r h => by simp [pannierlaw05_SumAdds.j0] at h, fun _ _ _ _ r h => by simp [pannierlaw05_SumAdds.j1] at h⟩
  | k + 1 => by
    obtain ⟨ih0, ih1⟩ := pannierlaw05_SumAdds.mono_l k
    refine ⟨?_, ?_⟩
    · intro y0 y1 y2 y3
      unfold pannierlaw05_SumAdds.j0
      repeat' first
      | (with_reducible exact ih0 _ _ _ _)
      | (with_reducible exact ih1 _ _ _ _)
      | (with_reducible exact pannierlaw05_sums.mono _)
      | (with_reducible exact LeO.refl _)
      | (with_reducible exact LeO.none _)
      | (with_reducible refine LeO.ite ?_ ?_)
      | (with_reducible refine LeO.bind ?_ (fun _ => ?_))
      | exact ih0 _ _ _ _
      | exact ih1 _ _ _ _
      | exact pannierlaw05_sums.mono _
      | exact LeO.none _
      | refine LeO.ite ?_ ?_
      | refine LeO.bind ?_ (fun _ => ?_)
    · intro y0 y1 y2 y3
      unfold pannierlaw05_SumAdds.j1
      repeat' first
      | (with_reducible exact ih0 _ _ _ _)
      | (with_reducible exact ih1 _ _ _ _)
      | (with_reducible exact pannierlaw05_sums.mono _)
      | (with_reducible exact LeO.refl _)
      | (with_reducible exact LeO.none _)
      | (with_reducible refine LeO.ite ?_ ?_)
      | (with_reducible refine LeO.bind ?_ (fun _ => ?_))
      | exact ih0 _ _ _ _
      | exact ih1 _ _ _ _
      | exact pannierlaw05_sums.mono _
      | exact LeO.none _
      | refine LeO.ite ?_ ?_
      | refine LeO.bind ?_ (fun _ => ?_)
theorem pannierlaw05_SumAdds.mono : ∀ a0 a1 a2 k, LeO (pannierlaw05_SumAdds.f k a0 a1 a2) (pannierlaw05_SumAdds.f (k + 1) a0 a1 a2) := by
  intro a0 a1 a2 k
  obtain ⟨ih0, ih1⟩ := pannierlaw05_SumAdds.mono_l k
  unfold pannierlaw05_SumAdds.f
  repeat' first
      | (with_reducible exact ih0 _ _ _ _)
      | (with_reducible exact ih1 _ _ _ _)
      | (with_reducible exact pannierlaw05_sums.mono _)
      | (with_reducible exact LeO.refl _)
      | (with_reducible exact LeO.none _)
      | (with_reducible refine LeO.ite ?_ ?_)
      | (with_reducible refine LeO.bind ?_ (fun _ => ?_))
      | exact ih0 _ _ _ _
      | exact ih1 _ _ _ _
      | exact pannierlaw05_sums.mono _
      | exact LeO.none _
      | refine LeO.ite ?_ ?_
      | refine LeO.bind ?_ (fun _ => ?_)
set_option maxHeartbeats 8000000 in
set_option maxRecDepth 100000 in
theorem pannierlaw05_SumAdds.calls (k : Nat) (A0 : Option Addr) (c0 : Nat) (l0 : List Int) (a1 : Int) (a2 : Int) (r : Bool) (w : World) (hr0 : Kd.C (Kd.int .u8) w A0 l0.length l0) (hc0 : l0.length ≤ c0) (h : pannierlaw05_SumAdds.f k l0 a1 a2 = some r) :
    Calls Try.prog 12 #[.slice A0 l0.length c0, .int .i64 a1, .int .u8 a2] w fun e w' => e = .returned (.bool r) ∧ Below w.heap.size w w' := by
  have HR0 := Aside0.mk hr0
  have HC0 := Aside0.mk hc0
  clear hr0 hc0
  have HB := Aside0.mk (Below.refl w.heap.size w)
  have H : ((pannierlaw05_sums.f k).bind fun t293 => (if t293 = true then (if (l0.length : Int) > 2000 then (pannierlaw05_SumAdds.j0 k l0 a1 a2 true) else (if a1 < 0 then (pannierlaw05_SumAdds.j0 k l0 a1 a2 true) else (if a1 ≥ (l0.length : Int) then (pannierlaw05_SumAdds.j0 k l0 a1 a2 true) else (if 0 ≤ a1 then (if a1 < (l0.length : Int) then (pannierlaw05_SumAdds.j0 k l0 a1 a2 (decide ((rd l0 a1) > ((255 - a2) % 256)))) else (none)) else (none))))) else (some false))) = some r := h
  clear h
  replace H := Option.bind_eq_some_iff.mp H
  obtain ⟨t293, A40, H⟩ := H
  replace H : (if t293 = true then (if (l0.length : Int) > 2000 then (pannierlaw05_SumAdds.j0 k l0 a1 a2 true) else (if a1 < 0 then (pannierlaw05_SumAdds.j0 k l0 a1 a2 true) else (if a1 ≥ (l0.length : Int) then (pannierlaw05_SumAdds.j0 k l0 a1 a2 true) else (if 0 ≤ a1 then (if a1 < (l0.length : Int) then (pannierlaw05_SumAdds.j0 k l0 a1 a2 (decide ((rd l0 a1) > ((255 - a2) % 256)))) else (none)) else (none))))) else (some false)) = some r := H
  have A4 := Aside0.mk A40
  clear A40
  by_cases c5 : t293 = true
  · subst c5
    have H1 : (if (l0.length : Int) > 2000 then (pannierlaw05_SumAdds.j0 k l0 a1 a2 true) else (if a1 < 0 then (pannierlaw05_SumAdds.j0 k l0 a1 a2 true) else (if a1 ≥ (l0.length : Int) then (pannierlaw05_SumAdds.j0 k l0 a1 a2 true) else (if 0 ≤ a1 then (if a1 < (l0.length : Int) then (pannierlaw05_SumAdds.j0 k l0 a1 a2 (decide ((rd l0 a1) > ((255 - a2) % 256)))) else (none)) else (none))))) = some r := by rw [if_pos rfl] at H; exact H
    clear H
    have H := H1
    clear H1
    have HC6 := Aside0.mk H
    clear H
    go_enter Try.func12, Try.ntmps12
    go_upto_region 3 with (first | ((with_reducible refine gate_callee (f := 22) rfl ?_); refine goesL_ (some 9) rfl rfl Try.func22 (by kernel_rfl) rfl #[] rfl (by (try simp only [List.map_toArray, List.map_cons, List.map_nil]); first | done | rfl | (simp only [List.length_drop, List.length_take]; rfl)) ?_; (with_reducible refine (pannierlaw05_sums.calls k  true _ A4.out).mono ?_); rintro e w7 ⟨rfl, hb⟩; refine ⟨_, rfl, ?_⟩; have n0_ := Aside0.mk (below_step (by repeat (first | (with_reducible first | exact HB.out | apply below_alloc | apply pw_below_drewN | apply below_drew1) | exact HB.out)) hb); clear HB; have HB := n0_; clear n0_; (try clear hb); (try clear hb2); (try clear hk); (try clear hi)))
    (try simp only [Act.put, List.setIfInBounds_toArray, List.set_cons_zero, List.set_cons_succ])
    go_cut [32] (fun v32 wc => ∃ (kq : Nat) (x32_5 : Bool), v32 = .bool x32_5 ∧ Aside0 (pannierlaw05_SumAdds.j0 kq l0 a1 a2 x32_5 = some r) ∧ Aside0 (kq ≤ k) ∧ Aside0 (Below w.heap.size w wc))
    case first =>
      have H := HC6.out
      clear HC6
      by_cases c8 : (l0.length : Int) > 2000
      · rw [if_pos c8] at H
        have c8b0 : decide (2000 < (l0.length : Int)) = true := decide_eq_true c8
        have c8b1 : decide (2000 < l0.length) = true := decide_eq_true (by omega)
        clear c8
        (first | rw [c8b0] | (simp only [i64_w, i32_w]; rw [c8b0]) | skip)
        have H' := Aside0.mk H
        clear H
        go_wp2
        go_meet
        case rel => exact ⟨_, (true), (by first | rfl | (simp; done) | (simp [*]; done)), H', ⟨by first | omega | exact Nat.le_refl _⟩, ⟨by repeat (first | (with_reducible first | exact HB.out | apply below_alloc | apply pw_below_drewN | apply below_drew1) | exact HB.out)⟩⟩
      · rw [if_neg c8] at H
        have c8b0 : decide (2000 < (l0.length : Int)) = false := decide_eq_false c8
        have c8b1 : decide (2000 < l0.length) = false := decide_eq_false (by omega)
        clear c8
        (first | rw [c8b0] | (simp only [i64_w, i32_w]; rw [c8b0]) | skip)
        by_cases c9 : a1 < 0
        · rw [if_pos c9] at H
          have c9b0 : decide (a1 < 0) = true := decide_eq_true c9
          clear c9
          have H' := Aside0.mk H
          clear H
          go_wp2
          go_meet
          case rel => exact ⟨_, (true), (by first | rfl | (simp; done) | (simp [*]; done)), H', ⟨by first | omega | exact Nat.le_refl _⟩, ⟨by repeat (first | (with_reducible first | exact HB.out | apply below_alloc | apply pw_below_drewN | apply below_drew1) | exact HB.out)⟩⟩
        · rw [if_neg c9] at H
          have c9b0 : decide (a1 < 0) = false := decide_eq_false c9
          clear c9
          by_cases c10 : a1 ≥ (l0.length : Int)
          · rw [if_pos c10] at H
            have c10b0 : decide ((l0.length : Int) ≤ a1) = true := decide_eq_true c10
            clear c10
            have H' := Aside0.mk H
            clear H
            go_wp2
            go_meet
            case rel => exact ⟨_, (true), (by first | rfl | (simp; done) | (simp [*]; done)), H', ⟨by first | omega | exact Nat.le_refl _⟩, ⟨by repeat (first | (with_reducible first | exact HB.out | apply below_alloc | apply pw_below_drewN | apply below_drew1) | exact HB.out)⟩⟩
          · rw [if_neg c10] at H
            have c10b0 : decide ((l0.length : Int) ≤ a1) = false := decide_eq_false c10
            clear c10
            by_cases c11 : 0 ≤ a1
            · rw [if_pos c11] at H
              have c11b0 : decide (0 ≤ a1) = true := decide_eq_true c11
              clear c11
              by_cases c12 : a1 < (l0.length : Int)
              · rw [if_pos c12] at H
                have c12b0 : decide (a1 < (l0.length : Int)) = true := decide_eq_true c12
                clear c12
                have H' := Aside0.mk H
                clear H
                have p294 : 0 ≤ (a1 : Int) := of_decide_eq_true (by first | (with_reducible assumption) | assumption)
                have q294 : a1 < (l0.length : Int) := of_decide_eq_true (by first | (with_reducible assumption) | assumption)
                obtain ⟨ad294, e294, hx294_0⟩ := Kd.at_int HR0.out a1 p294 q294
                cases e294
                replace hx294_0 := (HB.out.cell (World.block_lt_of_cell? w _ hx294_0)).trans hx294_0
                replace p294 := eq_true p294
                replace q294 := eq_true q294
                go_wp2
                go_meet
                case rel => exact ⟨_, (decide ((rd l0 a1) > ((255 - a2) % 256))), (by first | rfl | (simp; done) | (simp [*]; done)), H', ⟨by first | omega | exact Nat.le_refl _⟩, ⟨by repeat (first | (with_reducible first | exact HB.out | apply below_alloc | apply pw_below_drewN | apply below_drew1) | exact HB.out)⟩⟩
              · rw [if_neg c12] at H
                exact absurd H (by simp)
            · rw [if_neg c11] at H
              exact absurd H (by simp)
    case rest =>
      clear HC6
      try clear c1
      try clear c2
      try clear p2
      try clear q2
      try clear hx2
      try clear c5
      try clear c8
      try clear c8b0
      try clear c8b1
      try clear c9
      try clear c9b0
      try clear c10
      try clear c10b0
      try clear c11
      try clear c11b0
      try clear c12
      try clear c12b0
      try clear hx294_0
      try clear p294
      try clear q294
      obtain ⟨kq, x32_5, rfl, HA, HJ5, HB⟩ := hcut
      cases kq with
      | zero => exact absurd HA.out (by simp [pannierlaw05_SumAdds.j0])
      | succ kj5 =>
        have H := HA.out
        clear HA
        simp only [pannierlaw05_SumAdds.j0] at H
        by_cases c13 : x32_5 = true
        · subst c13
          have H1 : (some true) = some r := by rw [if_pos rfl] at H; exact H
          clear H
          have H := H1
          clear H1
          obtain rfl := Option.some.inj H
          go_wp2
          go_ret
          exact ⟨by first | rfl | (simp [errW_none, errW_some] <;> rfl) | (simp [*, errW_none, errW_some] <;> rfl), by repeat (first | (with_reducible first | exact HB.out | apply below_alloc | apply pw_below_drewN | apply below_drew1) | exact HB.out)⟩
        · replace c13 := Bool.eq_false_iff.mpr c13
          subst c13
          have H1 : ((some (([] : List Int) : List Int)).bind fun y295 => (if y295.length + l0.length < 140737488355328 then ((some (y295 ++ l0 : List Int)).bind fun y298 => (if 0 ≤ a1 then (if a1 < (y298.length : Int) then ((some (y298.set (a1 : Int).toNat (((rd y298 a1) + a2) % 256) : List Int)).bind fun y302 => ((sum_Plain.f l0).bind fun t303 => (if a1 ≥ 148 then (pannierlaw05_SumAdds.j1 kj5 l0 y302 (wrap64 (t303 + (wrap64 (a2)))) (decide (a1 < 156))) else (pannierlaw05_SumAdds.j1 kj5 l0 y302 (wrap64 (t303 + (wrap64 (a2)))) false)))) else (none)) else (none))) else (none))) = some r := by rw [if_neg (show ¬ (false = true) by decide)] at H; exact H
          clear H
          have H := H1
          clear H1
          obtain ⟨y295, hy295⟩ : ∃ y_ : List Int, y_ = (([] : List Int)) := ⟨_, rfl⟩
          replace H : (if y295.length + l0.length < 140737488355328 then ((some (y295 ++ l0 : List Int)).bind fun y298 => (if 0 ≤ a1 then (if a1 < (y298.length : Int) then ((some (y298.set (a1 : Int).toNat (((rd y298 a1) + a2) % 256) : List Int)).bind fun y302 => ((sum_Plain.f l0).bind fun t303 => (if a1 ≥ 148 then (pannierlaw05_SumAdds.j1 kj5 l0 y302 (wrap64 (t303 + (wrap64 (a2)))) (decide (a1 < 156))) else (pannierlaw05_SumAdds.j1 kj5 l0 y302 (wrap64 (t303 + (wrap64 (a2)))) false)))) else (none)) else (none))) else (none)) = some r := by first | (rw [hy295]; with_reducible exact H) | (have H2_ := (Option.bind_some _ _).symm.trans H; rw [hy295]; with_reducible exact H2_) | (have H2_ := (Option.bind_some _ _).symm.trans H; with_reducible exact H2_) | with_reducible exact H | (rw [hy295]; exact H) | exact H
          have Ny295 := Aside0.mk hy295
          clear hy295
          by_cases c14 : y295.length + l0.length < 140737488355328
          · rw [if_pos c14] at H
            have LMc14 := Aside0.mk c14
            clear c14
            obtain ⟨y298, hy298⟩ : ∃ y_ : List Int, y_ = (y295 ++ l0) := ⟨_, rfl⟩
            replace H : (if 0 ≤ a1 then (if a1 < (y298.length : Int) then ((some (y298.set (a1 : Int).toNat (((rd y298 a1) + a2) % 256) : List Int)).bind fun y302 => ((sum_Plain.f l0).bind fun t303 => (if a1 ≥ 148 then (pannierlaw05_SumAdds.j1 kj5 l0 y302 (wrap64 (t303 + (wrap64 (a2)))) (decide (a1 < 156))) else (pannierlaw05_SumAdds.j1 kj5 l0 y302 (wrap64 (t303 + (wrap64 (a2)))) false)))) else (none)) else (none)) = some r := by first | (rw [hy298]; with_reducible exact H) | (have H2_ := (Option.bind_some _ _).symm.trans H; rw [hy298]; with_reducible exact H2_) | (have H2_ := (Option.bind_some _ _).symm.trans H; with_reducible exact H2_) | with_reducible exact H | (rw [hy298]; exact H) | exact H
            have Ny298 := Aside0.mk hy298
            clear hy298
            by_cases c15 : 0 ≤ a1
            · rw [if_pos c15] at H
              have c15b0 : decide (0 ≤ a1) = true := decide_eq_true c15
              clear c15
              by_cases c16 : a1 < (y298.length : Int)
              · rw [if_pos c16] at H
                have c16b0 : decide (a1 < (y298.length : Int)) = true := decide_eq_true c16
                clear c16
                obtain ⟨y302, hy302⟩ : ∃ y_ : List Int, y_ = (y298.set (a1 : Int).toNat (((rd y298 a1) + a2) % 256)) := ⟨_, rfl⟩
                replace H : ((sum_Plain.f l0).bind fun t303 => (if a1 ≥ 148 then (pannierlaw05_SumAdds.j1 kj5 l0 y302 (wrap64 (t303 + (wrap64 (a2)))) (decide (a1 < 156))) else (pannierlaw05_SumAdds.j1 kj5 l0 y302 (wrap64 (t303 + (wrap64 (a2)))) false))) = some r := by first | (rw [hy302]; with_reducible exact H) | (have H2_ := (Option.bind_some _ _).symm.trans H; rw [hy302]; with_reducible exact H2_) | (have H2_ := (Option.bind_some _ _).symm.trans H; with_reducible exact H2_) | with_reducible exact H | (rw [hy302]; exact H) | exact H
                have Ny302 := Aside0.mk hy302
                clear hy302
                replace H := Option.bind_eq_some_iff.mp H
                obtain ⟨t303, A180, H⟩ := H
                replace H : (if a1 ≥ 148 then (pannierlaw05_SumAdds.j1 kj5 l0 y302 (wrap64 (t303 + (wrap64 (a2)))) (decide (a1 < 156))) else (pannierlaw05_SumAdds.j1 kj5 l0 y302 (wrap64 (t303 + (wrap64 (a2)))) false)) = some r := H
                have A18 := Aside0.mk A180
                clear A180
                have HC19 := Aside0.mk H
                clear H
                go_upto_region 8 with (first | ((with_reducible refine gate_dst (N := 33) rfl ?_); (try (refine gate_guard (by rfl) ?_; dsimp only)); refine Kd.R_lit (Kd.int .u8) _ 5 ?hg (N := 33) ?hd (xs := ([] : List Int)) (inner := []) (ok := fun _ => True) (okp := fun _ => True) ?hr ?hp (fun _ hk => hk) trivial (Below.refl _ _) (Nat.le_refl _) (by simp) ?_; (case hd => rfl); (case hg => rfl); (case hr => first | (go_simp; done) | (go_simp; rfl)); (case hp => exact (Reps.none _ _)); intro v296 w20 ho21 hb hg_ hnew_; clear hg_ hnew_; (first | rw [← Ny295.out] at ho21 | (simp only [Int.reduceToNat] at ho21; rw [← Ny295.out] at ho21)); have n0_ := Aside0.mk (Kd.R_lower ho21 (below_size (by repeat (first | (with_reducible first | exact HB.out | apply below_alloc | apply pw_below_drewN | apply below_drew1) | exact HB.out)))); have n1_ := Aside0.mk (below_step (by repeat (first | (with_reducible first | exact HB.out | apply below_alloc | apply pw_below_drewN | apply below_drew1) | exact HB.out)) hb); clear HB; have HO297 := n0_; have HB := n1_; clear n0_ n1_; clear hb ho21) | ((with_reducible refine gate_builtin (b := .append) (xs := #[.tmp 33, .tmp 34]) rfl ?_); (try (refine gate_guard (by rfl) ?_; dsimp only)); at_builtin; refine Kd.R_append_rows (Kd.int .u8) (w0 := w) w.heap.size rfl (.tmp 33) (.tmp 34) 22 5 (.int .u8 0) 1 rfl Try.underlying22 info5 rfl (by decide) (by omega) v296 y295 l0 _ _ _ (fun _ => True) (fun _ => False) rfl rfl ?aO ?aR (fun _ _ h => h) (fun _ h => h.elim) ?aF ?aB ?aS ?aL ?_; (case aR => repeat (first | exact (Kd.C_below HR0.out HB.out) | (with_reducible refine Kd.C_alloc ?_ _) | (with_reducible refine Kd.C_drewN ?_ _) | (with_reducible refine Kd.C_drew ?_))); (case aB => exact (by repeat (first | (with_reducible first | exact HB.out | apply below_alloc | apply pw_below_drewN | apply below_drew1) | exact HB.out))); (case aF => exact (fun _ _ => trivial)); (case aO => exact (by (with_reducible repeat (first | apply Kd.R_alloc | apply Kd.R_drewN | apply Kd.R_drew)); exact HO297.out)); (case aS => exact (below_size (by repeat (first | (with_reducible first | exact HB.out | apply below_alloc | apply pw_below_drewN | apply below_drew1) | exact HB.out)))); (case aL => have := LMc14.out; omega); intro v299 w22 ho hb hg hat; rw [← Ny298.out] at ho; have n0_ := Aside0.mk (hb); have n1_ := Aside0.mk (ho); clear HB; clear HO297; have HB := n0_; have HO300 := n1_; clear n0_ n1_; clear ho hb hg hat; obtain ⟨Ao23, co23, eo23⟩ := Kd.R_slice HO300.out; subst eo23; have p301 : 0 ≤ (a1 : Int) := of_decide_eq_true (by first | (with_reducible assumption) | assumption); have q301 : a1 < (y298.length : Int) := of_decide_eq_true (by first | (with_reducible assumption) | assumption); obtain ⟨ad301, e301, hx301_0⟩ := Kd.at_int (Kd.R_reads' HO300.out).2.2 a1 p301 q301; cases e301; replace p301 := eq_true p301; replace q301 := eq_true q301; have p17 : 0 ≤ (a1 : Int) := of_decide_eq_true (by first | (with_reducible assumption) | assumption); have q17 : (a1 : Int) < ((y298.length : Int) : Int) := of_decide_eq_true (by first | (with_reducible assumption) | assumption); obtain ⟨go17, co17, eo17, gb17, gl17, cl17, HG17⟩ := Kd.R_form HO300.out (by omega); (first | cases eo17 | (injection eo17 with ea_ en_ ec_; (first | subst ea_ | (injection ea_ with ea_; subst ea_)); subst ec_; clear en_)); have GB17 := Aside0.mk gb17; have GG17 := Aside0.mk HG17; clear gb17 gl17 HG17; (first | simp only [add_plain] at hx301_0 | skip); obtain ⟨hx17_0, hf17_0⟩ := Kd.R_celln 0 HO300.out (a1 : Int) p17 q17; replace p17 := eq_true p17; replace q17 := eq_true q17; obtain ⟨hy24_, hz24_⟩ := Kd.R_celln 0 HO300.out (a1 : Int) (of_decide_eq_true (by first | (with_reducible assumption) | assumption)) (of_decide_eq_true (by first | (with_reducible assumption) | assumption)); have HP24 := Kd.R_putg HO300.out (a1 : Int) (((rd y298 a1) + a2) % 256)) | ((with_reducible refine gate_store (t := 5) (p := 42) rfl ?_); refine store_event (t := 5) (p := 42) (v := ?vo_w25) (w1 := (w22.setCell ⟨go17, (a1 : Int).toNat, none⟩ (.int .u8 (((rd y298 a1) + a2) % 256)))) ?hg ?ho ?hn ?hr ?_; (case ho => rfl); (case hg => rfl); (case hn => rfl); (case hr => first | (go_simp; done) | (go_simp; rfl)); intro w25 hw; have hg : w22.grownBy w25 (some go17) := (by rw [hw]; exact HP24.2); have hp_ : Kd.R (Kd.int .u8) 5 w25 w.heap.size (fun _ => True) (.slice (some ⟨go17, 0, none⟩) y298.length co23) y302 := (by rw [hw, Ny302.out]; exact HP24.1); clear HP24; have n0_ := Aside0.mk (hp_); have n1_ := Aside0.mk ((by rw [hw]; exact below_set (HB.out) GB17.out : Below w.heap.size w w25)); clear HO300; clear HB; have HO300 := n0_; have HB := n1_; clear n0_ n1_; clear hg hw hp_) | ((with_reducible refine gate_callee (f := 23) rfl ?_); refine goesL_ (some 44) rfl rfl Try.func23 (by kernel_rfl) rfl #[.slice A0 l0.length c0] rfl (by (try simp only [List.map_toArray, List.map_cons, List.map_nil]); first | done | rfl | (simp only [List.length_drop, List.length_take]; rfl)) ?_; (with_reducible refine (sum_Plain.calls _ _ l0 t303 _ ?side1 ?side2 A18.out).mono ?_); (case side1 => repeat (first | exact (Kd.C_below HR0.out HB.out) | (with_reducible refine Kd.C_alloc ?_ _) | (with_reducible refine Kd.C_drewN ?_ _) | (with_reducible refine Kd.C_drew ?_))); (case side2 => exact HC0.out); rintro e w' ⟨rfl, ⟨nd, rfl⟩⟩; refine ⟨_, rfl, ?_⟩))
                (try simp only [Act.put, List.setIfInBounds_toArray, List.set_cons_zero, List.set_cons_succ])
                go_cut [53] (fun v53 wc => ∃ (kq : Nat) (x53_18 : Bool), v53 = .bool x53_18 ∧ Aside0 (pannierlaw05_SumAdds.j1 kq l0 y302 (wrap64 (t303 + (wrap64 (a2)))) x53_18 = some r) ∧ Aside0 (kq ≤ kj5) ∧ Aside0 (Kd.R (Kd.int .u8) 5 wc w.heap.size (fun _ => True) (.slice (some ⟨go17, 0, none⟩) y298.length co23) y302) ∧ Aside0 (Below w.heap.size w wc))
                case first =>
                  have H := HC19.out
                  clear HC19
                  by_cases c26 : a1 ≥ 148
                  · rw [if_pos c26] at H
                    have c26b0 : decide (148 ≤ a1) = true := decide_eq_true c26
                    clear c26
                    (first | rw [c26b0] | (simp only [i64_w, i32_w]; rw [c26b0]) | skip)
                    have H' := Aside0.mk H
                    clear H
                    go_wp2
                    go_meet
                    case rel => exact ⟨_, (decide (a1 < 156)), (by first | rfl | (simp; done) | (simp [*]; done)), H', ⟨by have := HJ5.out; first | omega | exact Nat.le_refl _⟩, ⟨by (with_reducible repeat (first | apply Kd.R_alloc | apply Kd.R_drewN | apply Kd.R_drew)); exact HO300.out⟩, ⟨by repeat (first | (with_reducible first | exact HB.out | apply below_alloc | apply pw_below_drewN | apply below_drew1) | exact HB.out)⟩⟩
                  · rw [if_neg c26] at H
                    have c26b0 : decide (148 ≤ a1) = false := decide_eq_false c26
                    clear c26
                    (first | rw [c26b0] | (simp only [i64_w, i32_w]; rw [c26b0]) | skip)
                    have H' := Aside0.mk H
                    clear H
                    go_wp2
                    go_meet
                    case rel => exact ⟨_, (false), (by first | rfl | (simp; done) | (simp [*]; done)), H', ⟨by have := HJ5.out; first | omega | exact Nat.le_refl _⟩, ⟨by (with_reducible repeat (first | apply Kd.R_alloc | apply Kd.R_drewN | apply Kd.R_drew)); exact HO300.out⟩, ⟨by repeat (first | (with_reducible first | exact HB.out | apply below_alloc | apply pw_below_drewN | apply below_drew1) | exact HB.out)⟩⟩
                case rest =>
                  clear HC19
                  try clear c1
                  try clear p1
                  try clear q1
                  try clear hx1
                  try clear c2
                  try clear p2
                  try clear q2
                  try clear hx2
                  try clear p3
                  try clear q3
                  try clear hx3
                  try clear c5
                  try clear p6
                  try clear c8
                  try clear c8b0
                  try clear c8b1
                  try clear c9
                  try clear c9b0
                  try clear c10
                  try clear c10b0
                  try clear c11
                  try clear c11b0
                  try clear c12
                  try clear c12b0
                  try clear c13
                  try clear c14
                  try clear c15
                  try clear c15b0
                  try clear c16
                  try clear c16b0
                  try clear p17
                  try clear q17
                  try clear hx17
                  try clear hf17
                  try clear c22
                  try clear c23
                  try clear c26
                  try clear c26b0
                  try clear hx17_0
                  try clear hx294_0
                  try clear hx301_0
                  try clear p17
                  try clear p2
                  try clear p294
                  try clear p301
                  try clear q17
                  try clear q2
                  try clear q294
                  try clear q301
                  obtain ⟨kq, x53_18, rfl, HA, HJ18, HO_7, HB⟩ := hcut
                  have hl7_18 := (Kd.R_reads' HO_7.out).1
                  rw [hl7_18] at HO_7
                  (try simp only [hl7_18])
                  cases kq with
                  | zero => exact absurd HA.out (by simp [pannierlaw05_SumAdds.j1])
                  | succ kj18 =>
                    have H := HA.out
                    clear HA
                    simp only [pannierlaw05_SumAdds.j1] at H
                    by_cases c27 : x53_18 = true
                    · subst c27
                      have H1 : ((sum_Plain.f y302).bind fun t304 => ((sum_Plain.f l0).bind fun t305 => (if t304 = t305 then ((sum_Signed.f y302).bind fun t306 => ((sum_Signed.f l0).bind fun t307 => (some (t306 == t307)))) else (some false)))) = some r := by rw [if_pos rfl] at H; exact H
                      clear H
                      have H := H1
                      clear H1
                      replace H := Option.bind_eq_some_iff.mp H
                      obtain ⟨t304, A280, H⟩ := H
                      replace H : ((sum_Plain.f l0).bind fun t305 => (if t304 = t305 then ((sum_Signed.f y302).bind fun t306 => ((sum_Signed.f l0).bind fun t307 => (some (t306 == t307)))) else (some false))) = some r := H
                      have A28 := Aside0.mk A280
                      clear A280
                      replace H := Option.bind_eq_some_iff.mp H
                      obtain ⟨t305, A290, H⟩ := H
                      replace H : (if t304 = t305 then ((sum_Signed.f y302).bind fun t306 => ((sum_Signed.f l0).bind fun t307 => (some (t306 == t307)))) else (some false)) = some r := H
                      have A29 := Aside0.mk A290
                      clear A290
                      have E30 := Aside0.mk (Option.some.inj (A18.out.symm.trans A29.out))
                      by_cases c31 : t304 = t305
                      · rw [if_pos c31] at H
                        have c31b0 : (t304 == t305) = true := beq_iff_eq.mpr c31
                        have c31b1 : (t304 != t305) = false := bne_eq_false_iff_eq.mpr c31
                        clear c31
                        replace H := Option.bind_eq_some_iff.mp H
                        obtain ⟨t306, A320, H⟩ := H
                        replace H : ((sum_Signed.f l0).bind fun t307 => (some (t306 == t307))) = some r := H
                        have A32 := Aside0.mk A320
                        clear A320
                        replace H := Option.bind_eq_some_iff.mp H
                        obtain ⟨t307, A330, H⟩ := H
                        replace H : (some (t306 == t307)) = some r := H
                        have A33 := Aside0.mk A330
                        clear A330
                        obtain rfl := Option.some.inj H
                        go_wp2_with (first | ((with_reducible refine gate_callee (f := 23) rfl ?_); refine goesL_ (some 55) rfl rfl Try.func23 (by kernel_rfl) rfl #[.slice (some ⟨go17, 0, none⟩) y302.length co23] rfl (by (try simp only [List.map_toArray, List.map_cons, List.map_nil]); first | done | rfl | (simp only [List.length_drop, List.length_take]; rfl)) ?_; (with_reducible refine (sum_Plain.calls _ _ y302 t304 _ ?side1 ?side2 A28.out).mono ?_); (case side1 => repeat (first | exact (Kd.R_reads' HO_7.out).2.2 | (with_reducible refine Kd.C_alloc ?_ _) | (with_reducible refine Kd.C_drewN ?_ _) | (with_reducible refine Kd.C_drew ?_))); (case side2 => exact (Kd.R_reads' HO_7.out).2.1); rintro e w' ⟨rfl, ⟨nd, rfl⟩⟩; refine ⟨_, rfl, ?_⟩) | ((with_reducible refine gate_callee (f := 23) rfl ?_); refine goesL_ (some 57) rfl rfl Try.func23 (by kernel_rfl) rfl #[.slice A0 l0.length c0] rfl (by (try simp only [List.map_toArray, List.map_cons, List.map_nil]); first | done | rfl | (simp only [List.length_drop, List.length_take]; rfl)) ?_; (with_reducible refine (sum_Plain.calls _ _ l0 t305 _ ?side1 ?side2 A29.out).mono ?_); (case side1 => repeat (first | exact (Kd.C_below HR0.out (by repeat (first | (with_reducible first | exact HB.out | apply below_alloc | apply pw_below_drewN | apply below_drew1) | exact HB.out))) | (with_reducible refine Kd.C_alloc ?_ _) | (with_reducible refine Kd.C_drewN ?_ _) | (with_reducible refine Kd.C_drew ?_))); (case side2 => exact HC0.out); rintro e w' ⟨rfl, ⟨nd, rfl⟩⟩; refine ⟨_, rfl, ?_⟩) | (go_at_call 25; (with_reducible refine (sum_Signed.calls _ _ y302 t306 _ ?side1 ?side2 A32.out).mono ?_); (case side1 => repeat (first | exact (Kd.R_reads' HO_7.out).2.2 | (with_reducible refine Kd.C_alloc ?_ _) | (with_reducible refine Kd.C_drewN ?_ _) | (with_reducible refine Kd.C_drew ?_))); (case side2 => exact (Kd.R_reads' HO_7.out).2.1); rintro e w' ⟨rfl, ⟨nd, rfl⟩⟩) | (go_at_call 25; (with_reducible refine (sum_Signed.calls _ _ l0 t307 _ ?side1 ?side2 A33.out).mono ?_); (case side1 => repeat (first | exact (Kd.C_below HR0.out (by repeat (first | (with_reducible first | exact HB.out | apply below_alloc | apply pw_below_drewN | apply below_drew1) | exact HB.out))) | (with_reducible refine Kd.C_alloc ?_ _) | (with_reducible refine Kd.C_drewN ?_ _) | (with_reducible refine Kd.C_drew ?_))); (case side2 => exact HC0.out); rintro e w' ⟨rfl, ⟨nd, rfl⟩⟩))
                        (try have hE30 := E30.out)
                        go_ret
                        exact ⟨by first | rfl | (simp [errW_none, errW_some] <;> rfl) | (simp [*, errW_none, errW_some] <;> rfl), by repeat (first | (with_reducible first | exact HB.out | apply below_alloc | apply pw_below_drewN | apply below_drew1) | exact HB.out)⟩
                      · rw [if_neg c31] at H
                        have c31b0 : (t304 == t305) = false := beq_eq_false_iff_ne.mpr c31
                        have c31b1 : (t304 != t305) = true := bne_iff_ne.mpr c31
                        obtain rfl := Option.some.inj H
                        go_wp2_with (first | ((with_reducible refine gate_callee (f := 23) rfl ?_); refine goesL_ (some 55) rfl rfl Try.func23 (by kernel_rfl) rfl #[.slice (some ⟨go17, 0, none⟩) y302.length co23] rfl (by (try simp only [List.map_toArray, List.map_cons, List.map_nil]); first | done | rfl | (simp only [List.length_drop, List.length_take]; rfl)) ?_; (with_reducible refine (sum_Plain.calls _ _ y302 t304 _ ?side1 ?side2 A28.out).mono ?_); (case side1 => repeat (first | exact (Kd.R_reads' HO_7.out).2.2 | (with_reducible refine Kd.C_alloc ?_ _) | (with_reducible refine Kd.C_drewN ?_ _) | (with_reducible refine Kd.C_drew ?_))); (case side2 => exact (Kd.R_reads' HO_7.out).2.1); rintro e w' ⟨rfl, ⟨nd, rfl⟩⟩; refine ⟨_, rfl, ?_⟩) | ((with_reducible refine gate_callee (f := 23) rfl ?_); refine goesL_ (some 57) rfl rfl Try.func23 (by kernel_rfl) rfl #[.slice A0 l0.length c0] rfl (by (try simp only [List.map_toArray, List.map_cons, List.map_nil]); first | done | rfl | (simp only [List.length_drop, List.length_take]; rfl)) ?_; (with_reducible refine (sum_Plain.calls _ _ l0 t305 _ ?side1 ?side2 A29.out).mono ?_); (case side1 => repeat (first | exact (Kd.C_below HR0.out (by repeat (first | (with_reducible first | exact HB.out | apply below_alloc | apply pw_below_drewN | apply below_drew1) | exact HB.out))) | (with_reducible refine Kd.C_alloc ?_ _) | (with_reducible refine Kd.C_drewN ?_ _) | (with_reducible refine Kd.C_drew ?_))); (case side2 => exact HC0.out); rintro e w' ⟨rfl, ⟨nd, rfl⟩⟩; refine ⟨_, rfl, ?_⟩))
                        (try have hE30 := E30.out)
                        go_ret
                        exact ⟨by first | rfl | (simp [errW_none, errW_some] <;> rfl) | (simp [*, errW_none, errW_some] <;> rfl), by repeat (first | (with_reducible first | exact HB.out | apply below_alloc | apply pw_below_drewN | apply below_drew1) | exact HB.out)⟩
                    · replace c27 := Bool.eq_false_iff.mpr c27
                      subst c27
                      have H1 : ((sum_Plain.f y302).bind fun t308 => (if t308 = (wrap64 (t303 + (wrap64 (a2)))) then ((sum_Plain.f y302).bind fun t309 => ((sum_Signed.f y302).bind fun t310 => (if (Int.tmod (wrap64 (t309 - t310)) 256) = 0 then ((sum_Signed.f y302).bind fun t311 => ((sum_Plain.f y302).bind fun t312 => (some (decide (t311 ≤ t312))))) else (some false)))) else (some false))) = some r := by rw [if_neg (show ¬ (false = true) by decide)] at H; exact H
                      clear H
                      have H := H1
                      clear H1
                      replace H := Option.bind_eq_some_iff.mp H
                      obtain ⟨t308, A340, H⟩ := H
                      replace H : (if t308 = (wrap64 (t303 + (wrap64 (a2)))) then ((sum_Plain.f y302).bind fun t309 => ((sum_Signed.f y302).bind fun t310 => (if (Int.tmod (wrap64 (t309 - t310)) 256) = 0 then ((sum_Signed.f y302).bind fun t311 => ((sum_Plain.f y302).bind fun t312 => (some (decide (t311 ≤ t312))))) else (some false)))) else (some false)) = some r := H
                      have A34 := Aside0.mk A340
                      clear A340
                      by_cases c35 : t308 = (wrap64 (t303 + (wrap64 (a2))))
                      · rw [if_pos c35] at H
                        have c35b0 : (t308 == (wrap64 (t303 + (wrap64 (a2))))) = true := beq_iff_eq.mpr c35
                        have c35b1 : (t308 != (wrap64 (t303 + (wrap64 (a2))))) = false := bne_eq_false_iff_eq.mpr c35
                        clear c35
                        replace H := Option.bind_eq_some_iff.mp H
                        obtain ⟨t309, A360, H⟩ := H
                        replace H : ((sum_Signed.f y302).bind fun t310 => (if (Int.tmod (wrap64 (t309 - t310)) 256) = 0 then ((sum_Signed.f y302).bind fun t311 => ((sum_Plain.f y302).bind fun t312 => (some (decide (t311 ≤ t312))))) else (some false))) = some r := H
                        have A36 := Aside0.mk A360
                        clear A360
                        have E37 := Aside0.mk (Option.some.inj (A34.out.symm.trans A36.out))
                        replace H := Option.bind_eq_some_iff.mp H
                        obtain ⟨t310, A380, H⟩ := H
                        replace H : (if (Int.tmod (wrap64 (t309 - t310)) 256) = 0 then ((sum_Signed.f y302).bind fun t311 => ((sum_Plain.f y302).bind fun t312 => (some (decide (t311 ≤ t312))))) else (some false)) = some r := H
                        have A38 := Aside0.mk A380
                        clear A380
                        by_cases c39 : (Int.tmod (wrap64 (t309 - t310)) 256) = 0
                        · rw [if_pos c39] at H
                          have c39b0 : ((Int.tmod (wrap64 (t309 - t310)) 256) == 0) = true := beq_iff_eq.mpr c39
                          have c39b1 : ((Int.tmod (wrap64 (t309 - t310)) 256) != 0) = false := bne_eq_false_iff_eq.mpr c39
                          clear c39
                          replace H := Option.bind_eq_some_iff.mp H
                          obtain ⟨t311, A400, H⟩ := H
                          replace H : ((sum_Plain.f y302).bind fun t312 => (some (decide (t311 ≤ t312)))) = some r := H
                          have A40 := Aside0.mk A400
                          clear A400
                          have E41 := Aside0.mk (Option.some.inj (A38.out.symm.trans A40.out))
                          replace H := Option.bind_eq_some_iff.mp H
                          obtain ⟨t312, A420, H⟩ := H
                          replace H : (some (decide (t311 ≤ t312))) = some r := H
                          have A42 := Aside0.mk A420
                          clear A420
                          have E43 := Aside0.mk (Option.some.inj (A36.out.symm.trans A42.out))
                          obtain rfl := Option.some.inj H
                          go_wp2_with (first | ((with_reducible refine gate_callee (f := 23) rfl ?_); refine goesL_ (some 67) rfl rfl Try.func23 (by kernel_rfl) rfl #[.slice (some ⟨go17, 0, none⟩) y302.length co23] rfl (by (try simp only [List.map_toArray, List.map_cons, List.map_nil]); first | done | rfl | (simp only [List.length_drop, List.length_take]; rfl)) ?_; (with_reducible refine (sum_Plain.calls _ _ y302 t308 _ ?side1 ?side2 A34.out).mono ?_); (case side1 => repeat (first | exact (Kd.R_reads' HO_7.out).2.2 | (with_reducible refine Kd.C_alloc ?_ _) | (with_reducible refine Kd.C_drewN ?_ _) | (with_reducible refine Kd.C_drew ?_))); (case side2 => exact (Kd.R_reads' HO_7.out).2.1); rintro e w' ⟨rfl, ⟨nd, rfl⟩⟩; refine ⟨_, rfl, ?_⟩) | (go_at_call 23; (with_reducible refine (sum_Plain.calls _ _ y302 t309 _ ?side1 ?side2 A36.out).mono ?_); (case side1 => repeat (first | exact (Kd.R_reads' HO_7.out).2.2 | (with_reducible refine Kd.C_alloc ?_ _) | (with_reducible refine Kd.C_drewN ?_ _) | (with_reducible refine Kd.C_drew ?_))); (case side2 => exact (Kd.R_reads' HO_7.out).2.1); rintro e w' ⟨rfl, ⟨nd, rfl⟩⟩) | (go_at_call 25; (with_reducible refine (sum_Signed.calls _ _ y302 t310 _ ?side1 ?side2 A38.out).mono ?_); (case side1 => repeat (first | exact (Kd.R_reads' HO_7.out).2.2 | (with_reducible refine Kd.C_alloc ?_ _) | (with_reducible refine Kd.C_drewN ?_ _) | (with_reducible refine Kd.C_drew ?_))); (case side2 => exact (Kd.R_reads' HO_7.out).2.1); rintro e w' ⟨rfl, ⟨nd, rfl⟩⟩) | (go_at_call 25; (with_reducible refine (sum_Signed.calls _ _ y302 t311 _ ?side1 ?side2 A40.out).mono ?_); (case side1 => repeat (first | exact (Kd.R_reads' HO_7.out).2.2 | (with_reducible refine Kd.C_alloc ?_ _) | (with_reducible refine Kd.C_drewN ?_ _) | (with_reducible refine Kd.C_drew ?_))); (case side2 => exact (Kd.R_reads' HO_7.out).2.1); rintro e w' ⟨rfl, ⟨nd, rfl⟩⟩) | (go_at_call 23; (with_reducible refine (sum_Plain.calls _ _ y302 t312 _ ?side1 ?side2 A42.out).mono ?_); (case side1 => repeat (first | exact (Kd.R_reads' HO_7.out).2.2 | (with_reducible refine Kd.C_alloc ?_ _) | (with_reducible refine Kd.C_drewN ?_ _) | (with_reducible refine Kd.C_drew ?_))); (case side2 => exact (Kd.R_reads' HO_7.out).2.1); rintro e w' ⟨rfl, ⟨nd, rfl⟩⟩))
                          (try have hE37 := E37.out)
                          (try have hE41 := E41.out)
                          (try have hE43 := E43.out)
                          go_ret
                          exact ⟨by first | rfl | (simp [errW_none, errW_some] <;> rfl) | (simp [*, errW_none, errW_some] <;> rfl), by repeat (first | (with_reducible first | exact HB.out | apply below_alloc | apply pw_below_drewN | apply below_drew1) | exact HB.out)⟩
                        · rw [if_neg c39] at H
                          have c39b0 : ((Int.tmod (wrap64 (t309 - t310)) 256) == 0) = false := beq_eq_false_iff_ne.mpr c39
                          have c39b1 : ((Int.tmod (wrap64 (t309 - t310)) 256) != 0) = true := bne_iff_ne.mpr c39
                          obtain rfl := Option.some.inj H
                          go_wp2_with (first | ((with_reducible refine gate_callee (f := 23) rfl ?_); refine goesL_ (some 67) rfl rfl Try.func23 (by kernel_rfl) rfl #[.slice (some ⟨go17, 0, none⟩) y302.length co23] rfl (by (try simp only [List.map_toArray, List.map_cons, List.map_nil]); first | done | rfl | (simp only [List.length_drop, List.length_take]; rfl)) ?_; (with_reducible refine (sum_Plain.calls _ _ y302 t308 _ ?side1 ?side2 A34.out).mono ?_); (case side1 => repeat (first | exact (Kd.R_reads' HO_7.out).2.2 | (with_reducible refine Kd.C_alloc ?_ _) | (with_reducible refine Kd.C_drewN ?_ _) | (with_reducible refine Kd.C_drew ?_))); (case side2 => exact (Kd.R_reads' HO_7.out).2.1); rintro e w' ⟨rfl, ⟨nd, rfl⟩⟩; refine ⟨_, rfl, ?_⟩) | (go_at_call 23; (with_reducible refine (sum_Plain.calls _ _ y302 t309 _ ?side1 ?side2 A36.out).mono ?_); (case side1 => repeat (first | exact (Kd.R_reads' HO_7.out).2.2 | (with_reducible refine Kd.C_alloc ?_ _) | (with_reducible refine Kd.C_drewN ?_ _) | (with_reducible refine Kd.C_drew ?_))); (case side2 => exact (Kd.R_reads' HO_7.out).2.1); rintro e w' ⟨rfl, ⟨nd, rfl⟩⟩) | (go_at_call 25; (with_reducible refine (sum_Signed.calls _ _ y302 t310 _ ?side1 ?side2 A38.out).mono ?_); (case side1 => repeat (first | exact (Kd.R_reads' HO_7.out).2.2 | (with_reducible refine Kd.C_alloc ?_ _) | (with_reducible refine Kd.C_drewN ?_ _) | (with_reducible refine Kd.C_drew ?_))); (case side2 => exact (Kd.R_reads' HO_7.out).2.1); rintro e w' ⟨rfl, ⟨nd, rfl⟩⟩))
                          (try have hE37 := E37.out)
                          go_ret
                          exact ⟨by first | rfl | (simp [errW_none, errW_some] <;> rfl) | (simp [*, errW_none, errW_some] <;> rfl), by repeat (first | (with_reducible first | exact HB.out | apply below_alloc | apply pw_below_drewN | apply below_drew1) | exact HB.out)⟩
                      · rw [if_neg c35] at H
                        have c35b0 : (t308 == (wrap64 (t303 + (wrap64 (a2))))) = false := beq_eq_false_iff_ne.mpr c35
                        have c35b1 : (t308 != (wrap64 (t303 + (wrap64 (a2))))) = true := bne_iff_ne.mpr c35
                        obtain rfl := Option.some.inj H
                        go_wp2_with (first | ((with_reducible refine gate_callee (f := 23) rfl ?_); refine goesL_ (some 67) rfl rfl Try.func23 (by kernel_rfl) rfl #[.slice (some ⟨go17, 0, none⟩) y302.length co23] rfl (by (try simp only [List.map_toArray, List.map_cons, List.map_nil]); first | done | rfl | (simp only [List.length_drop, List.length_take]; rfl)) ?_; (with_reducible refine (sum_Plain.calls _ _ y302 t308 _ ?side1 ?side2 A34.out).mono ?_); (case side1 => repeat (first | exact (Kd.R_reads' HO_7.out).2.2 | (with_reducible refine Kd.C_alloc ?_ _) | (with_reducible refine Kd.C_drewN ?_ _) | (with_reducible refine Kd.C_drew ?_))); (case side2 => exact (Kd.R_reads' HO_7.out).2.1); rintro e w' ⟨rfl, ⟨nd, rfl⟩⟩; refine ⟨_, rfl, ?_⟩))
                        go_ret
                        exact ⟨by first | rfl | (simp [errW_none, errW_some] <;> rfl) | (simp [*, errW_none, errW_some] <;> rfl), by repeat (first | (with_reducible first | exact HB.out | apply below_alloc | apply pw_below_drewN | apply below_drew1) | exact HB.out)⟩
              · rw [if_neg c16] at H
                exact absurd H (by simp)
            · rw [if_neg c15] at H
              exact absurd H (by simp)
          · rw [if_neg c14] at H
            exact absurd H (by simp)
  · replace c5 := Bool.eq_false_iff.mpr c5
    subst c5
    have H1 : (some false) = some r := by rw [if_neg (show ¬ (false = true) by decide)] at H; exact H
    clear H
    have H := H1
    clear H1
    obtain rfl := Option.some.inj H
    go_enter Try.func12, Try.ntmps12
    go_wp2_with (first | ((with_reducible refine gate_callee (f := 22) rfl ?_); refine goesL_ (some 9) rfl rfl Try.func22 (by kernel_rfl) rfl #[] rfl (by (try simp only [List.map_toArray, List.map_cons, List.map_nil]); first | done | rfl | (simp only [List.length_drop, List.length_take]; rfl)) ?_; (with_reducible refine (pannierlaw05_sums.calls k  false _ A4.out).mono ?_); rintro e w44 ⟨rfl, hb⟩; refine ⟨_, rfl, ?_⟩; have n0_ := Aside0.mk (below_step (by repeat (first | (with_reducible first | exact HB.out | apply below_alloc | apply pw_below_drewN | apply below_drew1) | exact HB.out)) hb); clear HB; have HB := n0_; clear n0_; (try clear hb); (try clear hb2); (try clear hk); (try clear hi)))
    go_ret
    exact ⟨by first | rfl | (simp [errW_none, errW_some] <;> rfl) | (simp [*, errW_none, errW_some] <;> rfl), by repeat (first | (with_reducible first | exact HB.out | apply below_alloc | apply pw_below_drewN | apply below_drew1) | exact HB.out)⟩

/-- THE ONE PURE STATEMENT of pannierlaw05_SumAdds: yours. -/
def pannierlaw05_SumAdds.Pure : Prop := ∀ (l0 : List Int) (a1 : Int) (a2 : Int), l0.length ≤ maxLen → l0.length * 1 ≤ 140737488351232 → (∀ x ∈ l0, (Lit.int .u8 x).wf = true) → (Lit.int .i64 a1).wf = true → (Lit.int .u8 a2).wf = true → ∃ k, pannierlaw05_SumAdds.f k l0 a1 a2 = some true
theorem pannierlaw05_SumAdds.walk (P : pannierlaw05_SumAdds.Pure) (a0 : Option Addr) (len0 cap0 : Nat) (z0 : List Int) (a1 : Int) (a2 : Int) (w : World) (w0 : (a0 = none ∧ len0 = 0 ∧ cap0 = 0 ∧ z0 = []) ∨ ∃ x, a0 = some x ∧ len0 ≤ cap0 ∧ cap0 ≤ maxLen ∧ z0.length = cap0 ∧ (∀ i, i < z0.length → w.cell? (x.add i) = some (.int .u8 (z0.getD i 0))) ∧ ∀ n ∈ z0, (Lit.int .u8 n).wf = true) (y0 : len0 * 1 ≤ 140737488351232) (w1 : (Lit.int .i64 a1).wf = true) (w2 : (Lit.int .u8 a2).wf = true) :
    Calls Try.prog 12 #[.slice a0 len0 cap0, .int .i64 a1, .int .u8 a2] w fun e w' => e = .returned (.bool true) ∧ Below w.heap.size w w' := by
  obtain ⟨l0, rfl, hr0, hm0, hw0, hc0⟩ := ReadsInt.ofRowC w0
  obtain ⟨k, h⟩ := P l0 a1 a2 hm0 y0 hw0 w1 w2
  refine (pannierlaw05_SumAdds.calls k _ _ l0 a1 a2 true w (Kd.C_of_reads (d := (0 : Int)) (h1 := fun _ => rfl) hr0) hc0 h).mono ?_
  rintro e w' ⟨rfl, hd⟩
  exact ⟨rfl, hd⟩

end Go.Proofs.Yteeofjlohaeinaa.XA
