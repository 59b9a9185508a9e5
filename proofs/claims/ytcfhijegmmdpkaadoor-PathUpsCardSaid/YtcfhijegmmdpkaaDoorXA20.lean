-- Written by a program of this session (wip/tools/xprint.py) out of the translation's print. Lean checks it.
import Derived.Test.YtcfhijegmmdpkaaDoorXA0
import Derived.Test.YtcfhijegmmdpkaaDoorESound
import Derived.Test.YtcfhijegmmdpkaaDoorXA1
import Derived.Test.YtcfhijegmmdpkaaDoorXA2
import Derived.Test.YtcfhijegmmdpkaaDoorXA3
import Derived.Test.YtcfhijegmmdpkaaDoorXA5
import Derived.Test.YtcfhijegmmdpkaaDoorXA8
namespace Go.Proofs.YtcfhijegmmdpkaaDoor.XA
open Go.RowKit Go.Proofs.YtcfhijegmmdpkaaDoorW.PrintWords Go.Proofs.YtcfhijegmmdpkaaDoorW.PrintLast Go.Proofs.YtcfhijegmmdpkaaDoorW.PrintMore
attribute [local go_sem] max2_int min2_int max_two min_two max_three min_three max_four min_four   -- for this text's walks alone
set_option linter.unusedVariables false
set_option linter.unusedSimpArgs false

/-! ### pannierlaw10_PathUps: function 14 -/
mutual
def pannierlaw10_PathUps.j0 : Nat → List ByteArray → List ByteArray → Bool → Option (Bool)
 | 0, _, _, _ => none
 | k + 1, x5, x7, x41 => if x41 = true then (some true) else ((path_Join.f x5).bind fun t380 => ((path_Join.f x7).bind fun t381 => ((path_Up.f k t380).bind fun bt382 => (if (bt382.2 != (decide ((x5.length : Int) > 0))) = true then (pannierlaw10_PathUps.j1 k x5 x7 t380 t381 true) else (if bt382.2 = true then (if 0 ≤ (wrap64 ((x5.length : Int) - 1)) then (if (wrap64 ((x5.length : Int) - 1)) ≤ (x5.length : Int) then ((path_Join.f (x5.take ((wrap64 ((x5.length : Int) - 1)) : Int).toNat)).bind fun t388 => (if bt382.1.toList = t388.toList then ((path_Under.f bt382.1 t380).bind fun t389 => (pannierlaw10_PathUps.j1 k x5 x7 t380 t381 (!t389))) else (pannierlaw10_PathUps.j1 k x5 x7 t380 t381 true))) else (none)) else (none)) else (pannierlaw10_PathUps.j1 k x5 x7 t380 t381 false))))))
def pannierlaw10_PathUps.j1 : Nat → List ByteArray → List ByteArray → ByteArray → ByteArray → Bool → Option (Bool)
 | 0, _, _, _, _, _ => none
 | k + 1, x5, x7, x9, x10, x77 => if x77 = true then (some false) else (if (x7.length : Int) ≤ (x5.length : Int) then (if 0 ≤ (x7.length : Int) then ((pannierlaw10_same.f k (x5.take ((x7.length : Int) : Int).toNat) x7).bind fun t394 => ((path_Under.f x10 x9).bind fun t395 => (some (t395 == t394)))) else (none)) else ((path_Under.f x10 x9).bind fun t396 => (some (t396 == false))))
end
def pannierlaw10_PathUps.f (k : Nat) (a0 : ByteArray) (a1 : ByteArray) : Option (Bool) := (pannierlaw10_cleans.f k).bind fun t371 => (if t371 = true then ((path_Clean.f k a0).bind fun bt372 => ((path_Clean.f k a1).bind fun bt376 => (if bt372.2 = 0 then (if bt376.2 = 0 then (if (a0.size : Int) > 1000 then (pannierlaw10_PathUps.j0 k bt372.1 bt376.1 true) else (pannierlaw10_PathUps.j0 k bt372.1 bt376.1 (decide ((a1.size : Int) > 1000)))) else (pannierlaw10_PathUps.j0 k bt372.1 bt376.1 true)) else (pannierlaw10_PathUps.j0 k bt372.1 bt376.1 true)))) else (some false))
theorem pannierlaw10_PathUps.mono_l : ∀ k, (∀ y0 y1 y2, LeO (pannierlaw10_PathUps.j0 k y0 y1 y2) (pannierlaw10_PathUps.j0 (k + 1) y0 y1 y2)) ∧ (∀ y0 y1 y2 y3 y4, LeO (pannierlaw10_PathUps.j1 k y0 y1 y2 y3 y4) (pannierlaw10_PathUps.j1 (k + 1) y0 y1 y2 y3 y4))
 | 0 => ⟨fun _ _ _ r h => by simp [pannierlaw10_PathUps.j0] at h, fun _ _ _ _ _ r h => by simp [pannierlaw10_PathUps.j1] at h⟩
 | k + 1 => by
  obtain ⟨ih0, ih1⟩ := pannierlaw10_PathUps.mono_l k
  refine ⟨?_, ?_⟩
  ·intro y0 y1 y2
   unfold pannierlaw10_PathUps.j0
   repeat' first
   | (with_reducible exact ih0 _ _ _)
   | (with_reducible exact ih1 _ _ _ _ _)
   | (with_reducible exact pannierlaw10_cleans.mono _)
   | (with_reducible exact pannierlaw10_same.mono _ _ _)
   | (with_reducible exact path_Clean.mono _ _)
   | (with_reducible exact path_Up.mono _ _)
   | (with_reducible exact LeO.refl _)
   | (with_reducible exact LeO.none _)
   | (with_reducible refine LeO.ite ?_ ?_)
   | (with_reducible refine LeO.bind ?_ (fun _ => ?_))
   | exact ih0 _ _ _
   | exact ih1 _ _ _ _ _
   | exact pannierlaw10_cleans.mono _
   | exact pannierlaw10_same.mono _ _ _
   | exact path_Clean.mono _ _
   | exact path_Up.mono _ _
   | exact LeO.none _
   | refine LeO.ite ?_ ?_
   | refine LeO.bind ?_ (fun _ => ?_)
  ·intro y0 y1 y2 y3 y4
   unfold pannierlaw10_PathUps.j1
   repeat' first
   | (with_reducible exact ih0 _ _ _)
   | (with_reducible exact ih1 _ _ _ _ _)
   | (with_reducible exact pannierlaw10_cleans.mono _)
   | (with_reducible exact pannierlaw10_same.mono _ _ _)
   | (with_reducible exact path_Clean.mono _ _)
   | (with_reducible exact path_Up.mono _ _)
   | (with_reducible exact LeO.refl _)
   | (with_reducible exact LeO.none _)
   | (with_reducible refine LeO.ite ?_ ?_)
   | (with_reducible refine LeO.bind ?_ (fun _ => ?_))
   | exact ih0 _ _ _
   | exact ih1 _ _ _ _ _
   | exact pannierlaw10_cleans.mono _
   | exact pannierlaw10_same.mono _ _ _
   | exact path_Clean.mono _ _
   | exact path_Up.mono _ _
   | exact LeO.none _
   | refine LeO.ite ?_ ?_
   | refine LeO.bind ?_ (fun _ => ?_)
theorem pannierlaw10_PathUps.mono : ∀ a0 a1 k, LeO (pannierlaw10_PathUps.f k a0 a1) (pannierlaw10_PathUps.f (k + 1) a0 a1) := by
 intro a0 a1 k
 obtain ⟨ih0, ih1⟩ := pannierlaw10_PathUps.mono_l k
 unfold pannierlaw10_PathUps.f
 repeat' first
   | (with_reducible exact ih0 _ _ _)
   | (with_reducible exact ih1 _ _ _ _ _)
   | (with_reducible exact pannierlaw10_cleans.mono _)
   | (with_reducible exact pannierlaw10_same.mono _ _ _)
   | (with_reducible exact path_Clean.mono _ _)
   | (with_reducible exact path_Up.mono _ _)
   | (with_reducible exact LeO.refl _)
   | (with_reducible exact LeO.none _)
   | (with_reducible refine LeO.ite ?_ ?_)
   | (with_reducible refine LeO.bind ?_ (fun _ => ?_))
   | exact ih0 _ _ _
   | exact ih1 _ _ _ _ _
   | exact pannierlaw10_cleans.mono _
   | exact pannierlaw10_same.mono _ _ _
   | exact path_Clean.mono _ _
   | exact path_Up.mono _ _
   | exact LeO.none _
   | refine LeO.ite ?_ ?_
   | refine LeO.bind ?_ (fun _ => ?_)
set_option maxHeartbeats 8000000 in
set_option maxRecDepth 100000 in
theorem pannierlaw10_PathUps.calls (k : Nat) (a0 : ByteArray) (a1 : ByteArray) (r : Bool) (w : World) (h : pannierlaw10_PathUps.f k a0 a1 = some r) (hGG0 : GG w) :
  Calls Tryd.prog 14 #[.string a0, .string a1] w fun e w' => e = .returned (.bool r) ∧ Below w.heap.size w w' := by
 have HGG := Aside0.mk hGG0
 clear hGG0
 have HB := Aside0.mk (Below.refl w.heap.size w)
 have H : ((pannierlaw10_cleans.f k).bind fun t371 => (if t371 = true then ((path_Clean.f k a0).bind fun bt372 => ((path_Clean.f k a1).bind fun bt376 => (if bt372.2 = 0 then (if bt376.2 = 0 then (if (a0.size : Int) > 1000 then (pannierlaw10_PathUps.j0 k bt372.1 bt376.1 true) else (pannierlaw10_PathUps.j0 k bt372.1 bt376.1 (decide ((a1.size : Int) > 1000)))) else (pannierlaw10_PathUps.j0 k bt372.1 bt376.1 true)) else (pannierlaw10_PathUps.j0 k bt372.1 bt376.1 true)))) else (some false))) = some r := h
 clear h
 replace H := Option.bind_eq_some_iff.mp H
 obtain ⟨t371, A30, H⟩ := H
 replace H : (if t371 = true then ((path_Clean.f k a0).bind fun bt372 => ((path_Clean.f k a1).bind fun bt376 => (if bt372.2 = 0 then (if bt376.2 = 0 then (if (a0.size : Int) > 1000 then (pannierlaw10_PathUps.j0 k bt372.1 bt376.1 true) else (pannierlaw10_PathUps.j0 k bt372.1 bt376.1 (decide ((a1.size : Int) > 1000)))) else (pannierlaw10_PathUps.j0 k bt372.1 bt376.1 true)) else (pannierlaw10_PathUps.j0 k bt372.1 bt376.1 true)))) else (some false)) = some r := H
 have A3 := Aside0.mk A30
 clear A30
 by_cases c4 : t371 = true
 ·subst c4
  have H1 : ((path_Clean.f k a0).bind fun bt372 => ((path_Clean.f k a1).bind fun bt376 => (if bt372.2 = 0 then (if bt376.2 = 0 then (if (a0.size : Int) > 1000 then (pannierlaw10_PathUps.j0 k bt372.1 bt376.1 true) else (pannierlaw10_PathUps.j0 k bt372.1 bt376.1 (decide ((a1.size : Int) > 1000)))) else (pannierlaw10_PathUps.j0 k bt372.1 bt376.1 true)) else (pannierlaw10_PathUps.j0 k bt372.1 bt376.1 true)))) = some r := by rw [if_pos rfl] at H; exact H
  clear H
  have H := H1
  clear H1
  replace H := Option.bind_eq_some_iff.mp H
  obtain ⟨⟨t372, t373⟩, A50, H⟩ := H
  replace H : ((path_Clean.f k a1).bind fun bt376 => (if t373 = 0 then (if bt376.2 = 0 then (if (a0.size : Int) > 1000 then (pannierlaw10_PathUps.j0 k t372 bt376.1 true) else (pannierlaw10_PathUps.j0 k t372 bt376.1 (decide ((a1.size : Int) > 1000)))) else (pannierlaw10_PathUps.j0 k t372 bt376.1 true)) else (pannierlaw10_PathUps.j0 k t372 bt376.1 true))) = some r := H
  have A5 := Aside0.mk A50
  clear A50
  replace H := Option.bind_eq_some_iff.mp H
  obtain ⟨⟨t376, t377⟩, A60, H⟩ := H
  replace H : (if t373 = 0 then (if t377 = 0 then (if (a0.size : Int) > 1000 then (pannierlaw10_PathUps.j0 k t372 t376 true) else (pannierlaw10_PathUps.j0 k t372 t376 (decide ((a1.size : Int) > 1000)))) else (pannierlaw10_PathUps.j0 k t372 t376 true)) else (pannierlaw10_PathUps.j0 k t372 t376 true)) = some r := H
  have A6 := Aside0.mk A60
  clear A60
  have HC7 := Aside0.mk H
  clear H
  go_enter Tryd.func14, Tryd.ntmps14
  go_upto_region 5 with (first | ((with_reducible refine gate_callee (f := 16) rfl ?_); refine goesL_ (some 14) rfl rfl Tryd.func16 (by kernel_rfl) rfl #[] rfl (by (try simp only [List.map_toArray, List.map_cons, List.map_nil]); first | done | rfl | (simp only [List.length_drop, List.length_take]; rfl)) ?_; (with_reducible refine (pannierlaw10_cleans.calls k  true _ A3.out ?hGG).mono ?_); (case hGG => exact GG_below HGG.out (by repeat (first | (with_reducible first | exact HB.out | apply below_alloc | apply pw_below_drewN | apply below_drew1) | exact HB.out))); rintro e w8 ⟨rfl, hb⟩; refine ⟨_, rfl, ?_⟩; have n0_ := Aside0.mk (below_step (by repeat (first | (with_reducible first | exact HB.out | apply below_alloc | apply pw_below_drewN | apply below_drew1) | exact HB.out)) hb); clear HB; have HB := n0_; clear n0_; (try clear hb); (try clear hb2); (try clear hk); (try clear hi)) | ((with_reducible refine gate_callee (f := 17) rfl ?_); refine goesL_ (some 18) rfl rfl Tryd.func17 (by kernel_rfl) rfl #[.string a0] rfl (by (try simp only [List.map_toArray, List.map_cons, List.map_nil]); first | done | rfl | (simp only [List.length_drop, List.length_take]; rfl)) ?_; (with_reducible refine (path_Clean.calls k a0 t372 t373 _ A5.out ?hGG).mono ?_); (case hGG => exact GG_below HGG.out (by repeat (first | (with_reducible first | exact HB.out | apply below_alloc | apply pw_below_drewN | apply below_drew1) | exact HB.out))); rintro e w9 ⟨v374, rfl, ho0, hb⟩; refine ⟨_, rfl, ?_⟩; have n0_ := Aside0.mk (Kd.R_lower ho0 (below_size (by repeat (first | (with_reducible first | exact HB.out | apply below_alloc | apply pw_below_drewN | apply below_drew1) | exact HB.out)))); have n1_ := Aside0.mk (below_step (by repeat (first | (with_reducible first | exact HB.out | apply below_alloc | apply pw_below_drewN | apply below_drew1) | exact HB.out)) hb); clear HB; have HO375 := n0_; have HB := n1_; clear n0_ n1_; (try clear hb); (try clear hb2); (try clear hk); (try clear hi); (try clear ho0)) | ((with_reducible refine gate_callee (f := 17) rfl ?_); refine goesL_ (some 23) rfl rfl Tryd.func17 (by kernel_rfl) rfl #[.string a1] rfl (by (try simp only [List.map_toArray, List.map_cons, List.map_nil]); first | done | rfl | (simp only [List.length_drop, List.length_take]; rfl)) ?_; (with_reducible refine (path_Clean.calls k a1 t376 t377 _ A6.out ?hGG).mono ?_); (case hGG => exact GG_below HGG.out (by repeat (first | (with_reducible first | exact HB.out | apply below_alloc | apply pw_below_drewN | apply below_drew1) | exact HB.out))); rintro e w10 ⟨v378, rfl, ho0, hb⟩; refine ⟨_, rfl, ?_⟩; have n0_ := Aside0.mk (Kd.R_elder' (by (with_reducible repeat (first | apply Kd.R_alloc | apply Kd.R_drewN | apply Kd.R_drew)); exact HO375.out) (Kd.R_base ho0) hb); have n1_ := Aside0.mk (Kd.R_lower (Kd.R_new' ho0 (Kd.R_lt (by (with_reducible repeat (first | apply Kd.R_alloc | apply Kd.R_drewN | apply Kd.R_drew)); exact HO375.out))) (below_size (by repeat (first | (with_reducible first | exact HB.out | apply below_alloc | apply pw_below_drewN | apply below_drew1) | exact HB.out)))); have n2_ := Aside0.mk (below_step (by repeat (first | (with_reducible first | exact HB.out | apply below_alloc | apply pw_below_drewN | apply below_drew1) | exact HB.out)) hb); clear HO375; clear HB; have HO375 := n0_; have HO379 := n1_; have HB := n2_; clear n0_ n1_ n2_; (try clear hb); (try clear hb2); (try clear hk); (try clear hi); (try clear ho0)))
  (try simp only [Act.put, List.setIfInBounds_toArray, List.set_cons_zero, List.set_cons_succ])
  go_cut [41] (fun v41 wc => ∃ (kq : Nat) (x41_6 : Bool), v41 = .bool x41_6 ∧ Aside0 (pannierlaw10_PathUps.j0 kq t372 t376 x41_6 = some r) ∧ Aside0 (kq ≤ k) ∧ Aside0 (Kd.R Kd.string 9 wc w.heap.size (fun k_ => some k_ ≠ (v378 : Value).ownBlock) v374 t372) ∧ Aside0 (Kd.R Kd.string 9 wc w.heap.size (fun k_ => some k_ ≠ (v374 : Value).ownBlock) v378 t376) ∧ Aside0 (Below w.heap.size w wc))
  case first =>
   have H := HC7.out
   clear HC7
   by_cases c11 : t373 = 0
   ·rw [if_pos c11] at H
    have c11b0 : (t373 == 0) = true := beq_iff_eq.mpr c11
    have c11b1 : (t373 != 0) = false := bne_eq_false_iff_eq.mpr c11
    clear c11
    (first | rw [c11b0] | (simp only [i64_w, i32_w]; rw [c11b0]) | skip)
    by_cases c12 : t377 = 0
    ·rw [if_pos c12] at H
     have c12b0 : (t377 == 0) = true := beq_iff_eq.mpr c12
     have c12b1 : (t377 != 0) = false := bne_eq_false_iff_eq.mpr c12
     clear c12
     by_cases c13 : (a0.size : Int) > 1000
     ·rw [if_pos c13] at H
      have c13b0 : decide (1000 < (a0.size : Int)) = true := decide_eq_true c13
      have c13b1 : decide (1000 < a0.size) = true := decide_eq_true (by omega)
      clear c13
      have H' := Aside0.mk H
      clear H
      go_wp2
      go_meet
      case rel => exact ⟨_, (true), (by first | rfl | (simp; done) | (simp [*]; done)), H', ⟨by first | omega | exact Nat.le_refl _⟩, ⟨by (with_reducible repeat (first | apply Kd.R_alloc | apply Kd.R_drewN | apply Kd.R_drew)); exact Kd.R_mono HO375.out (fun _ hk => hk.2)⟩, ⟨by (with_reducible repeat (first | apply Kd.R_alloc | apply Kd.R_drewN | apply Kd.R_drew)); exact Kd.R_mono HO379.out (fun _ hk => hk.2)⟩, ⟨by repeat (first | (with_reducible first | exact HB.out | apply below_alloc | apply pw_below_drewN | apply below_drew1) | exact HB.out)⟩⟩
     ·rw [if_neg c13] at H
      have c13b0 : decide (1000 < (a0.size : Int)) = false := decide_eq_false c13
      have c13b1 : decide (1000 < a0.size) = false := decide_eq_false (by omega)
      clear c13
      have H' := Aside0.mk H
      clear H
      go_wp2
      go_meet
      case rel => exact ⟨_, (decide ((a1.size : Int) > 1000)), (by first | rfl | (simp; done) | (simp [*]; done)), H', ⟨by first | omega | exact Nat.le_refl _⟩, ⟨by (with_reducible repeat (first | apply Kd.R_alloc | apply Kd.R_drewN | apply Kd.R_drew)); exact Kd.R_mono HO375.out (fun _ hk => hk.2)⟩, ⟨by (with_reducible repeat (first | apply Kd.R_alloc | apply Kd.R_drewN | apply Kd.R_drew)); exact Kd.R_mono HO379.out (fun _ hk => hk.2)⟩, ⟨by repeat (first | (with_reducible first | exact HB.out | apply below_alloc | apply pw_below_drewN | apply below_drew1) | exact HB.out)⟩⟩
    ·rw [if_neg c12] at H
     have c12b0 : (t377 == 0) = false := beq_eq_false_iff_ne.mpr c12
     have c12b1 : (t377 != 0) = true := bne_iff_ne.mpr c12
     have H' := Aside0.mk H
     clear H
     go_wp2
     go_meet
     case rel => exact ⟨_, (true), (by first | rfl | (simp; done) | (simp [*]; done)), H', ⟨by first | omega | exact Nat.le_refl _⟩, ⟨by (with_reducible repeat (first | apply Kd.R_alloc | apply Kd.R_drewN | apply Kd.R_drew)); exact Kd.R_mono HO375.out (fun _ hk => hk.2)⟩, ⟨by (with_reducible repeat (first | apply Kd.R_alloc | apply Kd.R_drewN | apply Kd.R_drew)); exact Kd.R_mono HO379.out (fun _ hk => hk.2)⟩, ⟨by repeat (first | (with_reducible first | exact HB.out | apply below_alloc | apply pw_below_drewN | apply below_drew1) | exact HB.out)⟩⟩
   ·rw [if_neg c11] at H
    have c11b0 : (t373 == 0) = false := beq_eq_false_iff_ne.mpr c11
    have c11b1 : (t373 != 0) = true := bne_iff_ne.mpr c11
    (first | rw [c11b0] | (simp only [i64_w, i32_w]; rw [c11b0]) | skip)
    have H' := Aside0.mk H
    clear H
    go_wp2
    go_meet
    case rel => exact ⟨_, (true), (by first | rfl | (simp; done) | (simp [*]; done)), H', ⟨by first | omega | exact Nat.le_refl _⟩, ⟨by (with_reducible repeat (first | apply Kd.R_alloc | apply Kd.R_drewN | apply Kd.R_drew)); exact Kd.R_mono HO375.out (fun _ hk => hk.2)⟩, ⟨by (with_reducible repeat (first | apply Kd.R_alloc | apply Kd.R_drewN | apply Kd.R_drew)); exact Kd.R_mono HO379.out (fun _ hk => hk.2)⟩, ⟨by repeat (first | (with_reducible first | exact HB.out | apply below_alloc | apply pw_below_drewN | apply below_drew1) | exact HB.out)⟩⟩
  case rest =>
   clear HC7
   try clear c1
   try clear p2
   try clear c4
   try clear c11
   try clear c11b0
   try clear c11b1
   try clear c12
   try clear c12b0
   try clear c12b1
   try clear c13
   try clear c13b0
   try clear c13b1
   obtain ⟨kq, x41_6, rfl, HA, HJ6, HO_5, HO_7, HB⟩ := hcut
   cases kq with
   | zero => exact absurd HA.out (by simp [pannierlaw10_PathUps.j0])
   | succ kj6 =>
    have H := HA.out
    clear HA
    simp only [pannierlaw10_PathUps.j0] at H
    by_cases c14 : x41_6 = true
    ·subst c14
     have H1 : (some true) = some r := by rw [if_pos rfl] at H; exact H
     clear H
     have H := H1
     clear H1
     obtain rfl := Option.some.inj H
     go_wp2
     all_goals (go_ret; exact ⟨by first | rfl | (simp [errW_none, errW_some] <;> rfl) | (simp [*, errW_none, errW_some] <;> rfl), by repeat (first | (with_reducible first | exact HB.out | apply below_alloc | apply pw_below_drewN | apply below_drew1) | exact HB.out)⟩)
    ·replace c14 := Bool.eq_false_iff.mpr c14
     subst c14
     have H1 : ((path_Join.f t372).bind fun t380 => ((path_Join.f t376).bind fun t381 => ((path_Up.f kj6 t380).bind fun bt382 => (if (bt382.2 != (decide ((t372.length : Int) > 0))) = true then (pannierlaw10_PathUps.j1 kj6 t372 t376 t380 t381 true) else (if bt382.2 = true then (if 0 ≤ (wrap64 ((t372.length : Int) - 1)) then (if (wrap64 ((t372.length : Int) - 1)) ≤ (t372.length : Int) then ((path_Join.f (t372.take ((wrap64 ((t372.length : Int) - 1)) : Int).toNat)).bind fun t388 => (if bt382.1.toList = t388.toList then ((path_Under.f bt382.1 t380).bind fun t389 => (pannierlaw10_PathUps.j1 kj6 t372 t376 t380 t381 (!t389))) else (pannierlaw10_PathUps.j1 kj6 t372 t376 t380 t381 true))) else (none)) else (none)) else (pannierlaw10_PathUps.j1 kj6 t372 t376 t380 t381 false)))))) = some r := by rw [if_neg (show ¬ (false = true) by decide)] at H; exact H
     clear H
     have H := H1
     clear H1
     replace H := Option.bind_eq_some_iff.mp H
     obtain ⟨t380, A150, H⟩ := H
     replace H : ((path_Join.f t376).bind fun t381 => ((path_Up.f kj6 t380).bind fun bt382 => (if (bt382.2 != (decide ((t372.length : Int) > 0))) = true then (pannierlaw10_PathUps.j1 kj6 t372 t376 t380 t381 true) else (if bt382.2 = true then (if 0 ≤ (wrap64 ((t372.length : Int) - 1)) then (if (wrap64 ((t372.length : Int) - 1)) ≤ (t372.length : Int) then ((path_Join.f (t372.take ((wrap64 ((t372.length : Int) - 1)) : Int).toNat)).bind fun t388 => (if bt382.1.toList = t388.toList then ((path_Under.f bt382.1 t380).bind fun t389 => (pannierlaw10_PathUps.j1 kj6 t372 t376 t380 t381 (!t389))) else (pannierlaw10_PathUps.j1 kj6 t372 t376 t380 t381 true))) else (none)) else (none)) else (pannierlaw10_PathUps.j1 kj6 t372 t376 t380 t381 false))))) = some r := H
     have A15 := Aside0.mk A150
     clear A150
     replace H := Option.bind_eq_some_iff.mp H
     obtain ⟨t381, A160, H⟩ := H
     replace H : ((path_Up.f kj6 t380).bind fun bt382 => (if (bt382.2 != (decide ((t372.length : Int) > 0))) = true then (pannierlaw10_PathUps.j1 kj6 t372 t376 t380 t381 true) else (if bt382.2 = true then (if 0 ≤ (wrap64 ((t372.length : Int) - 1)) then (if (wrap64 ((t372.length : Int) - 1)) ≤ (t372.length : Int) then ((path_Join.f (t372.take ((wrap64 ((t372.length : Int) - 1)) : Int).toNat)).bind fun t388 => (if bt382.1.toList = t388.toList then ((path_Under.f bt382.1 t380).bind fun t389 => (pannierlaw10_PathUps.j1 kj6 t372 t376 t380 t381 (!t389))) else (pannierlaw10_PathUps.j1 kj6 t372 t376 t380 t381 true))) else (none)) else (none)) else (pannierlaw10_PathUps.j1 kj6 t372 t376 t380 t381 false)))) = some r := H
     have A16 := Aside0.mk A160
     clear A160
     replace H := Option.bind_eq_some_iff.mp H
     obtain ⟨⟨t382, t383⟩, A170, H⟩ := H
     replace H : (if (t383 != (decide ((t372.length : Int) > 0))) = true then (pannierlaw10_PathUps.j1 kj6 t372 t376 t380 t381 true) else (if t383 = true then (if 0 ≤ (wrap64 ((t372.length : Int) - 1)) then (if (wrap64 ((t372.length : Int) - 1)) ≤ (t372.length : Int) then ((path_Join.f (t372.take ((wrap64 ((t372.length : Int) - 1)) : Int).toNat)).bind fun t388 => (if t382.toList = t388.toList then ((path_Under.f t382 t380).bind fun t389 => (pannierlaw10_PathUps.j1 kj6 t372 t376 t380 t381 (!t389))) else (pannierlaw10_PathUps.j1 kj6 t372 t376 t380 t381 true))) else (none)) else (none)) else (pannierlaw10_PathUps.j1 kj6 t372 t376 t380 t381 false))) = some r := H
     have A17 := Aside0.mk A170
     clear A170
     have HC18 := Aside0.mk H
     clear H
     obtain ⟨Ao19, co19, eo19⟩ := Kd.R_slice HO_5.out
     subst eo19
     go_upto_region 9 with (first | ((with_reducible refine gate_callee (f := 22) rfl ?_); refine goesL_ (some 43) rfl rfl Tryd.func22 (by kernel_rfl) rfl #[.slice Ao19 t372.length co19] rfl (by (try simp only [List.map_toArray, List.map_cons, List.map_nil]); first | done | rfl | (simp only [List.length_drop, List.length_take]; rfl)) ?_; (with_reducible refine (path_Join.calls _ _ t372 t380 _ ?side1 ?side2 A15.out).mono ?_); (case side1 => repeat (first | exact (Kd.R_reads' HO_5.out).2.2 | (with_reducible refine Kd.C_alloc ?_ _) | (with_reducible refine Kd.C_drewN ?_ _) | (with_reducible refine Kd.C_drew ?_))); (case side2 => exact (Kd.R_reads' HO_5.out).2.1); rintro e w20 ⟨rfl, hb⟩; refine ⟨_, rfl, ?_⟩; have n0_ := Aside0.mk (Kd.R_below (by (with_reducible repeat (first | apply Kd.R_alloc | apply Kd.R_drewN | apply Kd.R_drew)); exact HO_5.out) hb); have n1_ := Aside0.mk (Kd.R_below (by (with_reducible repeat (first | apply Kd.R_alloc | apply Kd.R_drewN | apply Kd.R_drew)); exact HO_7.out) hb); have n2_ := Aside0.mk (below_step (by repeat (first | (with_reducible first | exact HB.out | apply below_alloc | apply pw_below_drewN | apply below_drew1) | exact HB.out)) hb); clear HO_5; clear HO_7; clear HB; have HO_5 := n0_; have HO_7 := n1_; have HB := n2_; clear n0_ n1_ n2_; (try clear hb); (try clear hb2); (try clear hk); (try clear hi); obtain ⟨Ao21, co21, eo21⟩ := Kd.R_slice HO_7.out; subst eo21) | ((with_reducible refine gate_callee (f := 22) rfl ?_); refine goesL_ (some 45) rfl rfl Tryd.func22 (by kernel_rfl) rfl #[.slice Ao21 t376.length co21] rfl (by (try simp only [List.map_toArray, List.map_cons, List.map_nil]); first | done | rfl | (simp only [List.length_drop, List.length_take]; rfl)) ?_; (with_reducible refine (path_Join.calls _ _ t376 t381 _ ?side1 ?side2 A16.out).mono ?_); (case side1 => repeat (first | exact (Kd.R_reads' HO_7.out).2.2 | (with_reducible refine Kd.C_alloc ?_ _) | (with_reducible refine Kd.C_drewN ?_ _) | (with_reducible refine Kd.C_drew ?_))); (case side2 => exact (Kd.R_reads' HO_7.out).2.1); rintro e w22 ⟨rfl, hb⟩; refine ⟨_, rfl, ?_⟩; have n0_ := Aside0.mk (Kd.R_below (by (with_reducible repeat (first | apply Kd.R_alloc | apply Kd.R_drewN | apply Kd.R_drew)); exact HO_5.out) hb); have n1_ := Aside0.mk (Kd.R_below (by (with_reducible repeat (first | apply Kd.R_alloc | apply Kd.R_drewN | apply Kd.R_drew)); exact HO_7.out) hb); have n2_ := Aside0.mk (below_step (by repeat (first | (with_reducible first | exact HB.out | apply below_alloc | apply pw_below_drewN | apply below_drew1) | exact HB.out)) hb); clear HO_5; clear HO_7; clear HB; have HO_5 := n0_; have HO_7 := n1_; have HB := n2_; clear n0_ n1_ n2_; (try clear hb); (try clear hb2); (try clear hk); (try clear hi)) | ((with_reducible refine gate_callee (f := 34) rfl ?_); refine goesL_ (some 48) rfl rfl Tryd.func34 (by kernel_rfl) rfl #[.string t380] rfl (by (try simp only [List.map_toArray, List.map_cons, List.map_nil]); first | done | rfl | (simp only [List.length_drop, List.length_take]; rfl)) ?_; (with_reducible refine (path_Up.calls kj6 t380 t382 t383 _ A17.out).mono ?_); rintro e w' ⟨rfl, ⟨nd, rfl⟩⟩; refine ⟨_, rfl, ?_⟩))
     (try simp only [Act.put, List.setIfInBounds_toArray, List.set_cons_zero, List.set_cons_succ])
     go_cut [77] (fun v77 wc => ∃ (kq : Nat) (x77_17 : Bool), v77 = .bool x77_17 ∧ Aside0 (pannierlaw10_PathUps.j1 kq t372 t376 t380 t381 x77_17 = some r) ∧ Aside0 (kq ≤ kj6) ∧ Aside0 (Kd.R Kd.string 9 wc w.heap.size (fun k_ => some k_ ≠ ((.slice Ao21 t376.length co21) : Value).ownBlock) (.slice Ao19 t372.length co19) t372) ∧ Aside0 (Kd.R Kd.string 9 wc w.heap.size (fun k_ => some k_ ≠ ((.slice Ao19 t372.length co19) : Value).ownBlock) (.slice Ao21 t376.length co21) t376) ∧ Aside0 (Below w.heap.size w wc))
     case first =>
      have H := HC18.out
      clear HC18
      by_cases c23 : (t383 != (decide ((t372.length : Int) > 0))) = true
      ·rw [if_pos c23] at H
       have c23b0 : (t383 != (decide ((t372.length : Int) > 0))) = true := c23
       (try (have c23n0 : (t383 != (decide (0 < t372.length))) = true := by simpa using c23))
       (try (have c23n1 : (t383 == (decide (0 < t372.length))) = false := by simpa using c23))
       (try (have c23n2 : decide (t383 = (decide (0 < t372.length))) = false := by simpa using c23))
       (try (have c23n3 : ¬ (t383 = (decide (0 < t372.length))) := by simpa using c23))
       (try (have c23b1 : decide (t383 = (decide ((t372.length : Int) > 0))) = false := by simpa using c23))
       (try (have c23b2 : (t383 == (decide ((t372.length : Int) > 0))) = false := by simpa using c23))
       (try (have c23b3 : ¬ (t383 = (decide ((t372.length : Int) > 0))) := by simpa using c23))
       clear c23
       (first | rw [c23b0] | (simp only [i64_w, i32_w]; rw [c23b0]) | skip)
       have H' := Aside0.mk H
       clear H
       go_wp2
       go_meet
       case rel => exact ⟨_, (true), (by first | rfl | (simp; done) | (simp [*]; done)), H', ⟨by have := HJ6.out; first | omega | exact Nat.le_refl _⟩, ⟨by (with_reducible repeat (first | apply Kd.R_alloc | apply Kd.R_drewN | apply Kd.R_drew)); first | exact HO_5.out | exact Kd.R_mono HO_5.out (fun _ hk_ => by have h_ : ∀ (A : Option Addr) (n c : Nat), (Value.slice A n c).ownBlock = A.map (·.block) := fun A _ _ => (by cases A <;> rfl); simpa only [h_] using hk_)⟩, ⟨by (with_reducible repeat (first | apply Kd.R_alloc | apply Kd.R_drewN | apply Kd.R_drew)); first | exact HO_7.out | exact Kd.R_mono HO_7.out (fun _ hk_ => by have h_ : ∀ (A : Option Addr) (n c : Nat), (Value.slice A n c).ownBlock = A.map (·.block) := fun A _ _ => (by cases A <;> rfl); simpa only [h_] using hk_)⟩, ⟨by repeat (first | (with_reducible first | exact HB.out | apply below_alloc | apply pw_below_drewN | apply below_drew1) | exact HB.out)⟩⟩
      ·rw [if_neg c23] at H
       have c23b0 : (t383 != (decide ((t372.length : Int) > 0))) = false := by simpa using c23
       (try (have c23n0 : (t383 != (decide (0 < t372.length))) = false := by simpa using c23))
       (try (have c23n1 : (t383 == (decide (0 < t372.length))) = true := by simpa using c23))
       (try (have c23n2 : decide (t383 = (decide (0 < t372.length))) = true := by simpa using c23))
       (try (have c23b1 : decide (t383 = (decide ((t372.length : Int) > 0))) = true := by simpa using c23))
       (try (have c23b2 : (t383 == (decide ((t372.length : Int) > 0))) = true := by simpa using c23))
       clear c23
       (first | rw [c23b0] | (simp only [i64_w, i32_w]; rw [c23b0]) | skip)
       by_cases c24 : t383 = true
       ·subst c24
        have H1 : (if 0 ≤ (wrap64 ((t372.length : Int) - 1)) then (if (wrap64 ((t372.length : Int) - 1)) ≤ (t372.length : Int) then ((path_Join.f (t372.take ((wrap64 ((t372.length : Int) - 1)) : Int).toNat)).bind fun t388 => (if t382.toList = t388.toList then ((path_Under.f t382 t380).bind fun t389 => (pannierlaw10_PathUps.j1 kj6 t372 t376 t380 t381 (!t389))) else (pannierlaw10_PathUps.j1 kj6 t372 t376 t380 t381 true))) else (none)) else (none)) = some r := by rw [if_pos rfl] at H; exact H
        clear H
        have H := H1
        clear H1
        obtain ⟨ji25, hji25⟩ : ∃ j_ : Int, (wrap64 ((t372.length : Int) - 1)) = j_ := ⟨_, rfl⟩
        replace H : (if 0 ≤ (ji25) then (if (ji25) ≤ (t372.length : Int) then ((path_Join.f (t372.take ((ji25) : Int).toNat)).bind fun t388 => (if t382.toList = t388.toList then ((path_Under.f t382 t380).bind fun t389 => (pannierlaw10_PathUps.j1 kj6 t372 t376 t380 t381 (!t389))) else (pannierlaw10_PathUps.j1 kj6 t372 t376 t380 t381 true))) else (none)) else (none)) = some r := by first | (rw [hji25] at H; exact H) | (simp only [hji25] at H ⊢; exact H)
        have hji25w : (IntKind.i64.wrap ((t372.length : Int) - 1)) = ji25 := (i64_w _).trans hji25
        by_cases c26 : 0 ≤ (ji25)
        ·rw [if_pos c26] at H
         have c26b0 := eq_true c26
         have c26b1 : decide (0 ≤ (ji25)) = true := decide_eq_true c26
         clear c26
         by_cases c27 : (ji25) ≤ (t372.length : Int)
         ·rw [if_pos c27] at H
          have c27b0 := eq_true c27
          have c27b1 : decide ((ji25) ≤ (t372.length : Int)) = true := decide_eq_true c27
          clear c27
          obtain ⟨y384, hy384⟩ : ∃ y_ : List ByteArray, y_ = (t372.take ((ji25) : Int).toNat) := ⟨_, rfl⟩
          replace H : ((path_Join.f y384).bind fun t388 => (if t382.toList = t388.toList then ((path_Under.f t382 t380).bind fun t389 => (pannierlaw10_PathUps.j1 kj6 t372 t376 t380 t381 (!t389))) else (pannierlaw10_PathUps.j1 kj6 t372 t376 t380 t381 true))) = some r := by first | (rw [hy384]; with_reducible exact H) | (have H2_ := (Option.bind_some _ _).symm.trans H; rw [hy384]; with_reducible exact H2_) | (have H2_ := (Option.bind_some _ _).symm.trans H; with_reducible exact H2_) | with_reducible exact H | (rw [hy384]; exact H) | exact H
          have Ny384 := Aside0.mk hy384
          clear hy384
          replace H := Option.bind_eq_some_iff.mp H
          obtain ⟨t388, A280, H⟩ := H
          replace H : (if t382.toList = t388.toList then ((path_Under.f t382 t380).bind fun t389 => (pannierlaw10_PathUps.j1 kj6 t372 t376 t380 t381 (!t389))) else (pannierlaw10_PathUps.j1 kj6 t372 t376 t380 t381 true)) = some r := H
          have A28 := Aside0.mk A280
          clear A280
          by_cases c29 : t382.toList = t388.toList
          ·rw [if_pos c29] at H
           have c29b0 : (t382.toList == t388.toList) = true := beq_iff_eq.mpr c29
           have c29b1 : (t382.toList != t388.toList) = false := bne_eq_false_iff_eq.mpr c29
           clear c29
           replace H := Option.bind_eq_some_iff.mp H
           obtain ⟨t389, A300, H⟩ := H
           replace H : (pannierlaw10_PathUps.j1 kj6 t372 t376 t380 t381 (!t389)) = some r := H
           have A30 := Aside0.mk A300
           clear A300
           have H' := Aside0.mk H
           clear H
           have q31 : ((ji25) : Int) ≤ ((t372.length : Int) : Int) := of_decide_eq_true (by first | (with_reducible assumption) | assumption)
           obtain ⟨i031, hi031, _, hsz31, _⟩ := info_parts info9
           have hroom31 : t372.length ≤ co19 := (Kd.R_reads' HO_5.out).2.1
           have hC31 : Kd.C Kd.string _ Ao19 t372.length t372 := (Kd.R_reads' HO_5.out).2.2
           have hcut31 := cut_to (P := Tryd.prog) 23 9 .i64 Tryd.underlying23 hi031 Ao19 t372.length co19 (ji25) (of_decide_eq_true (by first | (with_reducible assumption) | assumption)) q31 hroom31
           have hr31 := Kd.C_take (m := ((ji25) : Int).toNat) hC31 (by omega)
           have hy31 : y384.length = ((ji25) : Int).toNat := (by rw [Ny384.out, List.length_take]; omega)
           rw [← Ny384.out] at hr31
           rw [← hy31] at hcut31
           have HR387 := Aside0.mk hr31
           have HC387 := Aside0.mk (show y384.length ≤ co19 from by omega)
           clear hr31 hC31 hroom31 hi031 hsz31
           have KY31 := Aside0.mk hy31
           clear hy31
           have KL31 := Aside0.mk (show ((ji25) : Int).toNat ≤ t372.length from by omega)
           replace q31 := eq_true q31
           go_wp2_with (first | (go_at_call 22; (with_reducible refine (path_Join.calls _ _ y384 t388 _ ?side1 ?side2 A28.out).mono ?_); (case side1 => repeat (first | exact (by repeat (first | (with_reducible exact HR387.out) | (with_reducible refine Kd.C_alloc ?_ _) | (with_reducible refine Kd.C_drewN ?_ _) | (with_reducible refine Kd.C_drew ?_) | exact HR387.out)) | (with_reducible refine Kd.C_alloc ?_ _) | (with_reducible refine Kd.C_drewN ?_ _) | (with_reducible refine Kd.C_drew ?_))); (case side2 => exact HC387.out); rintro e w32 ⟨rfl, hb⟩; have n0_ := Aside0.mk (Kd.R_below (by (with_reducible repeat (first | apply Kd.R_alloc | apply Kd.R_drewN | apply Kd.R_drew)); exact HO_5.out) hb); have n1_ := Aside0.mk (Kd.R_below (by (with_reducible repeat (first | apply Kd.R_alloc | apply Kd.R_drewN | apply Kd.R_drew)); exact HO_7.out) hb); have n2_ := Aside0.mk (Kd.C_below (by repeat (first | (with_reducible exact HR387.out) | (with_reducible refine Kd.C_alloc ?_ _) | (with_reducible refine Kd.C_drewN ?_ _) | (with_reducible refine Kd.C_drew ?_) | exact HR387.out)) hb); have n3_ := Aside0.mk (below_step (by repeat (first | (with_reducible first | exact HB.out | apply below_alloc | apply pw_below_drewN | apply below_drew1) | exact HB.out)) hb); clear HO_5; clear HO_7; clear HR387; clear HB; have HO_5 := n0_; have HO_7 := n1_; have HR387 := n2_; have HB := n3_; clear n0_ n1_ n2_ n3_; (try clear hb); (try clear hb2); (try clear hk); (try clear hi)) | (go_at_call 27; (with_reducible refine (path_Under.calls t382 t380 t389 _ A30.out).mono ?_); rintro e w' ⟨rfl, ⟨nd, rfl⟩⟩))
           go_meet
           case rel => exact ⟨_, (!t389), (by first | rfl | (simp; done) | (simp [*]; done)), H', ⟨by have := HJ6.out; first | omega | exact Nat.le_refl _⟩, ⟨by (with_reducible repeat (first | apply Kd.R_alloc | apply Kd.R_drewN | apply Kd.R_drew)); first | exact HO_5.out | exact Kd.R_mono HO_5.out (fun _ hk_ => by have h_ : ∀ (A : Option Addr) (n c : Nat), (Value.slice A n c).ownBlock = A.map (·.block) := fun A _ _ => (by cases A <;> rfl); simpa only [h_] using hk_)⟩, ⟨by (with_reducible repeat (first | apply Kd.R_alloc | apply Kd.R_drewN | apply Kd.R_drew)); first | exact HO_7.out | exact Kd.R_mono HO_7.out (fun _ hk_ => by have h_ : ∀ (A : Option Addr) (n c : Nat), (Value.slice A n c).ownBlock = A.map (·.block) := fun A _ _ => (by cases A <;> rfl); simpa only [h_] using hk_)⟩, ⟨by repeat (first | (with_reducible first | exact HB.out | apply below_alloc | apply pw_below_drewN | apply below_drew1) | exact HB.out)⟩⟩
          ·rw [if_neg c29] at H
           have c29b0 : (t382.toList == t388.toList) = false := beq_eq_false_iff_ne.mpr c29
           have c29b1 : (t382.toList != t388.toList) = true := bne_iff_ne.mpr c29
           have H' := Aside0.mk H
           clear H
           have q33 : ((ji25) : Int) ≤ ((t372.length : Int) : Int) := of_decide_eq_true (by first | (with_reducible assumption) | assumption)
           obtain ⟨i033, hi033, _, hsz33, _⟩ := info_parts info9
           have hroom33 : t372.length ≤ co19 := (Kd.R_reads' HO_5.out).2.1
           have hC33 : Kd.C Kd.string _ Ao19 t372.length t372 := (Kd.R_reads' HO_5.out).2.2
           have hcut33 := cut_to (P := Tryd.prog) 23 9 .i64 Tryd.underlying23 hi033 Ao19 t372.length co19 (ji25) (of_decide_eq_true (by first | (with_reducible assumption) | assumption)) q33 hroom33
           have hr33 := Kd.C_take (m := ((ji25) : Int).toNat) hC33 (by omega)
           have hy33 : y384.length = ((ji25) : Int).toNat := (by rw [Ny384.out, List.length_take]; omega)
           rw [← Ny384.out] at hr33
           rw [← hy33] at hcut33
           have HR387 := Aside0.mk hr33
           have HC387 := Aside0.mk (show y384.length ≤ co19 from by omega)
           clear hr33 hC33 hroom33 hi033 hsz33
           have KY33 := Aside0.mk hy33
           clear hy33
           have KL33 := Aside0.mk (show ((ji25) : Int).toNat ≤ t372.length from by omega)
           replace q33 := eq_true q33
           go_wp2_with (first | (go_at_call 22; (with_reducible refine (path_Join.calls _ _ y384 t388 _ ?side1 ?side2 A28.out).mono ?_); (case side1 => repeat (first | exact (by repeat (first | (with_reducible exact HR387.out) | (with_reducible refine Kd.C_alloc ?_ _) | (with_reducible refine Kd.C_drewN ?_ _) | (with_reducible refine Kd.C_drew ?_) | exact HR387.out)) | (with_reducible refine Kd.C_alloc ?_ _) | (with_reducible refine Kd.C_drewN ?_ _) | (with_reducible refine Kd.C_drew ?_))); (case side2 => exact HC387.out); rintro e w34 ⟨rfl, hb⟩; have n0_ := Aside0.mk (Kd.R_below (by (with_reducible repeat (first | apply Kd.R_alloc | apply Kd.R_drewN | apply Kd.R_drew)); exact HO_5.out) hb); have n1_ := Aside0.mk (Kd.R_below (by (with_reducible repeat (first | apply Kd.R_alloc | apply Kd.R_drewN | apply Kd.R_drew)); exact HO_7.out) hb); have n2_ := Aside0.mk (Kd.C_below (by repeat (first | (with_reducible exact HR387.out) | (with_reducible refine Kd.C_alloc ?_ _) | (with_reducible refine Kd.C_drewN ?_ _) | (with_reducible refine Kd.C_drew ?_) | exact HR387.out)) hb); have n3_ := Aside0.mk (below_step (by repeat (first | (with_reducible first | exact HB.out | apply below_alloc | apply pw_below_drewN | apply below_drew1) | exact HB.out)) hb); clear HO_5; clear HO_7; clear HR387; clear HB; have HO_5 := n0_; have HO_7 := n1_; have HR387 := n2_; have HB := n3_; clear n0_ n1_ n2_ n3_; (try clear hb); (try clear hb2); (try clear hk); (try clear hi)))
           go_meet
           case rel => exact ⟨_, (true), (by first | rfl | (simp; done) | (simp [*]; done)), H', ⟨by have := HJ6.out; first | omega | exact Nat.le_refl _⟩, ⟨by (with_reducible repeat (first | apply Kd.R_alloc | apply Kd.R_drewN | apply Kd.R_drew)); first | exact HO_5.out | exact Kd.R_mono HO_5.out (fun _ hk_ => by have h_ : ∀ (A : Option Addr) (n c : Nat), (Value.slice A n c).ownBlock = A.map (·.block) := fun A _ _ => (by cases A <;> rfl); simpa only [h_] using hk_)⟩, ⟨by (with_reducible repeat (first | apply Kd.R_alloc | apply Kd.R_drewN | apply Kd.R_drew)); first | exact HO_7.out | exact Kd.R_mono HO_7.out (fun _ hk_ => by have h_ : ∀ (A : Option Addr) (n c : Nat), (Value.slice A n c).ownBlock = A.map (·.block) := fun A _ _ => (by cases A <;> rfl); simpa only [h_] using hk_)⟩, ⟨by repeat (first | (with_reducible first | exact HB.out | apply below_alloc | apply pw_below_drewN | apply below_drew1) | exact HB.out)⟩⟩
         ·rw [if_neg c27] at H
          exact absurd H (by simp)
        ·rw [if_neg c26] at H
         exact absurd H (by simp)
       ·replace c24 := Bool.eq_false_iff.mpr c24
        subst c24
        have H1 : (pannierlaw10_PathUps.j1 kj6 t372 t376 t380 t381 false) = some r := by rw [if_neg (show ¬ (false = true) by decide)] at H; exact H
        clear H
        have H := H1
        clear H1
        have H' := Aside0.mk H
        clear H
        go_wp2
        go_meet
        case rel => exact ⟨_, (false), (by first | rfl | (simp; done) | (simp [*]; done)), H', ⟨by have := HJ6.out; first | omega | exact Nat.le_refl _⟩, ⟨by (with_reducible repeat (first | apply Kd.R_alloc | apply Kd.R_drewN | apply Kd.R_drew)); first | exact HO_5.out | exact Kd.R_mono HO_5.out (fun _ hk_ => by have h_ : ∀ (A : Option Addr) (n c : Nat), (Value.slice A n c).ownBlock = A.map (·.block) := fun A _ _ => (by cases A <;> rfl); simpa only [h_] using hk_)⟩, ⟨by (with_reducible repeat (first | apply Kd.R_alloc | apply Kd.R_drewN | apply Kd.R_drew)); first | exact HO_7.out | exact Kd.R_mono HO_7.out (fun _ hk_ => by have h_ : ∀ (A : Option Addr) (n c : Nat), (Value.slice A n c).ownBlock = A.map (·.block) := fun A _ _ => (by cases A <;> rfl); simpa only [h_] using hk_)⟩, ⟨by repeat (first | (with_reducible first | exact HB.out | apply below_alloc | apply pw_below_drewN | apply below_drew1) | exact HB.out)⟩⟩
     case rest =>
      clear HC18
      try clear c1
      try clear c2
      try clear p2
      try clear c3
      try clear q3
      try clear c4
      try clear p6
      try clear c11
      try clear c11b0
      try clear c11b1
      try clear c12
      try clear c12b0
      try clear c12b1
      try clear c13
      try clear c13b0
      try clear c13b1
      try clear c14
      try clear c16
      try clear c17
      try clear c22
      try clear c23
      try clear c23b0
      try clear c23b1
      try clear c23b2
      try clear c24
      try clear c26
      try clear c26b0
      try clear c26b1
      try clear c27
      try clear c27b0
      try clear c27b1
      try clear c29
      try clear c29b0
      try clear c29b1
      try clear q31
      try clear q33
      try clear c34
      try clear p2
      try clear q31
      try clear q33
      obtain ⟨kq, x77_17, rfl, HA, HJ17, HO_5, HO_7, HB⟩ := hcut
      cases kq with
      | zero => exact absurd HA.out (by simp [pannierlaw10_PathUps.j1])
      | succ kj17 =>
       have H := HA.out
       clear HA
       simp only [pannierlaw10_PathUps.j1] at H
       by_cases c35 : x77_17 = true
       ·subst c35
        have H1 : (some false) = some r := by rw [if_pos rfl] at H; exact H
        clear H
        have H := H1
        clear H1
        obtain rfl := Option.some.inj H
        go_wp2
        all_goals (go_ret; exact ⟨by first | rfl | (simp [errW_none, errW_some] <;> rfl) | (simp [*, errW_none, errW_some] <;> rfl), by repeat (first | (with_reducible first | exact HB.out | apply below_alloc | apply pw_below_drewN | apply below_drew1) | exact HB.out)⟩)
       ·replace c35 := Bool.eq_false_iff.mpr c35
        subst c35
        have H1 : (if (t376.length : Int) ≤ (t372.length : Int) then (if 0 ≤ (t376.length : Int) then ((pannierlaw10_same.f kj17 (t372.take ((t376.length : Int) : Int).toNat) t376).bind fun t394 => ((path_Under.f t381 t380).bind fun t395 => (some (t395 == t394)))) else (none)) else ((path_Under.f t381 t380).bind fun t396 => (some (t396 == false)))) = some r := by rw [if_neg (show ¬ (false = true) by decide)] at H; exact H
        clear H
        have H := H1
        clear H1
        by_cases c36 : (t376.length : Int) ≤ (t372.length : Int)
        ·rw [if_pos c36] at H
         have c36b0 : decide ((t376.length : Int) ≤ (t372.length : Int)) = true := decide_eq_true c36
         have c36b1 : decide (t376.length ≤ t372.length) = true := decide_eq_true (Int.ofNat_le.mp c36)
         clear c36
         by_cases c37 : 0 ≤ (t376.length : Int)
         ·rw [if_pos c37] at H
          have c37b0 := eq_true c37
          have c37b1 : decide (0 ≤ (t376.length : Int)) = true := decide_eq_true c37
          clear c37
          have c38b0 := eq_true (of_decide_eq_true (by first | (with_reducible assumption) | assumption) : (t376.length : Int) ≤ (t372.length : Int))
          obtain ⟨y390, hy390⟩ : ∃ y_ : List ByteArray, y_ = (t372.take ((t376.length : Int) : Int).toNat) := ⟨_, rfl⟩
          replace H : ((pannierlaw10_same.f kj17 y390 t376).bind fun t394 => ((path_Under.f t381 t380).bind fun t395 => (some (t395 == t394)))) = some r := by first | (rw [hy390]; with_reducible exact H) | (have H2_ := (Option.bind_some _ _).symm.trans H; rw [hy390]; with_reducible exact H2_) | (have H2_ := (Option.bind_some _ _).symm.trans H; with_reducible exact H2_) | with_reducible exact H | (rw [hy390]; exact H) | exact H
          have Ny390 := Aside0.mk hy390
          clear hy390
          replace H := Option.bind_eq_some_iff.mp H
          obtain ⟨t394, A390, H⟩ := H
          replace H : ((path_Under.f t381 t380).bind fun t395 => (some (t395 == t394))) = some r := H
          have A39 := Aside0.mk A390
          clear A390
          replace H := Option.bind_eq_some_iff.mp H
          obtain ⟨t395, A400, H⟩ := H
          replace H : (some (t395 == t394)) = some r := H
          have A40 := Aside0.mk A400
          clear A400
          obtain rfl := Option.some.inj H
          have q41 : ((t376.length : Int) : Int) ≤ ((t372.length : Int) : Int) := of_decide_eq_true (by first | (with_reducible assumption) | assumption)
          obtain ⟨i041, hi041, _, hsz41, _⟩ := info_parts info9
          have hroom41 : t372.length ≤ co19 := (Kd.R_reads' HO_5.out).2.1
          have hC41 : Kd.C Kd.string _ Ao19 t372.length t372 := (Kd.R_reads' HO_5.out).2.2
          have hcut41 := cut_to (P := Tryd.prog) 23 9 .i64 Tryd.underlying23 hi041 Ao19 t372.length co19 (t376.length : Int) (of_decide_eq_true (by first | (with_reducible assumption) | assumption)) q41 hroom41
          have hr41 := Kd.C_take (m := ((t376.length : Int) : Int).toNat) hC41 (by omega)
          have hy41 : y390.length = ((t376.length : Int) : Int).toNat := (by rw [Ny390.out, List.length_take]; omega)
          rw [← Ny390.out] at hr41
          rw [← hy41] at hcut41
          have HR393 := Aside0.mk hr41
          have HC393 := Aside0.mk (show y390.length ≤ co19 from by omega)
          clear hr41 hC41 hroom41 hi041 hsz41
          have KY41 := Aside0.mk hy41
          clear hy41
          have KL41 := Aside0.mk (show ((t376.length : Int) : Int).toNat ≤ t372.length from by omega)
          replace q41 := eq_true q41
          go_wp2_with (first | (go_at_call 19; (with_reducible refine (pannierlaw10_same.calls kj17 _ _ y390 _ _ t376 t394 _ ?side1 ?side2 ?side3 ?side4 A39.out).mono ?_); (case side1 => repeat (first | exact (by repeat (first | (with_reducible exact HR393.out) | (with_reducible refine Kd.C_alloc ?_ _) | (with_reducible refine Kd.C_drewN ?_ _) | (with_reducible refine Kd.C_drew ?_) | exact HR393.out)) | (with_reducible refine Kd.C_alloc ?_ _) | (with_reducible refine Kd.C_drewN ?_ _) | (with_reducible refine Kd.C_drew ?_))); (case side2 => exact HC393.out); (case side3 => repeat (first | exact (Kd.R_reads' HO_7.out).2.2 | (with_reducible refine Kd.C_alloc ?_ _) | (with_reducible refine Kd.C_drewN ?_ _) | (with_reducible refine Kd.C_drew ?_))); (case side4 => exact (Kd.R_reads' HO_7.out).2.1); rintro e w' ⟨rfl, ⟨nd, rfl⟩⟩) | ((with_reducible refine gate_callee (f := 27) rfl ?_); refine goesL_ (some 93) rfl rfl Tryd.func27 (by kernel_rfl) rfl #[.string t381, .string t380] rfl (by (try simp only [List.map_toArray, List.map_cons, List.map_nil]); first | done | rfl | (simp only [List.length_drop, List.length_take]; rfl)) ?_; (with_reducible refine (path_Under.calls t381 t380 t395 _ A40.out).mono ?_); rintro e w' ⟨rfl, ⟨nd, rfl⟩⟩; refine ⟨_, rfl, ?_⟩))
          all_goals (go_ret; exact ⟨by first | rfl | (simp [errW_none, errW_some] <;> rfl) | (simp [*, errW_none, errW_some] <;> rfl), by repeat (first | (with_reducible first | exact HB.out | apply below_alloc | apply pw_below_drewN | apply below_drew1) | exact HB.out)⟩)
         ·rw [if_neg c37] at H
          exact absurd H (by simp)
        ·rw [if_neg c36] at H
         have c36b0 : decide ((t376.length : Int) ≤ (t372.length : Int)) = false := decide_eq_false c36
         have c36b1 : decide (t376.length ≤ t372.length) = false := decide_eq_false (fun h => c36 (Int.ofNat_le.mpr h))
         clear c36
         replace H := Option.bind_eq_some_iff.mp H
         obtain ⟨t396, A420, H⟩ := H
         replace H : (some (t396 == false)) = some r := H
         have A42 := Aside0.mk A420
         clear A420
         obtain rfl := Option.some.inj H
         go_wp2_with (first | ((with_reducible refine gate_callee (f := 27) rfl ?_); refine goesL_ (some 93) rfl rfl Tryd.func27 (by kernel_rfl) rfl #[.string t381, .string t380] rfl (by (try simp only [List.map_toArray, List.map_cons, List.map_nil]); first | done | rfl | (simp only [List.length_drop, List.length_take]; rfl)) ?_; (with_reducible refine (path_Under.calls t381 t380 t396 _ A42.out).mono ?_); rintro e w' ⟨rfl, ⟨nd, rfl⟩⟩; refine ⟨_, rfl, ?_⟩))
         all_goals (go_ret; exact ⟨by first | rfl | (simp [errW_none, errW_some] <;> rfl) | (simp [*, errW_none, errW_some] <;> rfl), by repeat (first | (with_reducible first | exact HB.out | apply below_alloc | apply pw_below_drewN | apply below_drew1) | exact HB.out)⟩)
 ·replace c4 := Bool.eq_false_iff.mpr c4
  subst c4
  have H1 : (some false) = some r := by rw [if_neg (show ¬ (false = true) by decide)] at H; exact H
  clear H
  have H := H1
  clear H1
  obtain rfl := Option.some.inj H
  go_enter Tryd.func14, Tryd.ntmps14
  go_wp2_with (first | ((with_reducible refine gate_callee (f := 16) rfl ?_); refine goesL_ (some 14) rfl rfl Tryd.func16 (by kernel_rfl) rfl #[] rfl (by (try simp only [List.map_toArray, List.map_cons, List.map_nil]); first | done | rfl | (simp only [List.length_drop, List.length_take]; rfl)) ?_; (with_reducible refine (pannierlaw10_cleans.calls k  false _ A3.out ?hGG).mono ?_); (case hGG => exact GG_below HGG.out (by repeat (first | (with_reducible first | exact HB.out | apply below_alloc | apply pw_below_drewN | apply below_drew1) | exact HB.out))); rintro e w43 ⟨rfl, hb⟩; refine ⟨_, rfl, ?_⟩; have n0_ := Aside0.mk (below_step (by repeat (first | (with_reducible first | exact HB.out | apply below_alloc | apply pw_below_drewN | apply below_drew1) | exact HB.out)) hb); clear HB; have HB := n0_; clear n0_; (try clear hb); (try clear hb2); (try clear hk); (try clear hi)))
  all_goals (go_ret; exact ⟨by first | rfl | (simp [errW_none, errW_some] <;> rfl) | (simp [*, errW_none, errW_some] <;> rfl), by repeat (first | (with_reducible first | exact HB.out | apply below_alloc | apply pw_below_drewN | apply below_drew1) | exact HB.out)⟩)

/-- THE ONE PURE STATEMENT of pannierlaw10_PathUps: yours. -/
def pannierlaw10_PathUps.Pure : Prop := ∀ (a0 : ByteArray) (a1 : ByteArray), a0.size ≤ 140737488351232 → a1.size ≤ 140737488351232 → ∃ k, pannierlaw10_PathUps.f k a0 a1 = some true
theorem pannierlaw10_PathUps.walk (P : pannierlaw10_PathUps.Pure) (a0 : ByteArray) (a1 : ByteArray) (w : World) (w0 : a0.size ≤ 140737488351232) (w1 : a1.size ≤ 140737488351232) (hGG0 : GG w) :
  Calls Tryd.prog 14 #[.string a0, .string a1] w fun e w' => e = .returned (.bool true) ∧ Below w.heap.size w w' := by
 obtain ⟨k, h⟩ := P a0 a1 w0 w1
 refine (pannierlaw10_PathUps.calls k a0 a1 true w h hGG0).mono ?_
 rintro e w' ⟨rfl, hd⟩
 exact ⟨rfl, hd⟩

end Go.Proofs.YtcfhijegmmdpkaaDoor.XA
