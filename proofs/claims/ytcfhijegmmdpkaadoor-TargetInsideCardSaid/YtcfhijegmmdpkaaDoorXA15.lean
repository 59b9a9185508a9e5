-- Written by a program of this session (wip/tools/xprint.py) out of the translation's print. Lean checks it.
import Derived.Test.YtcfhijegmmdpkaaDoorXA0
import Derived.Test.YtcfhijegmmdpkaaDoorESound
import Derived.Test.YtcfhijegmmdpkaaDoorXA1
import Derived.Test.YtcfhijegmmdpkaaDoorXA2
import Derived.Test.YtcfhijegmmdpkaaDoorXA5
import Derived.Test.YtcfhijegmmdpkaaDoorXA7
import Derived.Test.YtcfhijegmmdpkaaDoorEResolve
namespace Go.Proofs.YtcfhijegmmdpkaaDoor.XA
open Go.RowKit Go.Proofs.YtcfhijegmmdpkaaDoorW.PrintWords Go.Proofs.YtcfhijegmmdpkaaDoorW.PrintLast Go.Proofs.YtcfhijegmmdpkaaDoorW.PrintMore
attribute [local go_sem] max2_int min2_int max_two min_two max_three min_three max_four min_four   -- for this text's walks alone
set_option linter.unusedVariables false
set_option linter.unusedSimpArgs false

/-! ### pannierlaw11_TargetInside: function 9 -/
mutual
def pannierlaw11_TargetInside.j0 : Nat → ByteArray → ByteArray → Bool → Option (Bool)
 | 0, _, _, _ => none
 | k + 1, x1, x5, x27 => if x27 = true then (some true) else ((target_Resolve.f x5 x1).bind fun bt307 => (if bt307.2 = 0 then ((path_Parts.f x5).bind fun t309 => ((pannierref10_Split.f k x1).bind fun t312 => (pannierlaw11_TargetInside.l0 k bt307.1 (t309.length : Int) t312 (t312.length : Int) 0))) else (some (bt307.1.toList == ([] : List UInt8)))))
def pannierlaw11_TargetInside.l0 : Nat → ByteArray → Int → List ByteArray → Int → Int → Option (Bool)
 | 0, _, _, _, _, _ => none
 | k + 1, x7, x9, x42, x43, x44 => if x44 < x43 then (if 0 ≤ x44 then (if x44 < (x42.length : Int) then (if (rdOf ByteArray.empty x42 x44).toList = ([46, 46] : List UInt8) then (if (wrap64 (x9 - 1)) < 0 then (some false) else (pannierlaw11_TargetInside.l0 k x7 (wrap64 (x9 - 1)) x42 x43 (wrap64 (x44 + 1)))) else (if (wrap64 (x9 + 1)) < 0 then (some false) else (pannierlaw11_TargetInside.l0 k x7 (wrap64 (x9 + 1)) x42 x43 (wrap64 (x44 + 1))))) else (none)) else (none)) else (if x7.toList = ([] : List UInt8) then (some (x9 == 0)) else ((path_Clean.f k x7).bind fun bt316 => (if bt316.2 = 0 then ((path_Join.f bt316.1).bind fun t320 => (if t320.toList = x7.toList then (some ((bt316.1.length : Int) == x9)) else (some false))) else (some false))))
end
def pannierlaw11_TargetInside.f (k : Nat) (a0 : ByteArray) (a1 : ByteArray) : Option (Bool) := (pannierlaw11_points.f k).bind fun t304 => (if t304 = true then ((pannierlaw11_clean.f k a0).bind fun bt305 => (if bt305.2 = true then (pannierlaw11_TargetInside.j0 k a1 bt305.1 (decide ((a1.size : Int) > 1000))) else (pannierlaw11_TargetInside.j0 k a1 bt305.1 true))) else (some false))
theorem pannierlaw11_TargetInside.mono_l : ∀ k, (∀ y0 y1 y2, LeO (pannierlaw11_TargetInside.j0 k y0 y1 y2) (pannierlaw11_TargetInside.j0 (k + 1) y0 y1 y2)) ∧ (∀ y0 y1 y2 y3 y4, LeO (pannierlaw11_TargetInside.l0 k y0 y1 y2 y3 y4) (pannierlaw11_TargetInside.l0 (k + 1) y0 y1 y2 y3 y4))
 | 0 => ⟨fun _ _ _ r h => by simp [pannierlaw11_TargetInside.j0] at h, fun _ _ _ _ _ r h => by simp [pannierlaw11_TargetInside.l0] at h⟩
 | k + 1 => by
  obtain ⟨ih0, ih1⟩ := pannierlaw11_TargetInside.mono_l k
  refine ⟨?_, ?_⟩
  ·intro y0 y1 y2
   unfold pannierlaw11_TargetInside.j0
   repeat' first
   | (with_reducible exact ih0 _ _ _)
   | (with_reducible exact ih1 _ _ _ _ _)
   | (with_reducible exact pannierlaw11_clean.mono _ _)
   | (with_reducible exact pannierlaw11_points.mono _)
   | (with_reducible exact pannierref10_Split.mono _ _)
   | (with_reducible exact path_Clean.mono _ _)
   | (with_reducible exact LeO.refl _)
   | (with_reducible exact LeO.none _)
   | (with_reducible refine LeO.ite ?_ ?_)
   | (with_reducible refine LeO.bind ?_ (fun _ => ?_))
   | exact ih0 _ _ _
   | exact ih1 _ _ _ _ _
   | exact pannierlaw11_clean.mono _ _
   | exact pannierlaw11_points.mono _
   | exact pannierref10_Split.mono _ _
   | exact path_Clean.mono _ _
   | exact LeO.none _
   | refine LeO.ite ?_ ?_
   | refine LeO.bind ?_ (fun _ => ?_)
  ·intro y0 y1 y2 y3 y4
   unfold pannierlaw11_TargetInside.l0
   repeat' first
   | (with_reducible exact ih0 _ _ _)
   | (with_reducible exact ih1 _ _ _ _ _)
   | (with_reducible exact pannierlaw11_clean.mono _ _)
   | (with_reducible exact pannierlaw11_points.mono _)
   | (with_reducible exact pannierref10_Split.mono _ _)
   | (with_reducible exact path_Clean.mono _ _)
   | (with_reducible exact LeO.refl _)
   | (with_reducible exact LeO.none _)
   | (with_reducible refine LeO.ite ?_ ?_)
   | (with_reducible refine LeO.bind ?_ (fun _ => ?_))
   | exact ih0 _ _ _
   | exact ih1 _ _ _ _ _
   | exact pannierlaw11_clean.mono _ _
   | exact pannierlaw11_points.mono _
   | exact pannierref10_Split.mono _ _
   | exact path_Clean.mono _ _
   | exact LeO.none _
   | refine LeO.ite ?_ ?_
   | refine LeO.bind ?_ (fun _ => ?_)
theorem pannierlaw11_TargetInside.mono : ∀ a0 a1 k, LeO (pannierlaw11_TargetInside.f k a0 a1) (pannierlaw11_TargetInside.f (k + 1) a0 a1) := by
 intro a0 a1 k
 obtain ⟨ih0, ih1⟩ := pannierlaw11_TargetInside.mono_l k
 unfold pannierlaw11_TargetInside.f
 repeat' first
   | (with_reducible exact ih0 _ _ _)
   | (with_reducible exact ih1 _ _ _ _ _)
   | (with_reducible exact pannierlaw11_clean.mono _ _)
   | (with_reducible exact pannierlaw11_points.mono _)
   | (with_reducible exact pannierref10_Split.mono _ _)
   | (with_reducible exact path_Clean.mono _ _)
   | (with_reducible exact LeO.refl _)
   | (with_reducible exact LeO.none _)
   | (with_reducible refine LeO.ite ?_ ?_)
   | (with_reducible refine LeO.bind ?_ (fun _ => ?_))
   | exact ih0 _ _ _
   | exact ih1 _ _ _ _ _
   | exact pannierlaw11_clean.mono _ _
   | exact pannierlaw11_points.mono _
   | exact pannierref10_Split.mono _ _
   | exact path_Clean.mono _ _
   | exact LeO.none _
   | refine LeO.ite ?_ ?_
   | refine LeO.bind ?_ (fun _ => ?_)
set_option maxHeartbeats 8000000 in
set_option maxRecDepth 100000 in
theorem pannierlaw11_TargetInside.calls (k : Nat) (a0 : ByteArray) (a1 : ByteArray) (r : Bool) (w : World) (h : pannierlaw11_TargetInside.f k a0 a1 = some r) (hGG0 : GG w) :
  Calls Tryd.prog 9 #[.string a0, .string a1] w fun e w' => e = .returned (.bool r) ∧ Below w.heap.size w w' := by
 have HGG := Aside0.mk hGG0
 clear hGG0
 have HB := Aside0.mk (Below.refl w.heap.size w)
 have H : ((pannierlaw11_points.f k).bind fun t304 => (if t304 = true then ((pannierlaw11_clean.f k a0).bind fun bt305 => (if bt305.2 = true then (pannierlaw11_TargetInside.j0 k a1 bt305.1 (decide ((a1.size : Int) > 1000))) else (pannierlaw11_TargetInside.j0 k a1 bt305.1 true))) else (some false))) = some r := h
 clear h
 replace H := Option.bind_eq_some_iff.mp H
 obtain ⟨t304, A30, H⟩ := H
 replace H : (if t304 = true then ((pannierlaw11_clean.f k a0).bind fun bt305 => (if bt305.2 = true then (pannierlaw11_TargetInside.j0 k a1 bt305.1 (decide ((a1.size : Int) > 1000))) else (pannierlaw11_TargetInside.j0 k a1 bt305.1 true))) else (some false)) = some r := H
 have A3 := Aside0.mk A30
 clear A30
 by_cases c4 : t304 = true
 ·subst c4
  have H1 : ((pannierlaw11_clean.f k a0).bind fun bt305 => (if bt305.2 = true then (pannierlaw11_TargetInside.j0 k a1 bt305.1 (decide ((a1.size : Int) > 1000))) else (pannierlaw11_TargetInside.j0 k a1 bt305.1 true))) = some r := by rw [if_pos rfl] at H; exact H
  clear H
  have H := H1
  clear H1
  replace H := Option.bind_eq_some_iff.mp H
  obtain ⟨⟨t305, t306⟩, A50, H⟩ := H
  replace H : (if t306 = true then (pannierlaw11_TargetInside.j0 k a1 t305 (decide ((a1.size : Int) > 1000))) else (pannierlaw11_TargetInside.j0 k a1 t305 true)) = some r := H
  have A5 := Aside0.mk A50
  clear A50
  have HC6 := Aside0.mk H
  clear H
  go_enter Tryd.func9, Tryd.ntmps9
  go_upto_region 4 with (first | ((with_reducible refine gate_callee (f := 28) rfl ?_); refine goesL_ (some 14) rfl rfl Tryd.func28 (by kernel_rfl) rfl #[] rfl (by (try simp only [List.map_toArray, List.map_cons, List.map_nil]); first | done | rfl | (simp only [List.length_drop, List.length_take]; rfl)) ?_; (with_reducible refine (pannierlaw11_points.calls k  true _ A3.out ?hGG).mono ?_); (case hGG => exact GG_below HGG.out (by repeat (first | (with_reducible first | exact HB.out | apply below_alloc | apply pw_below_drewN | apply below_drew1) | exact HB.out))); rintro e w7 ⟨rfl, hb⟩; refine ⟨_, rfl, ?_⟩; have n0_ := Aside0.mk (below_step (by repeat (first | (with_reducible first | exact HB.out | apply below_alloc | apply pw_below_drewN | apply below_drew1) | exact HB.out)) hb); clear HB; have HB := n0_; clear n0_; (try clear hb); (try clear hb2); (try clear hk); (try clear hi)) | ((with_reducible refine gate_callee (f := 29) rfl ?_); refine goesL_ (some 18) rfl rfl Tryd.func29 (by kernel_rfl) rfl #[.string a0] rfl (by (try simp only [List.map_toArray, List.map_cons, List.map_nil]); first | done | rfl | (simp only [List.length_drop, List.length_take]; rfl)) ?_; (with_reducible refine (pannierlaw11_clean.calls k a0 t305 t306 _ A5.out ?hGG).mono ?_); (case hGG => exact GG_below HGG.out (by repeat (first | (with_reducible first | exact HB.out | apply below_alloc | apply pw_below_drewN | apply below_drew1) | exact HB.out))); rintro e w8 ⟨rfl, hb⟩; refine ⟨_, rfl, ?_⟩; have n0_ := Aside0.mk (below_step (by repeat (first | (with_reducible first | exact HB.out | apply below_alloc | apply pw_below_drewN | apply below_drew1) | exact HB.out)) hb); clear HB; have HB := n0_; clear n0_; (try clear hb); (try clear hb2); (try clear hk); (try clear hi)))
  (try simp only [Act.put, List.setIfInBounds_toArray, List.set_cons_zero, List.set_cons_succ])
  go_cut [27] (fun v27 wc => ∃ (kq : Nat) (x27_5 : Bool), v27 = .bool x27_5 ∧ Aside0 (pannierlaw11_TargetInside.j0 kq a1 t305 x27_5 = some r) ∧ Aside0 (kq ≤ k) ∧ Aside0 (Below w.heap.size w wc))
  case first =>
   have H := HC6.out
   clear HC6
   by_cases c9 : t306 = true
   ·subst c9
    have H1 : (pannierlaw11_TargetInside.j0 k a1 t305 (decide ((a1.size : Int) > 1000))) = some r := by rw [if_pos rfl] at H; exact H
    clear H
    have H := H1
    clear H1
    have H' := Aside0.mk H
    clear H
    go_wp2
    go_meet
    case rel => exact ⟨_, (decide ((a1.size : Int) > 1000)), (by first | rfl | (simp; done) | (simp [*]; done)), H', ⟨by first | omega | exact Nat.le_refl _⟩, ⟨by repeat (first | (with_reducible first | exact HB.out | apply below_alloc | apply pw_below_drewN | apply below_drew1) | exact HB.out)⟩⟩
   ·replace c9 := Bool.eq_false_iff.mpr c9
    subst c9
    have H1 : (pannierlaw11_TargetInside.j0 k a1 t305 true) = some r := by rw [if_neg (show ¬ (false = true) by decide)] at H; exact H
    clear H
    have H := H1
    clear H1
    have H' := Aside0.mk H
    clear H
    go_wp2
    go_meet
    case rel => exact ⟨_, (true), (by first | rfl | (simp; done) | (simp [*]; done)), H', ⟨by first | omega | exact Nat.le_refl _⟩, ⟨by repeat (first | (with_reducible first | exact HB.out | apply below_alloc | apply pw_below_drewN | apply below_drew1) | exact HB.out)⟩⟩
  case rest =>
   clear HC6
   try clear c2
   try clear p2
   try clear c4
   try clear c9
   obtain ⟨kq, x27_5, rfl, HA, HJ5, HB⟩ := hcut
   cases kq with
   | zero => exact absurd HA.out (by simp [pannierlaw11_TargetInside.j0])
   | succ kj5 =>
    have H := HA.out
    clear HA
    simp only [pannierlaw11_TargetInside.j0] at H
    by_cases c10 : x27_5 = true
    ·subst c10
     have H1 : (some true) = some r := by rw [if_pos rfl] at H; exact H
     clear H
     have H := H1
     clear H1
     obtain rfl := Option.some.inj H
     go_wp2
     all_goals (go_ret; exact ⟨by first | rfl | (simp [errW_none, errW_some] <;> rfl) | (simp [*, errW_none, errW_some] <;> rfl), by repeat (first | (with_reducible first | exact HB.out | apply below_alloc | apply pw_below_drewN | apply below_drew1) | exact HB.out)⟩)
    ·replace c10 := Bool.eq_false_iff.mpr c10
     subst c10
     have H1 : ((target_Resolve.f t305 a1).bind fun bt307 => (if bt307.2 = 0 then ((path_Parts.f t305).bind fun t309 => ((pannierref10_Split.f kj5 a1).bind fun t312 => (pannierlaw11_TargetInside.l0 kj5 bt307.1 (t309.length : Int) t312 (t312.length : Int) 0))) else (some (bt307.1.toList == ([] : List UInt8))))) = some r := by rw [if_neg (show ¬ (false = true) by decide)] at H; exact H
     clear H
     have H := H1
     clear H1
     replace H := Option.bind_eq_some_iff.mp H
     obtain ⟨⟨t307, t308⟩, A110, H⟩ := H
     replace H : (if t308 = 0 then ((path_Parts.f t305).bind fun t309 => ((pannierref10_Split.f kj5 a1).bind fun t312 => (pannierlaw11_TargetInside.l0 kj5 t307 (t309.length : Int) t312 (t312.length : Int) 0))) else (some (t307.toList == ([] : List UInt8)))) = some r := H
     have A11 := Aside0.mk A110
     clear A110
     by_cases c12 : t308 = 0
     ·rw [if_pos c12] at H
      have c12b0 : (t308 == 0) = true := beq_iff_eq.mpr c12
      have c12b1 : (t308 != 0) = false := bne_eq_false_iff_eq.mpr c12
      clear c12
      replace H := Option.bind_eq_some_iff.mp H
      obtain ⟨t309, A130, H⟩ := H
      replace H : ((pannierref10_Split.f kj5 a1).bind fun t312 => (pannierlaw11_TargetInside.l0 kj5 t307 (t309.length : Int) t312 (t312.length : Int) 0)) = some r := H
      have A13 := Aside0.mk A130
      clear A130
      replace H := Option.bind_eq_some_iff.mp H
      obtain ⟨t312, A140, H⟩ := H
      replace H : (pannierlaw11_TargetInside.l0 kj5 t307 (t309.length : Int) t312 (t312.length : Int) 0) = some r := H
      have A14 := Aside0.mk A140
      clear A140
      have H' := Aside0.mk H
      clear H
      go_wp2_with (first | ((with_reducible refine gate_callee (f := 30) rfl ?_); refine goesL_ (some 31) rfl rfl Tryd.func30 (by kernel_rfl) rfl #[.string t305, .string a1] rfl (by (try simp only [List.map_toArray, List.map_cons, List.map_nil]); first | done | rfl | (simp only [List.length_drop, List.length_take]; rfl)) ?_; (with_reducible refine (target_Resolve.calls t305 a1 t307 t308 _ A11.out ?hGG).mono ?_); (case hGG => exact GG_below HGG.out (by repeat (first | (with_reducible first | exact HB.out | apply below_alloc | apply pw_below_drewN | apply below_drew1) | exact HB.out))); rintro e w15 ⟨rfl, hb⟩; refine ⟨_, rfl, ?_⟩; have n0_ := Aside0.mk (below_step (by repeat (first | (with_reducible first | exact HB.out | apply below_alloc | apply pw_below_drewN | apply below_drew1) | exact HB.out)) hb); clear HB; have HB := n0_; clear n0_; (try clear hb); (try clear hb2); (try clear hk); (try clear hi)) | ((with_reducible refine gate_callee (f := 24) rfl ?_); refine goesL_ (some 39) rfl rfl Tryd.func24 (by kernel_rfl) rfl #[.string t305] rfl (by (try simp only [List.map_toArray, List.map_cons, List.map_nil]); first | done | rfl | (simp only [List.length_drop, List.length_take]; rfl)) ?_; (with_reducible refine (path_Parts.calls t305 t309 _ A13.out).mono ?_); rintro e w16 ⟨v310, rfl, ho0, hb⟩; refine ⟨_, rfl, ?_⟩; have n0_ := Aside0.mk (Kd.R_lower ho0 (below_size (by repeat (first | (with_reducible first | exact HB.out | apply below_alloc | apply pw_below_drewN | apply below_drew1) | exact HB.out)))); have n1_ := Aside0.mk (below_step (by repeat (first | (with_reducible first | exact HB.out | apply below_alloc | apply pw_below_drewN | apply below_drew1) | exact HB.out)) hb); clear HB; have HO311 := n0_; have HB := n1_; clear n0_ n1_; (try clear hb); (try clear hb2); (try clear hk); (try clear hi); (try clear ho0); obtain ⟨Ao17, co17, eo17⟩ := Kd.R_slice HO311.out; subst eo17) | ((with_reducible refine gate_callee (f := 32) rfl ?_); refine goesL_ (some 42) rfl rfl Tryd.func32 (by kernel_rfl) rfl #[.string a1] rfl (by (try simp only [List.map_toArray, List.map_cons, List.map_nil]); first | done | rfl | (simp only [List.length_drop, List.length_take]; rfl)) ?_; (with_reducible refine (pannierref10_Split.calls kj5 a1 t312 _ A14.out).mono ?_); rintro e w18 ⟨v313, rfl, ho0, hb⟩; refine ⟨_, rfl, ?_⟩; have n0_ := Aside0.mk (Kd.R_elder' (by (with_reducible repeat (first | apply Kd.R_alloc | apply Kd.R_drewN | apply Kd.R_drew)); exact HO311.out) (Kd.R_base ho0) hb); have n1_ := Aside0.mk (Kd.R_lower (Kd.R_new' ho0 (Kd.R_lt (by (with_reducible repeat (first | apply Kd.R_alloc | apply Kd.R_drewN | apply Kd.R_drew)); exact HO311.out))) (below_size (by repeat (first | (with_reducible first | exact HB.out | apply below_alloc | apply pw_below_drewN | apply below_drew1) | exact HB.out)))); have n2_ := Aside0.mk (below_step (by repeat (first | (with_reducible first | exact HB.out | apply below_alloc | apply pw_below_drewN | apply below_drew1) | exact HB.out)) hb); clear HO311; clear HB; have HO311 := n0_; have HO314 := n1_; have HB := n2_; clear n0_ n1_ n2_; (try clear hb); (try clear hb2); (try clear hk); (try clear hi); (try clear ho0); obtain ⟨Ao19, co19, eo19⟩ := Kd.R_slice HO314.out; subst eo19))
      go_loopg [9, 44] kj5 (fun kq v9 v44 w' => ∃ (x9_2 : Int) (x44_2 : Int), v9 = .int .i64 x9_2 ∧ v44 = .int .i64 x44_2 ∧ Aside0 (pannierlaw11_TargetInside.l0 kq t307 x9_2 t312 (t312.length : Int) x44_2 = some r) ∧ Aside0 (kq ≤ kj5) ∧ Aside0 (Kd.R Kd.string 9 w' w.heap.size (fun _ => True) (.slice Ao19 t312.length co19) t312) ∧ Aside0 (Below w.heap.size w w'))
      case atStart => exact ⟨((t309.length : Int)), (0), (by first | rfl | (simp; done) | (simp [*]; done)), (by first | rfl | (simp; done) | (simp [*]; done)), H', ⟨Nat.le_refl _⟩, ⟨by (with_reducible repeat (first | apply Kd.R_alloc | apply Kd.R_drewN | apply Kd.R_drew)); exact Kd.R_mono HO314.out (fun _ hk => trivial)⟩, ⟨by repeat (first | (with_reducible first | exact HB.out | apply below_alloc | apply pw_below_drewN | apply below_drew1) | exact HB.out)⟩⟩
      case round =>
       clear H'
       try clear c1
       try clear c2
       try clear p2
       try clear c3
       try clear c4
       try clear c9
       try clear c10
       try clear c12
       try clear c12b0
       try clear c12b1
       try clear p2
       obtain ⟨x9_2, x44_2, rfl, rfl, HA, HK2, HO_42, HB⟩ := hrel
       cases gk with
       | zero => exact absurd HA.out (by simp [pannierlaw11_TargetInside.l0])
       | succ k2 =>
        have H := HA.out
        clear HA
        simp only [pannierlaw11_TargetInside.l0] at H
        by_cases c20 : x44_2 < (t312.length : Int)
        ·rw [if_pos c20] at H
         have c20b0 : decide (x44_2 < (t312.length : Int)) = true := decide_eq_true c20
         clear c20
         by_cases c21 : 0 ≤ x44_2
         ·rw [if_pos c21] at H
          have c21b0 : decide (0 ≤ x44_2) = true := decide_eq_true c21
          clear c21
          by_cases c22 : x44_2 < (t312.length : Int)
          ·rw [if_pos c22] at H
           have c22b0 : decide (x44_2 < (t312.length : Int)) = true := decide_eq_true c22
           clear c22
           by_cases c23 : (rdOf ByteArray.empty t312 x44_2).toList = ([46, 46] : List UInt8)
           ·rw [if_pos c23] at H
            have c23b0 : ((rdOf ByteArray.empty t312 x44_2).toList == ([46, 46] : List UInt8)) = true := beq_iff_eq.mpr c23
            have c23b1 : ((rdOf ByteArray.empty t312 x44_2).toList != ([46, 46] : List UInt8)) = false := bne_eq_false_iff_eq.mpr c23
            clear c23
            by_cases c24 : (wrap64 (x9_2 - 1)) < 0
            ·rw [if_pos c24] at H
             have c24b0 : decide ((wrap64 (x9_2 - 1)) < 0) = true := decide_eq_true c24
             clear c24
             obtain rfl := Option.some.inj H
             have p315 : 0 ≤ (x44_2 : Int) := of_decide_eq_true (by first | (with_reducible assumption) | assumption)
             have q315 : x44_2 < (t312.length : Int) := of_decide_eq_true (by first | (with_reducible assumption) | assumption)
             obtain ⟨ad315, e315, hx315_0⟩ := Kd.at_string (Kd.R_reads' HO_42.out).2.2 x44_2 p315 q315
             cases e315
             replace p315 := eq_true p315
             replace q315 := eq_true q315
             go_wp2
             all_goals (go_ret; exact ⟨by first | rfl | (simp [errW_none, errW_some] <;> rfl) | (simp [*, errW_none, errW_some] <;> rfl), by repeat (first | (with_reducible first | exact HB.out | apply below_alloc | apply pw_below_drewN | apply below_drew1) | exact HB.out)⟩)
            ·rw [if_neg c24] at H
             have c24b0 : decide ((wrap64 (x9_2 - 1)) < 0) = false := decide_eq_false c24
             clear c24
             have H' := Aside0.mk H
             clear H
             have p315 : 0 ≤ (x44_2 : Int) := of_decide_eq_true (by first | (with_reducible assumption) | assumption)
             have q315 : x44_2 < (t312.length : Int) := of_decide_eq_true (by first | (with_reducible assumption) | assumption)
             obtain ⟨ad315, e315, hx315_0⟩ := Kd.at_string (Kd.R_reads' HO_42.out).2.2 x44_2 p315 q315
             cases e315
             replace p315 := eq_true p315
             replace q315 := eq_true q315
             go_wp2
             go_roundg k2
             case measure => have := HJ5.out; have := HK2.out; omega
             case rel => exact ⟨(wrap64 (x9_2 - 1)), (wrap64 (x44_2 + 1)), (by first | rfl | (simp; done) | (simp [*]; done)), (by first | rfl | (simp; done) | (simp [*]; done)), H', ⟨by have := HJ5.out; have := HK2.out; omega⟩, ⟨by (with_reducible repeat (first | apply Kd.R_alloc | apply Kd.R_drewN | apply Kd.R_drew)); first | exact HO_42.out | exact Kd.R_mono HO_42.out (fun _ hk_ => by have h_ : ∀ (A : Option Addr) (n c : Nat), (Value.slice A n c).ownBlock = A.map (·.block) := fun A _ _ => (by cases A <;> rfl); simpa only [h_] using hk_)⟩, ⟨by repeat (first | (with_reducible first | exact HB.out | apply below_alloc | apply pw_below_drewN | apply below_drew1) | exact HB.out)⟩⟩
           ·rw [if_neg c23] at H
            have c23b0 : ((rdOf ByteArray.empty t312 x44_2).toList == ([46, 46] : List UInt8)) = false := beq_eq_false_iff_ne.mpr c23
            have c23b1 : ((rdOf ByteArray.empty t312 x44_2).toList != ([46, 46] : List UInt8)) = true := bne_iff_ne.mpr c23
            by_cases c25 : (wrap64 (x9_2 + 1)) < 0
            ·rw [if_pos c25] at H
             have c25b0 : decide ((wrap64 (x9_2 + 1)) < 0) = true := decide_eq_true c25
             clear c25
             obtain rfl := Option.some.inj H
             have p315 : 0 ≤ (x44_2 : Int) := of_decide_eq_true (by first | (with_reducible assumption) | assumption)
             have q315 : x44_2 < (t312.length : Int) := of_decide_eq_true (by first | (with_reducible assumption) | assumption)
             obtain ⟨ad315, e315, hx315_0⟩ := Kd.at_string (Kd.R_reads' HO_42.out).2.2 x44_2 p315 q315
             cases e315
             replace p315 := eq_true p315
             replace q315 := eq_true q315
             go_wp2
             all_goals (go_ret; exact ⟨by first | rfl | (simp [errW_none, errW_some] <;> rfl) | (simp [*, errW_none, errW_some] <;> rfl), by repeat (first | (with_reducible first | exact HB.out | apply below_alloc | apply pw_below_drewN | apply below_drew1) | exact HB.out)⟩)
            ·rw [if_neg c25] at H
             have c25b0 : decide ((wrap64 (x9_2 + 1)) < 0) = false := decide_eq_false c25
             clear c25
             have H' := Aside0.mk H
             clear H
             have p315 : 0 ≤ (x44_2 : Int) := of_decide_eq_true (by first | (with_reducible assumption) | assumption)
             have q315 : x44_2 < (t312.length : Int) := of_decide_eq_true (by first | (with_reducible assumption) | assumption)
             obtain ⟨ad315, e315, hx315_0⟩ := Kd.at_string (Kd.R_reads' HO_42.out).2.2 x44_2 p315 q315
             cases e315
             replace p315 := eq_true p315
             replace q315 := eq_true q315
             go_wp2
             go_roundg k2
             case measure => have := HJ5.out; have := HK2.out; omega
             case rel => exact ⟨(wrap64 (x9_2 + 1)), (wrap64 (x44_2 + 1)), (by first | rfl | (simp; done) | (simp [*]; done)), (by first | rfl | (simp; done) | (simp [*]; done)), H', ⟨by have := HJ5.out; have := HK2.out; omega⟩, ⟨by (with_reducible repeat (first | apply Kd.R_alloc | apply Kd.R_drewN | apply Kd.R_drew)); first | exact HO_42.out | exact Kd.R_mono HO_42.out (fun _ hk_ => by have h_ : ∀ (A : Option Addr) (n c : Nat), (Value.slice A n c).ownBlock = A.map (·.block) := fun A _ _ => (by cases A <;> rfl); simpa only [h_] using hk_)⟩, ⟨by repeat (first | (with_reducible first | exact HB.out | apply below_alloc | apply pw_below_drewN | apply below_drew1) | exact HB.out)⟩⟩
          ·rw [if_neg c22] at H
           exact absurd H (by simp)
         ·rw [if_neg c21] at H
          exact absurd H (by simp)
        ·rw [if_neg c20] at H
         have c20b0 : decide (x44_2 < (t312.length : Int)) = false := decide_eq_false c20
         clear c20
         by_cases c26 : t307.toList = ([] : List UInt8)
         ·rw [if_pos c26] at H
          have c26b0 : (t307.toList == ([] : List UInt8)) = true := beq_iff_eq.mpr c26
          have c26b2 : (t307.toList).isEmpty = true := List.isEmpty_iff.mpr c26
          have c26b1 : (t307.toList != ([] : List UInt8)) = false := bne_eq_false_iff_eq.mpr c26
          clear c26
          obtain rfl := Option.some.inj H
          go_wp2
          all_goals (try (exfalso; first | (rename_i he_; rw [c26b2] at he_; cases he_; done) | (rename_i he_ _; rw [c26b2] at he_; cases he_; done) | (rename_i he_ _ _; rw [c26b2] at he_; cases he_; done) | (rename_i he_ _ _ _; rw [c26b2] at he_; cases he_; done) | (rename_i he_ _ _ _ _; rw [c26b2] at he_; cases he_; done) | (rename_i he_ _ _ _ _ _; rw [c26b2] at he_; cases he_; done) | (rename_i he_ _ _ _ _ _ _; rw [c26b2] at he_; cases he_; done)))
          all_goals (go_ret; exact ⟨by first | rfl | (simp [errW_none, errW_some] <;> rfl) | (simp [*, errW_none, errW_some] <;> rfl), by repeat (first | (with_reducible first | exact HB.out | apply below_alloc | apply pw_below_drewN | apply below_drew1) | exact HB.out)⟩)
         ·rw [if_neg c26] at H
          have c26b0 : (t307.toList == ([] : List UInt8)) = false := beq_eq_false_iff_ne.mpr c26
          have c26b2 : (t307.toList).isEmpty = false := List.isEmpty_eq_false_iff.mpr c26
          have c26b1 : (t307.toList != ([] : List UInt8)) = true := bne_iff_ne.mpr c26
          replace H := Option.bind_eq_some_iff.mp H
          obtain ⟨⟨t316, t317⟩, A270, H⟩ := H
          replace H : (if t317 = 0 then ((path_Join.f t316).bind fun t320 => (if t320.toList = t307.toList then (some ((t316.length : Int) == x9_2)) else (some false))) else (some false)) = some r := H
          have A27 := Aside0.mk A270
          clear A270
          by_cases c28 : t317 = 0
          ·rw [if_pos c28] at H
           have c28b0 : (t317 == 0) = true := beq_iff_eq.mpr c28
           have c28b1 : (t317 != 0) = false := bne_eq_false_iff_eq.mpr c28
           clear c28
           replace H := Option.bind_eq_some_iff.mp H
           obtain ⟨t320, A290, H⟩ := H
           replace H : (if t320.toList = t307.toList then (some ((t316.length : Int) == x9_2)) else (some false)) = some r := H
           have A29 := Aside0.mk A290
           clear A290
           by_cases c30 : t320.toList = t307.toList
           ·rw [if_pos c30] at H
            have c30b0 : (t320.toList == t307.toList) = true := beq_iff_eq.mpr c30
            have c30b1 : (t320.toList != t307.toList) = false := bne_eq_false_iff_eq.mpr c30
            clear c30
            obtain rfl := Option.some.inj H
            go_wp2_with (first | ((with_reducible refine gate_callee (f := 17) rfl ?_); refine goesL_ (some 63) rfl rfl Tryd.func17 (by kernel_rfl) rfl #[.string t307] rfl (by (try simp only [List.map_toArray, List.map_cons, List.map_nil]); first | done | rfl | (simp only [List.length_drop, List.length_take]; rfl)) ?_; (with_reducible refine (path_Clean.calls k2 t307 t316 t317 _ A27.out ?hGG).mono ?_); (case hGG => exact GG_below HGG.out (by repeat (first | (with_reducible first | exact HB.out | apply below_alloc | apply pw_below_drewN | apply below_drew1) | exact HB.out))); rintro e w31 ⟨v318, rfl, ho0, hb⟩; refine ⟨_, rfl, ?_⟩; have n0_ := Aside0.mk (Kd.R_elder' (by (with_reducible repeat (first | apply Kd.R_alloc | apply Kd.R_drewN | apply Kd.R_drew)); exact HO_42.out) (Kd.R_base ho0) hb); have n1_ := Aside0.mk (Kd.R_lower (Kd.R_new' ho0 (Kd.R_lt (by (with_reducible repeat (first | apply Kd.R_alloc | apply Kd.R_drewN | apply Kd.R_drew)); exact HO_42.out))) (below_size (by repeat (first | (with_reducible first | exact HB.out | apply below_alloc | apply pw_below_drewN | apply below_drew1) | exact HB.out)))); have n2_ := Aside0.mk (below_step (by repeat (first | (with_reducible first | exact HB.out | apply below_alloc | apply pw_below_drewN | apply below_drew1) | exact HB.out)) hb); clear HO_42; clear HB; have HO_42 := n0_; have HO319 := n1_; have HB := n2_; clear n0_ n1_ n2_; (try clear hb); (try clear hb2); (try clear hk); (try clear hi); (try clear ho0); obtain ⟨Ao32, co32, eo32⟩ := Kd.R_slice HO319.out; subst eo32) | (go_at_call 22; (with_reducible refine (path_Join.calls _ _ t316 t320 _ ?side1 ?side2 A29.out).mono ?_); (case side1 => repeat (first | exact (Kd.R_reads' HO319.out).2.2 | (with_reducible refine Kd.C_alloc ?_ _) | (with_reducible refine Kd.C_drewN ?_ _) | (with_reducible refine Kd.C_drew ?_))); (case side2 => exact (Kd.R_reads' HO319.out).2.1); rintro e w33 ⟨rfl, hb⟩; have n0_ := Aside0.mk (Kd.R_below (by (with_reducible repeat (first | apply Kd.R_alloc | apply Kd.R_drewN | apply Kd.R_drew)); exact HO_42.out) hb); have n1_ := Aside0.mk (Kd.R_below (by (with_reducible repeat (first | apply Kd.R_alloc | apply Kd.R_drewN | apply Kd.R_drew)); exact HO319.out) hb); have n2_ := Aside0.mk (below_step (by repeat (first | (with_reducible first | exact HB.out | apply below_alloc | apply pw_below_drewN | apply below_drew1) | exact HB.out)) hb); clear HO_42; clear HO319; clear HB; have HO_42 := n0_; have HO319 := n1_; have HB := n2_; clear n0_ n1_ n2_; (try clear hb); (try clear hb2); (try clear hk); (try clear hi)))
            all_goals (go_ret; exact ⟨by first | rfl | (simp [errW_none, errW_some] <;> rfl) | (simp [*, errW_none, errW_some] <;> rfl), by repeat (first | (with_reducible first | exact HB.out | apply below_alloc | apply pw_below_drewN | apply below_drew1) | exact HB.out)⟩)
           ·rw [if_neg c30] at H
            have c30b0 : (t320.toList == t307.toList) = false := beq_eq_false_iff_ne.mpr c30
            have c30b1 : (t320.toList != t307.toList) = true := bne_iff_ne.mpr c30
            obtain rfl := Option.some.inj H
            go_wp2_with (first | ((with_reducible refine gate_callee (f := 17) rfl ?_); refine goesL_ (some 63) rfl rfl Tryd.func17 (by kernel_rfl) rfl #[.string t307] rfl (by (try simp only [List.map_toArray, List.map_cons, List.map_nil]); first | done | rfl | (simp only [List.length_drop, List.length_take]; rfl)) ?_; (with_reducible refine (path_Clean.calls k2 t307 t316 t317 _ A27.out ?hGG).mono ?_); (case hGG => exact GG_below HGG.out (by repeat (first | (with_reducible first | exact HB.out | apply below_alloc | apply pw_below_drewN | apply below_drew1) | exact HB.out))); rintro e w34 ⟨v318, rfl, ho0, hb⟩; refine ⟨_, rfl, ?_⟩; have n0_ := Aside0.mk (Kd.R_elder' (by (with_reducible repeat (first | apply Kd.R_alloc | apply Kd.R_drewN | apply Kd.R_drew)); exact HO_42.out) (Kd.R_base ho0) hb); have n1_ := Aside0.mk (Kd.R_lower (Kd.R_new' ho0 (Kd.R_lt (by (with_reducible repeat (first | apply Kd.R_alloc | apply Kd.R_drewN | apply Kd.R_drew)); exact HO_42.out))) (below_size (by repeat (first | (with_reducible first | exact HB.out | apply below_alloc | apply pw_below_drewN | apply below_drew1) | exact HB.out)))); have n2_ := Aside0.mk (below_step (by repeat (first | (with_reducible first | exact HB.out | apply below_alloc | apply pw_below_drewN | apply below_drew1) | exact HB.out)) hb); clear HO_42; clear HB; have HO_42 := n0_; have HO319 := n1_; have HB := n2_; clear n0_ n1_ n2_; (try clear hb); (try clear hb2); (try clear hk); (try clear hi); (try clear ho0); obtain ⟨Ao35, co35, eo35⟩ := Kd.R_slice HO319.out; subst eo35) | (go_at_call 22; (with_reducible refine (path_Join.calls _ _ t316 t320 _ ?side1 ?side2 A29.out).mono ?_); (case side1 => repeat (first | exact (Kd.R_reads' HO319.out).2.2 | (with_reducible refine Kd.C_alloc ?_ _) | (with_reducible refine Kd.C_drewN ?_ _) | (with_reducible refine Kd.C_drew ?_))); (case side2 => exact (Kd.R_reads' HO319.out).2.1); rintro e w36 ⟨rfl, hb⟩; have n0_ := Aside0.mk (Kd.R_below (by (with_reducible repeat (first | apply Kd.R_alloc | apply Kd.R_drewN | apply Kd.R_drew)); exact HO_42.out) hb); have n1_ := Aside0.mk (Kd.R_below (by (with_reducible repeat (first | apply Kd.R_alloc | apply Kd.R_drewN | apply Kd.R_drew)); exact HO319.out) hb); have n2_ := Aside0.mk (below_step (by repeat (first | (with_reducible first | exact HB.out | apply below_alloc | apply pw_below_drewN | apply below_drew1) | exact HB.out)) hb); clear HO_42; clear HO319; clear HB; have HO_42 := n0_; have HO319 := n1_; have HB := n2_; clear n0_ n1_ n2_; (try clear hb); (try clear hb2); (try clear hk); (try clear hi)))
            all_goals (go_ret; exact ⟨by first | rfl | (simp [errW_none, errW_some] <;> rfl) | (simp [*, errW_none, errW_some] <;> rfl), by repeat (first | (with_reducible first | exact HB.out | apply below_alloc | apply pw_below_drewN | apply below_drew1) | exact HB.out)⟩)
          ·rw [if_neg c28] at H
           have c28b0 : (t317 == 0) = false := beq_eq_false_iff_ne.mpr c28
           have c28b1 : (t317 != 0) = true := bne_iff_ne.mpr c28
           obtain rfl := Option.some.inj H
           go_wp2_with (first | ((with_reducible refine gate_callee (f := 17) rfl ?_); refine goesL_ (some 63) rfl rfl Tryd.func17 (by kernel_rfl) rfl #[.string t307] rfl (by (try simp only [List.map_toArray, List.map_cons, List.map_nil]); first | done | rfl | (simp only [List.length_drop, List.length_take]; rfl)) ?_; (with_reducible refine (path_Clean.calls k2 t307 t316 t317 _ A27.out ?hGG).mono ?_); (case hGG => exact GG_below HGG.out (by repeat (first | (with_reducible first | exact HB.out | apply below_alloc | apply pw_below_drewN | apply below_drew1) | exact HB.out))); rintro e w37 ⟨v318, rfl, ho0, hb⟩; refine ⟨_, rfl, ?_⟩; have n0_ := Aside0.mk (Kd.R_elder' (by (with_reducible repeat (first | apply Kd.R_alloc | apply Kd.R_drewN | apply Kd.R_drew)); exact HO_42.out) (Kd.R_base ho0) hb); have n1_ := Aside0.mk (Kd.R_lower (Kd.R_new' ho0 (Kd.R_lt (by (with_reducible repeat (first | apply Kd.R_alloc | apply Kd.R_drewN | apply Kd.R_drew)); exact HO_42.out))) (below_size (by repeat (first | (with_reducible first | exact HB.out | apply below_alloc | apply pw_below_drewN | apply below_drew1) | exact HB.out)))); have n2_ := Aside0.mk (below_step (by repeat (first | (with_reducible first | exact HB.out | apply below_alloc | apply pw_below_drewN | apply below_drew1) | exact HB.out)) hb); clear HO_42; clear HB; have HO_42 := n0_; have HO319 := n1_; have HB := n2_; clear n0_ n1_ n2_; (try clear hb); (try clear hb2); (try clear hk); (try clear hi); (try clear ho0)))
           all_goals (go_ret; exact ⟨by first | rfl | (simp [errW_none, errW_some] <;> rfl) | (simp [*, errW_none, errW_some] <;> rfl), by repeat (first | (with_reducible first | exact HB.out | apply below_alloc | apply pw_below_drewN | apply below_drew1) | exact HB.out)⟩)
     ·rw [if_neg c12] at H
      have c12b0 : (t308 == 0) = false := beq_eq_false_iff_ne.mpr c12
      have c12b1 : (t308 != 0) = true := bne_iff_ne.mpr c12
      obtain rfl := Option.some.inj H
      go_wp2_with (first | ((with_reducible refine gate_callee (f := 30) rfl ?_); refine goesL_ (some 31) rfl rfl Tryd.func30 (by kernel_rfl) rfl #[.string t305, .string a1] rfl (by (try simp only [List.map_toArray, List.map_cons, List.map_nil]); first | done | rfl | (simp only [List.length_drop, List.length_take]; rfl)) ?_; (with_reducible refine (target_Resolve.calls t305 a1 t307 t308 _ A11.out ?hGG).mono ?_); (case hGG => exact GG_below HGG.out (by repeat (first | (with_reducible first | exact HB.out | apply below_alloc | apply pw_below_drewN | apply below_drew1) | exact HB.out))); rintro e w38 ⟨rfl, hb⟩; refine ⟨_, rfl, ?_⟩; have n0_ := Aside0.mk (below_step (by repeat (first | (with_reducible first | exact HB.out | apply below_alloc | apply pw_below_drewN | apply below_drew1) | exact HB.out)) hb); clear HB; have HB := n0_; clear n0_; (try clear hb); (try clear hb2); (try clear hk); (try clear hi)))
      all_goals (go_ret; exact ⟨by first | rfl | (simp [errW_none, errW_some] <;> rfl) | (simp [*, errW_none, errW_some] <;> rfl), by repeat (first | (with_reducible first | exact HB.out | apply below_alloc | apply pw_below_drewN | apply below_drew1) | exact HB.out)⟩)
 ·replace c4 := Bool.eq_false_iff.mpr c4
  subst c4
  have H1 : (some false) = some r := by rw [if_neg (show ¬ (false = true) by decide)] at H; exact H
  clear H
  have H := H1
  clear H1
  obtain rfl := Option.some.inj H
  go_enter Tryd.func9, Tryd.ntmps9
  go_wp2_with (first | ((with_reducible refine gate_callee (f := 28) rfl ?_); refine goesL_ (some 14) rfl rfl Tryd.func28 (by kernel_rfl) rfl #[] rfl (by (try simp only [List.map_toArray, List.map_cons, List.map_nil]); first | done | rfl | (simp only [List.length_drop, List.length_take]; rfl)) ?_; (with_reducible refine (pannierlaw11_points.calls k  false _ A3.out ?hGG).mono ?_); (case hGG => exact GG_below HGG.out (by repeat (first | (with_reducible first | exact HB.out | apply below_alloc | apply pw_below_drewN | apply below_drew1) | exact HB.out))); rintro e w39 ⟨rfl, hb⟩; refine ⟨_, rfl, ?_⟩; have n0_ := Aside0.mk (below_step (by repeat (first | (with_reducible first | exact HB.out | apply below_alloc | apply pw_below_drewN | apply below_drew1) | exact HB.out)) hb); clear HB; have HB := n0_; clear n0_; (try clear hb); (try clear hb2); (try clear hk); (try clear hi)))
  all_goals (go_ret; exact ⟨by first | rfl | (simp [errW_none, errW_some] <;> rfl) | (simp [*, errW_none, errW_some] <;> rfl), by repeat (first | (with_reducible first | exact HB.out | apply below_alloc | apply pw_below_drewN | apply below_drew1) | exact HB.out)⟩)

/-- THE ONE PURE STATEMENT of pannierlaw11_TargetInside: yours. -/
def pannierlaw11_TargetInside.Pure : Prop := ∀ (a0 : ByteArray) (a1 : ByteArray), a0.size ≤ 140737488351232 → a1.size ≤ 140737488351232 → ∃ k, pannierlaw11_TargetInside.f k a0 a1 = some true
theorem pannierlaw11_TargetInside.walk (P : pannierlaw11_TargetInside.Pure) (a0 : ByteArray) (a1 : ByteArray) (w : World) (w0 : a0.size ≤ 140737488351232) (w1 : a1.size ≤ 140737488351232) (hGG0 : GG w) :
  Calls Tryd.prog 9 #[.string a0, .string a1] w fun e w' => e = .returned (.bool true) ∧ Below w.heap.size w w' := by
 obtain ⟨k, h⟩ := P a0 a1 w0 w1
 refine (pannierlaw11_TargetInside.calls k a0 a1 true w h hGG0).mono ?_
 rintro e w' ⟨rfl, hd⟩
 exact ⟨rfl, hd⟩

end Go.Proofs.YtcfhijegmmdpkaaDoor.XA
