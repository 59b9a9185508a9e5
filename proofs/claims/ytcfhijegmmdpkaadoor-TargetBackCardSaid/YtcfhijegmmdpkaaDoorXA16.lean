-- Written by a program of this session (wip/tools/xprint.py) out of the translation's print. Lean checks it.
import Derived.Test.YtcfhijegmmdpkaaDoorXA0
import Derived.Test.YtcfhijegmmdpkaaDoorESound
import Derived.Test.YtcfhijegmmdpkaaDoorXA7
import Derived.Test.YtcfhijegmmdpkaaDoorEResolve
namespace Go.Proofs.YtcfhijegmmdpkaaDoor.XA
open Go.RowKit Go.Proofs.YtcfhijegmmdpkaaDoorW.PrintWords Go.Proofs.YtcfhijegmmdpkaaDoorW.PrintLast Go.Proofs.YtcfhijegmmdpkaaDoorW.PrintMore
attribute [local go_sem] max2_int min2_int max_two min_two max_three min_three max_four min_four   -- for this text's walks alone
set_option linter.unusedVariables false
set_option linter.unusedSimpArgs false

/-! ### pannierlaw11_TargetBack: function 10 -/
def pannierlaw11_TargetBack.j0 : Nat → ByteArray → ByteArray → Bool → Option (Bool)
 | 0, _, _, _ => none
 | k + 1, x5, x7, x29 => if x29 = true then (some true) else ((target_Relative.f k x5 x7).bind fun t326 => ((target_Resolve.f x5 t326).bind fun bt327 => (if bt327.2 = 0 then (if bt327.1.toList = x7.toList then (some (t326.toList != ([] : List UInt8))) else (some false)) else (some false))))
def pannierlaw11_TargetBack.f (k : Nat) (a0 : ByteArray) (a1 : ByteArray) : Option (Bool) := (pannierlaw11_points.f k).bind fun t321 => (if t321 = true then ((pannierlaw11_clean.f k a0).bind fun bt322 => ((pannierlaw11_clean.f k a1).bind fun bt324 => (if bt322.2 = true then (pannierlaw11_TargetBack.j0 k bt322.1 bt324.1 (!bt324.2)) else (pannierlaw11_TargetBack.j0 k bt322.1 bt324.1 true)))) else (some false))
theorem pannierlaw11_TargetBack.mono_l : ∀ k, (∀ y0 y1 y2, LeO (pannierlaw11_TargetBack.j0 k y0 y1 y2) (pannierlaw11_TargetBack.j0 (k + 1) y0 y1 y2))
 | 0 => fun _ _ _ r h => by simp [pannierlaw11_TargetBack.j0] at h
 | k + 1 => by
  have ih0 := pannierlaw11_TargetBack.mono_l k
  ·intro y0 y1 y2
   unfold pannierlaw11_TargetBack.j0
   repeat' first
   | (with_reducible exact ih0 _ _ _)
   | (with_reducible exact pannierlaw11_clean.mono _ _)
   | (with_reducible exact pannierlaw11_points.mono _)
   | (with_reducible exact target_Relative.mono _ _ _)
   | (with_reducible exact LeO.refl _)
   | (with_reducible exact LeO.none _)
   | (with_reducible refine LeO.ite ?_ ?_)
   | (with_reducible refine LeO.bind ?_ (fun _ => ?_))
   | exact ih0 _ _ _
   | exact pannierlaw11_clean.mono _ _
   | exact pannierlaw11_points.mono _
   | exact target_Relative.mono _ _ _
   | exact LeO.none _
   | refine LeO.ite ?_ ?_
   | refine LeO.bind ?_ (fun _ => ?_)
theorem pannierlaw11_TargetBack.mono : ∀ a0 a1 k, LeO (pannierlaw11_TargetBack.f k a0 a1) (pannierlaw11_TargetBack.f (k + 1) a0 a1) := by
 intro a0 a1 k
 have ih0 := pannierlaw11_TargetBack.mono_l k
 unfold pannierlaw11_TargetBack.f
 repeat' first
   | (with_reducible exact ih0 _ _ _)
   | (with_reducible exact pannierlaw11_clean.mono _ _)
   | (with_reducible exact pannierlaw11_points.mono _)
   | (with_reducible exact target_Relative.mono _ _ _)
   | (with_reducible exact LeO.refl _)
   | (with_reducible exact LeO.none _)
   | (with_reducible refine LeO.ite ?_ ?_)
   | (with_reducible refine LeO.bind ?_ (fun _ => ?_))
   | exact ih0 _ _ _
   | exact pannierlaw11_clean.mono _ _
   | exact pannierlaw11_points.mono _
   | exact target_Relative.mono _ _ _
   | exact LeO.none _
   | refine LeO.ite ?_ ?_
   | refine LeO.bind ?_ (fun _ => ?_)
set_option maxHeartbeats 8000000 in
set_option maxRecDepth 100000 in
theorem pannierlaw11_TargetBack.calls (k : Nat) (a0 : ByteArray) (a1 : ByteArray) (r : Bool) (w : World) (h : pannierlaw11_TargetBack.f k a0 a1 = some r) (hGG0 : GG w) :
  Calls Tryd.prog 10 #[.string a0, .string a1] w fun e w' => e = .returned (.bool r) ∧ Below w.heap.size w w' := by
 have HGG := Aside0.mk hGG0
 clear hGG0
 have HB := Aside0.mk (Below.refl w.heap.size w)
 have H : ((pannierlaw11_points.f k).bind fun t321 => (if t321 = true then ((pannierlaw11_clean.f k a0).bind fun bt322 => ((pannierlaw11_clean.f k a1).bind fun bt324 => (if bt322.2 = true then (pannierlaw11_TargetBack.j0 k bt322.1 bt324.1 (!bt324.2)) else (pannierlaw11_TargetBack.j0 k bt322.1 bt324.1 true)))) else (some false))) = some r := h
 clear h
 replace H := Option.bind_eq_some_iff.mp H
 obtain ⟨t321, A30, H⟩ := H
 replace H : (if t321 = true then ((pannierlaw11_clean.f k a0).bind fun bt322 => ((pannierlaw11_clean.f k a1).bind fun bt324 => (if bt322.2 = true then (pannierlaw11_TargetBack.j0 k bt322.1 bt324.1 (!bt324.2)) else (pannierlaw11_TargetBack.j0 k bt322.1 bt324.1 true)))) else (some false)) = some r := H
 have A3 := Aside0.mk A30
 clear A30
 by_cases c4 : t321 = true
 ·subst c4
  have H1 : ((pannierlaw11_clean.f k a0).bind fun bt322 => ((pannierlaw11_clean.f k a1).bind fun bt324 => (if bt322.2 = true then (pannierlaw11_TargetBack.j0 k bt322.1 bt324.1 (!bt324.2)) else (pannierlaw11_TargetBack.j0 k bt322.1 bt324.1 true)))) = some r := by rw [if_pos rfl] at H; exact H
  clear H
  have H := H1
  clear H1
  replace H := Option.bind_eq_some_iff.mp H
  obtain ⟨⟨t322, t323⟩, A50, H⟩ := H
  replace H : ((pannierlaw11_clean.f k a1).bind fun bt324 => (if t323 = true then (pannierlaw11_TargetBack.j0 k t322 bt324.1 (!bt324.2)) else (pannierlaw11_TargetBack.j0 k t322 bt324.1 true))) = some r := H
  have A5 := Aside0.mk A50
  clear A50
  replace H := Option.bind_eq_some_iff.mp H
  obtain ⟨⟨t324, t325⟩, A60, H⟩ := H
  replace H : (if t323 = true then (pannierlaw11_TargetBack.j0 k t322 t324 (!t325)) else (pannierlaw11_TargetBack.j0 k t322 t324 true)) = some r := H
  have A6 := Aside0.mk A60
  clear A60
  have HC7 := Aside0.mk H
  clear H
  go_enter Tryd.func10, Tryd.ntmps10
  go_upto_region 5 with (first | ((with_reducible refine gate_callee (f := 28) rfl ?_); refine goesL_ (some 12) rfl rfl Tryd.func28 (by kernel_rfl) rfl #[] rfl (by (try simp only [List.map_toArray, List.map_cons, List.map_nil]); first | done | rfl | (simp only [List.length_drop, List.length_take]; rfl)) ?_; (with_reducible refine (pannierlaw11_points.calls k  true _ A3.out ?hGG).mono ?_); (case hGG => exact GG_below HGG.out (by repeat (first | (with_reducible first | exact HB.out | apply below_alloc | apply pw_below_drewN | apply below_drew1) | exact HB.out))); rintro e w8 ⟨rfl, hb⟩; refine ⟨_, rfl, ?_⟩; have n0_ := Aside0.mk (below_step (by repeat (first | (with_reducible first | exact HB.out | apply below_alloc | apply pw_below_drewN | apply below_drew1) | exact HB.out)) hb); clear HB; have HB := n0_; clear n0_; (try clear hb); (try clear hb2); (try clear hk); (try clear hi)) | ((with_reducible refine gate_callee (f := 29) rfl ?_); refine goesL_ (some 16) rfl rfl Tryd.func29 (by kernel_rfl) rfl #[.string a0] rfl (by (try simp only [List.map_toArray, List.map_cons, List.map_nil]); first | done | rfl | (simp only [List.length_drop, List.length_take]; rfl)) ?_; (with_reducible refine (pannierlaw11_clean.calls k a0 t322 t323 _ A5.out ?hGG).mono ?_); (case hGG => exact GG_below HGG.out (by repeat (first | (with_reducible first | exact HB.out | apply below_alloc | apply pw_below_drewN | apply below_drew1) | exact HB.out))); rintro e w9 ⟨rfl, hb⟩; refine ⟨_, rfl, ?_⟩; have n0_ := Aside0.mk (below_step (by repeat (first | (with_reducible first | exact HB.out | apply below_alloc | apply pw_below_drewN | apply below_drew1) | exact HB.out)) hb); clear HB; have HB := n0_; clear n0_; (try clear hb); (try clear hb2); (try clear hk); (try clear hi)) | ((with_reducible refine gate_callee (f := 29) rfl ?_); refine goesL_ (some 21) rfl rfl Tryd.func29 (by kernel_rfl) rfl #[.string a1] rfl (by (try simp only [List.map_toArray, List.map_cons, List.map_nil]); first | done | rfl | (simp only [List.length_drop, List.length_take]; rfl)) ?_; (with_reducible refine (pannierlaw11_clean.calls k a1 t324 t325 _ A6.out ?hGG).mono ?_); (case hGG => exact GG_below HGG.out (by repeat (first | (with_reducible first | exact HB.out | apply below_alloc | apply pw_below_drewN | apply below_drew1) | exact HB.out))); rintro e w10 ⟨rfl, hb⟩; refine ⟨_, rfl, ?_⟩; have n0_ := Aside0.mk (below_step (by repeat (first | (with_reducible first | exact HB.out | apply below_alloc | apply pw_below_drewN | apply below_drew1) | exact HB.out)) hb); clear HB; have HB := n0_; clear n0_; (try clear hb); (try clear hb2); (try clear hk); (try clear hi)))
  (try simp only [Act.put, List.setIfInBounds_toArray, List.set_cons_zero, List.set_cons_succ])
  go_cut [29] (fun v29 wc => ∃ (kq : Nat) (x29_6 : Bool), v29 = .bool x29_6 ∧ Aside0 (pannierlaw11_TargetBack.j0 kq t322 t324 x29_6 = some r) ∧ Aside0 (kq ≤ k) ∧ Aside0 (Below w.heap.size w wc))
  case first =>
   have H := HC7.out
   clear HC7
   by_cases c11 : t323 = true
   ·subst c11
    have H1 : (pannierlaw11_TargetBack.j0 k t322 t324 (!t325)) = some r := by rw [if_pos rfl] at H; exact H
    clear H
    have H := H1
    clear H1
    have H' := Aside0.mk H
    clear H
    go_wp2
    go_meet
    case rel => exact ⟨_, (!t325), (by first | rfl | (simp; done) | (simp [*]; done)), H', ⟨by first | omega | exact Nat.le_refl _⟩, ⟨by repeat (first | (with_reducible first | exact HB.out | apply below_alloc | apply pw_below_drewN | apply below_drew1) | exact HB.out)⟩⟩
   ·replace c11 := Bool.eq_false_iff.mpr c11
    subst c11
    have H1 : (pannierlaw11_TargetBack.j0 k t322 t324 true) = some r := by rw [if_neg (show ¬ (false = true) by decide)] at H; exact H
    clear H
    have H := H1
    clear H1
    have H' := Aside0.mk H
    clear H
    go_wp2
    go_meet
    case rel => exact ⟨_, (true), (by first | rfl | (simp; done) | (simp [*]; done)), H', ⟨by first | omega | exact Nat.le_refl _⟩, ⟨by repeat (first | (with_reducible first | exact HB.out | apply below_alloc | apply pw_below_drewN | apply below_drew1) | exact HB.out)⟩⟩
  case rest =>
   clear HC7
   try clear c1
   try clear c2
   try clear p2
   try clear c4
   try clear c10
   try clear c11
   obtain ⟨kq, x29_6, rfl, HA, HJ6, HB⟩ := hcut
   cases kq with
   | zero => exact absurd HA.out (by simp [pannierlaw11_TargetBack.j0])
   | succ kj6 =>
    have H := HA.out
    clear HA
    simp only [pannierlaw11_TargetBack.j0] at H
    by_cases c12 : x29_6 = true
    ·subst c12
     have H1 : (some true) = some r := by rw [if_pos rfl] at H; exact H
     clear H
     have H := H1
     clear H1
     obtain rfl := Option.some.inj H
     go_wp2
     all_goals (go_ret; exact ⟨by first | rfl | (have hE_ : ∀ l_ : List UInt8, (l_ != ([] : List UInt8)) = !l_.isEmpty := (fun l_ => by cases l_ <;> rfl); simp [hE_]; done) | (simp [errW_none, errW_some] <;> rfl) | (simp [*, errW_none, errW_some] <;> rfl), by repeat (first | (with_reducible first | exact HB.out | apply below_alloc | apply pw_below_drewN | apply below_drew1) | exact HB.out)⟩)
    ·replace c12 := Bool.eq_false_iff.mpr c12
     subst c12
     have H1 : ((target_Relative.f kj6 t322 t324).bind fun t326 => ((target_Resolve.f t322 t326).bind fun bt327 => (if bt327.2 = 0 then (if bt327.1.toList = t324.toList then (some (t326.toList != ([] : List UInt8))) else (some false)) else (some false)))) = some r := by rw [if_neg (show ¬ (false = true) by decide)] at H; exact H
     clear H
     have H := H1
     clear H1
     replace H := Option.bind_eq_some_iff.mp H
     obtain ⟨t326, A130, H⟩ := H
     replace H : ((target_Resolve.f t322 t326).bind fun bt327 => (if bt327.2 = 0 then (if bt327.1.toList = t324.toList then (some (t326.toList != ([] : List UInt8))) else (some false)) else (some false))) = some r := H
     have A13 := Aside0.mk A130
     clear A130
     replace H := Option.bind_eq_some_iff.mp H
     obtain ⟨⟨t327, t328⟩, A140, H⟩ := H
     replace H : (if t328 = 0 then (if t327.toList = t324.toList then (some (t326.toList != ([] : List UInt8))) else (some false)) else (some false)) = some r := H
     have A14 := Aside0.mk A140
     clear A140
     by_cases c15 : t328 = 0
     ·rw [if_pos c15] at H
      have c15b0 : (t328 == 0) = true := beq_iff_eq.mpr c15
      have c15b1 : (t328 != 0) = false := bne_eq_false_iff_eq.mpr c15
      clear c15
      by_cases c16 : t327.toList = t324.toList
      ·rw [if_pos c16] at H
       have c16b0 : (t327.toList == t324.toList) = true := beq_iff_eq.mpr c16
       have c16b1 : (t327.toList != t324.toList) = false := bne_eq_false_iff_eq.mpr c16
       clear c16
       obtain rfl := Option.some.inj H
       go_wp2_with (first | ((with_reducible refine gate_callee (f := 33) rfl ?_); refine goesL_ (some 32) rfl rfl Tryd.func33 (by kernel_rfl) rfl #[.string t322, .string t324] rfl (by (try simp only [List.map_toArray, List.map_cons, List.map_nil]); first | done | rfl | (simp only [List.length_drop, List.length_take]; rfl)) ?_; (with_reducible refine (target_Relative.calls kj6 t322 t324 t326 _ A13.out).mono ?_); rintro e w17 ⟨rfl, hb⟩; refine ⟨_, rfl, ?_⟩; have n0_ := Aside0.mk (below_step (by repeat (first | (with_reducible first | exact HB.out | apply below_alloc | apply pw_below_drewN | apply below_drew1) | exact HB.out)) hb); clear HB; have HB := n0_; clear n0_; (try clear hb); (try clear hb2); (try clear hk); (try clear hi)) | ((with_reducible refine gate_callee (f := 30) rfl ?_); refine goesL_ (some 36) rfl rfl Tryd.func30 (by kernel_rfl) rfl #[.string t322, .string t326] rfl (by (try simp only [List.map_toArray, List.map_cons, List.map_nil]); first | done | rfl | (simp only [List.length_drop, List.length_take]; rfl)) ?_; (with_reducible refine (target_Resolve.calls t322 t326 t327 t328 _ A14.out ?hGG).mono ?_); (case hGG => exact GG_below HGG.out (by repeat (first | (with_reducible first | exact HB.out | apply below_alloc | apply pw_below_drewN | apply below_drew1) | exact HB.out))); rintro e w18 ⟨rfl, hb⟩; refine ⟨_, rfl, ?_⟩; have n0_ := Aside0.mk (below_step (by repeat (first | (with_reducible first | exact HB.out | apply below_alloc | apply pw_below_drewN | apply below_drew1) | exact HB.out)) hb); clear HB; have HB := n0_; clear n0_; (try clear hb); (try clear hb2); (try clear hk); (try clear hi)))
       all_goals (go_ret; exact ⟨by first | rfl | (have hE_ : ∀ l_ : List UInt8, (l_ != ([] : List UInt8)) = !l_.isEmpty := (fun l_ => by cases l_ <;> rfl); simp [hE_]; done) | (simp [errW_none, errW_some] <;> rfl) | (simp [*, errW_none, errW_some] <;> rfl), by repeat (first | (with_reducible first | exact HB.out | apply below_alloc | apply pw_below_drewN | apply below_drew1) | exact HB.out)⟩)
      ·rw [if_neg c16] at H
       have c16b0 : (t327.toList == t324.toList) = false := beq_eq_false_iff_ne.mpr c16
       have c16b1 : (t327.toList != t324.toList) = true := bne_iff_ne.mpr c16
       obtain rfl := Option.some.inj H
       go_wp2_with (first | ((with_reducible refine gate_callee (f := 33) rfl ?_); refine goesL_ (some 32) rfl rfl Tryd.func33 (by kernel_rfl) rfl #[.string t322, .string t324] rfl (by (try simp only [List.map_toArray, List.map_cons, List.map_nil]); first | done | rfl | (simp only [List.length_drop, List.length_take]; rfl)) ?_; (with_reducible refine (target_Relative.calls kj6 t322 t324 t326 _ A13.out).mono ?_); rintro e w19 ⟨rfl, hb⟩; refine ⟨_, rfl, ?_⟩; have n0_ := Aside0.mk (below_step (by repeat (first | (with_reducible first | exact HB.out | apply below_alloc | apply pw_below_drewN | apply below_drew1) | exact HB.out)) hb); clear HB; have HB := n0_; clear n0_; (try clear hb); (try clear hb2); (try clear hk); (try clear hi)) | ((with_reducible refine gate_callee (f := 30) rfl ?_); refine goesL_ (some 36) rfl rfl Tryd.func30 (by kernel_rfl) rfl #[.string t322, .string t326] rfl (by (try simp only [List.map_toArray, List.map_cons, List.map_nil]); first | done | rfl | (simp only [List.length_drop, List.length_take]; rfl)) ?_; (with_reducible refine (target_Resolve.calls t322 t326 t327 t328 _ A14.out ?hGG).mono ?_); (case hGG => exact GG_below HGG.out (by repeat (first | (with_reducible first | exact HB.out | apply below_alloc | apply pw_below_drewN | apply below_drew1) | exact HB.out))); rintro e w20 ⟨rfl, hb⟩; refine ⟨_, rfl, ?_⟩; have n0_ := Aside0.mk (below_step (by repeat (first | (with_reducible first | exact HB.out | apply below_alloc | apply pw_below_drewN | apply below_drew1) | exact HB.out)) hb); clear HB; have HB := n0_; clear n0_; (try clear hb); (try clear hb2); (try clear hk); (try clear hi)))
       all_goals (go_ret; exact ⟨by first | rfl | (have hE_ : ∀ l_ : List UInt8, (l_ != ([] : List UInt8)) = !l_.isEmpty := (fun l_ => by cases l_ <;> rfl); simp [hE_]; done) | (simp [errW_none, errW_some] <;> rfl) | (simp [*, errW_none, errW_some] <;> rfl), by repeat (first | (with_reducible first | exact HB.out | apply below_alloc | apply pw_below_drewN | apply below_drew1) | exact HB.out)⟩)
     ·rw [if_neg c15] at H
      have c15b0 : (t328 == 0) = false := beq_eq_false_iff_ne.mpr c15
      have c15b1 : (t328 != 0) = true := bne_iff_ne.mpr c15
      obtain rfl := Option.some.inj H
      go_wp2_with (first | ((with_reducible refine gate_callee (f := 33) rfl ?_); refine goesL_ (some 32) rfl rfl Tryd.func33 (by kernel_rfl) rfl #[.string t322, .string t324] rfl (by (try simp only [List.map_toArray, List.map_cons, List.map_nil]); first | done | rfl | (simp only [List.length_drop, List.length_take]; rfl)) ?_; (with_reducible refine (target_Relative.calls kj6 t322 t324 t326 _ A13.out).mono ?_); rintro e w21 ⟨rfl, hb⟩; refine ⟨_, rfl, ?_⟩; have n0_ := Aside0.mk (below_step (by repeat (first | (with_reducible first | exact HB.out | apply below_alloc | apply pw_below_drewN | apply below_drew1) | exact HB.out)) hb); clear HB; have HB := n0_; clear n0_; (try clear hb); (try clear hb2); (try clear hk); (try clear hi)) | ((with_reducible refine gate_callee (f := 30) rfl ?_); refine goesL_ (some 36) rfl rfl Tryd.func30 (by kernel_rfl) rfl #[.string t322, .string t326] rfl (by (try simp only [List.map_toArray, List.map_cons, List.map_nil]); first | done | rfl | (simp only [List.length_drop, List.length_take]; rfl)) ?_; (with_reducible refine (target_Resolve.calls t322 t326 t327 t328 _ A14.out ?hGG).mono ?_); (case hGG => exact GG_below HGG.out (by repeat (first | (with_reducible first | exact HB.out | apply below_alloc | apply pw_below_drewN | apply below_drew1) | exact HB.out))); rintro e w22 ⟨rfl, hb⟩; refine ⟨_, rfl, ?_⟩; have n0_ := Aside0.mk (below_step (by repeat (first | (with_reducible first | exact HB.out | apply below_alloc | apply pw_below_drewN | apply below_drew1) | exact HB.out)) hb); clear HB; have HB := n0_; clear n0_; (try clear hb); (try clear hb2); (try clear hk); (try clear hi)))
      all_goals (go_ret; exact ⟨by first | rfl | (have hE_ : ∀ l_ : List UInt8, (l_ != ([] : List UInt8)) = !l_.isEmpty := (fun l_ => by cases l_ <;> rfl); simp [hE_]; done) | (simp [errW_none, errW_some] <;> rfl) | (simp [*, errW_none, errW_some] <;> rfl), by repeat (first | (with_reducible first | exact HB.out | apply below_alloc | apply pw_below_drewN | apply below_drew1) | exact HB.out)⟩)
 ·replace c4 := Bool.eq_false_iff.mpr c4
  subst c4
  have H1 : (some false) = some r := by rw [if_neg (show ¬ (false = true) by decide)] at H; exact H
  clear H
  have H := H1
  clear H1
  obtain rfl := Option.some.inj H
  go_enter Tryd.func10, Tryd.ntmps10
  go_wp2_with (first | ((with_reducible refine gate_callee (f := 28) rfl ?_); refine goesL_ (some 12) rfl rfl Tryd.func28 (by kernel_rfl) rfl #[] rfl (by (try simp only [List.map_toArray, List.map_cons, List.map_nil]); first | done | rfl | (simp only [List.length_drop, List.length_take]; rfl)) ?_; (with_reducible refine (pannierlaw11_points.calls k  false _ A3.out ?hGG).mono ?_); (case hGG => exact GG_below HGG.out (by repeat (first | (with_reducible first | exact HB.out | apply below_alloc | apply pw_below_drewN | apply below_drew1) | exact HB.out))); rintro e w23 ⟨rfl, hb⟩; refine ⟨_, rfl, ?_⟩; have n0_ := Aside0.mk (below_step (by repeat (first | (with_reducible first | exact HB.out | apply below_alloc | apply pw_below_drewN | apply below_drew1) | exact HB.out)) hb); clear HB; have HB := n0_; clear n0_; (try clear hb); (try clear hb2); (try clear hk); (try clear hi)))
  all_goals (go_ret; exact ⟨by first | rfl | (have hE_ : ∀ l_ : List UInt8, (l_ != ([] : List UInt8)) = !l_.isEmpty := (fun l_ => by cases l_ <;> rfl); simp [hE_]; done) | (simp [errW_none, errW_some] <;> rfl) | (simp [*, errW_none, errW_some] <;> rfl), by repeat (first | (with_reducible first | exact HB.out | apply below_alloc | apply pw_below_drewN | apply below_drew1) | exact HB.out)⟩)

/-- THE ONE PURE STATEMENT of pannierlaw11_TargetBack: yours. -/
def pannierlaw11_TargetBack.Pure : Prop := ∀ (a0 : ByteArray) (a1 : ByteArray), a0.size ≤ 140737488351232 → a1.size ≤ 140737488351232 → ∃ k, pannierlaw11_TargetBack.f k a0 a1 = some true
theorem pannierlaw11_TargetBack.walk (P : pannierlaw11_TargetBack.Pure) (a0 : ByteArray) (a1 : ByteArray) (w : World) (w0 : a0.size ≤ 140737488351232) (w1 : a1.size ≤ 140737488351232) (hGG0 : GG w) :
  Calls Tryd.prog 10 #[.string a0, .string a1] w fun e w' => e = .returned (.bool true) ∧ Below w.heap.size w w' := by
 obtain ⟨k, h⟩ := P a0 a1 w0 w1
 refine (pannierlaw11_TargetBack.calls k a0 a1 true w h hGG0).mono ?_
 rintro e w' ⟨rfl, hd⟩
 exact ⟨rfl, hd⟩

end Go.Proofs.YtcfhijegmmdpkaaDoor.XA
