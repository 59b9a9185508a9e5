-- Written by a program of this session (wip/tools/xprint.py) out of the translation's print. Lean checks it.
import Derived.Test.YteeofjlohaeinaaXA0
import Derived.Test.YteeofjlohaeinaaXA5
import Derived.Test.YteeofjlohaeinaaERefSums
namespace Go.Proofs.Yteeofjlohaeinaa.XA
open Go.RowKit Go.Proofs.YteeofjlohaeinaaW.PrintWords Go.Proofs.YteeofjlohaeinaaW.PrintLast Go.Proofs.YteeofjlohaeinaaW.PrintMore
attribute [local go_sem] max2_int min2_int max_two min_two max_three min_three max_four min_four   -- for this text's walks alone
set_option linter.unusedVariables false
set_option linter.unusedSimpArgs false

/-! ### pannierref05_Right: function 28 -/
def pannierref05_Right.f (k : Nat) (a0 : ByteArray) : Option (Bool) := if (a0.size : Int) = 512 then (if 148 ≤ 156 then (if 156 ≤ (a0.size : Int) then ((pannierref02_Parse.f k (a0.extract 148 156)).bind fun bt233 => (if bt233.2 = 0 then ((pannierref05_Plain.f a0).bind fun t235 => (if bt233.1 = t235 then (some true) else ((pannierref05_Signed.f a0).bind fun t236 => (some (bt233.1 == t236))))) else (some false))) else (none)) else (none)) else (some false)
theorem pannierref05_Right.mono : ∀ a0 k, LeO (pannierref05_Right.f k a0) (pannierref05_Right.f (k + 1) a0) := by
  intro a0 k
  unfold pannierref05_Right.f
  repeat' first
      | (with_reducible exact pannierref02_Parse.mono _ _)
      | (with_reducible exact LeO.refl _)
      | (with_reducible exact LeO.none _)
      | (with_reducible refine LeO.ite ?_ ?_)
      | (with_reducible refine LeO.bind ?_ (fun _ => ?_))
      | exact pannierref02_Parse.mono _ _
      | exact LeO.none _
      | refine LeO.ite ?_ ?_
      | refine LeO.bind ?_ (fun _ => ?_)
set_option maxHeartbeats 8000000 in
set_option maxRecDepth 100000 in
theorem pannierref05_Right.calls (k : Nat) (a0 : ByteArray) (r : Bool) (w : World) (h : pannierref05_Right.f k a0 = some r) :
    Calls Try.prog 28 #[.string a0] w fun e w' => e = .returned (.bool r) ∧ Below w.heap.size w w' := by
  have HB := Aside0.mk (Below.refl w.heap.size w)
  have H : (if (a0.size : Int) = 512 then (if 148 ≤ 156 then (if 156 ≤ (a0.size : Int) then ((pannierref02_Parse.f k (a0.extract 148 156)).bind fun bt233 => (if bt233.2 = 0 then ((pannierref05_Plain.f a0).bind fun t235 => (if bt233.1 = t235 then (some true) else ((pannierref05_Signed.f a0).bind fun t236 => (some (bt233.1 == t236))))) else (some false))) else (none)) else (none)) else (some false)) = some r := h
  clear h
  by_cases c2 : (a0.size : Int) = 512
  · rw [if_pos c2] at H
    have c2b0 : ((a0.size : Int) == 512) = true := beq_iff_eq.mpr c2
    have c2b1 : ((a0.size : Int) != 512) = false := bne_eq_false_iff_eq.mpr c2
    clear c2
    by_cases c3 : 148 ≤ 156
    · rw [if_pos c3] at H
      have c3b0 := eq_true c3
      have c3b1 : decide (148 ≤ 156) = true := decide_eq_true c3
      clear c3
      by_cases c4 : 156 ≤ (a0.size : Int)
      · rw [if_pos c4] at H
        have c4b0 := eq_true c4
        have c4b1 : decide (156 ≤ (a0.size : Int)) = true := decide_eq_true c4
        clear c4
        replace H := Option.bind_eq_some_iff.mp H
        obtain ⟨⟨t233, t234⟩, A50, H⟩ := H
        replace H : (if t234 = 0 then ((pannierref05_Plain.f a0).bind fun t235 => (if t233 = t235 then (some true) else ((pannierref05_Signed.f a0).bind fun t236 => (some (t233 == t236))))) else (some false)) = some r := H
        have A5 := Aside0.mk A50
        clear A50
        by_cases c6 : t234 = 0
        · rw [if_pos c6] at H
          have c6b0 : (t234 == 0) = true := beq_iff_eq.mpr c6
          have c6b1 : (t234 != 0) = false := bne_eq_false_iff_eq.mpr c6
          clear c6
          replace H := Option.bind_eq_some_iff.mp H
          obtain ⟨t235, A70, H⟩ := H
          replace H : (if t233 = t235 then (some true) else ((pannierref05_Signed.f a0).bind fun t236 => (some (t233 == t236)))) = some r := H
          have A7 := Aside0.mk A70
          clear A70
          by_cases c8 : t233 = t235
          · rw [if_pos c8] at H
            have c8b0 : (t233 == t235) = true := beq_iff_eq.mpr c8
            have c8b1 : (t233 != t235) = false := bne_eq_false_iff_eq.mpr c8
            clear c8
            obtain rfl := Option.some.inj H
            go_enter Try.func28, Try.ntmps28
            go_wp2_with (first | ((with_reducible refine gate_callee (f := 17) rfl ?_); refine goesL_ (some 11) rfl rfl Try.func17 (by kernel_rfl) rfl #[.string (a0.extract 148 156)] rfl (by (try simp only [List.map_toArray, List.map_cons, List.map_nil]); first | done | rfl | (simp only [List.length_drop, List.length_take]; rfl)) ?_; (with_reducible refine (pannierref02_Parse.calls k (a0.extract 148 156) t233 t234 _ A5.out).mono ?_); rintro e w9 ⟨rfl, hb⟩; refine ⟨_, rfl, ?_⟩; have n0_ := Aside0.mk (below_step (by repeat (first | (with_reducible first | exact HB.out | apply below_alloc | apply pw_below_drewN | apply below_drew1) | exact HB.out)) hb); clear HB; have HB := n0_; clear n0_; (try clear hb); (try clear hb2); (try clear hk); (try clear hi)) | (go_at_call 24; (with_reducible refine (pannierref05_Plain.calls a0 t235 _ A7.out).mono ?_); rintro e w10 ⟨rfl, hb⟩; have n0_ := Aside0.mk (below_step (by repeat (first | (with_reducible first | exact HB.out | apply below_alloc | apply pw_below_drewN | apply below_drew1) | exact HB.out)) hb); clear HB; have HB := n0_; clear n0_; (try clear hb); (try clear hb2); (try clear hk); (try clear hi)))
            go_ret
            exact ⟨by first | rfl | (simp [errW_none, errW_some] <;> rfl) | (simp [*, errW_none, errW_some] <;> rfl), by repeat (first | (with_reducible first | exact HB.out | apply below_alloc | apply pw_below_drewN | apply below_drew1) | exact HB.out)⟩
          · rw [if_neg c8] at H
            have c8b0 : (t233 == t235) = false := beq_eq_false_iff_ne.mpr c8
            have c8b1 : (t233 != t235) = true := bne_iff_ne.mpr c8
            replace H := Option.bind_eq_some_iff.mp H
            obtain ⟨t236, A110, H⟩ := H
            replace H : (some (t233 == t236)) = some r := H
            have A11 := Aside0.mk A110
            clear A110
            obtain rfl := Option.some.inj H
            go_enter Try.func28, Try.ntmps28
            go_wp2_with (first | ((with_reducible refine gate_callee (f := 17) rfl ?_); refine goesL_ (some 11) rfl rfl Try.func17 (by kernel_rfl) rfl #[.string (a0.extract 148 156)] rfl (by (try simp only [List.map_toArray, List.map_cons, List.map_nil]); first | done | rfl | (simp only [List.length_drop, List.length_take]; rfl)) ?_; (with_reducible refine (pannierref02_Parse.calls k (a0.extract 148 156) t233 t234 _ A5.out).mono ?_); rintro e w12 ⟨rfl, hb⟩; refine ⟨_, rfl, ?_⟩; have n0_ := Aside0.mk (below_step (by repeat (first | (with_reducible first | exact HB.out | apply below_alloc | apply pw_below_drewN | apply below_drew1) | exact HB.out)) hb); clear HB; have HB := n0_; clear n0_; (try clear hb); (try clear hb2); (try clear hk); (try clear hi)) | (go_at_call 24; (with_reducible refine (pannierref05_Plain.calls a0 t235 _ A7.out).mono ?_); rintro e w13 ⟨rfl, hb⟩; have n0_ := Aside0.mk (below_step (by repeat (first | (with_reducible first | exact HB.out | apply below_alloc | apply pw_below_drewN | apply below_drew1) | exact HB.out)) hb); clear HB; have HB := n0_; clear n0_; (try clear hb); (try clear hb2); (try clear hk); (try clear hi)) | (go_at_call 26; (with_reducible refine (pannierref05_Signed.calls a0 t236 _ A11.out).mono ?_); rintro e w14 ⟨rfl, hb⟩; have n0_ := Aside0.mk (below_step (by repeat (first | (with_reducible first | exact HB.out | apply below_alloc | apply pw_below_drewN | apply below_drew1) | exact HB.out)) hb); clear HB; have HB := n0_; clear n0_; (try clear hb); (try clear hb2); (try clear hk); (try clear hi)))
            go_ret
            exact ⟨by first | rfl | (simp [errW_none, errW_some] <;> rfl) | (simp [*, errW_none, errW_some] <;> rfl), by repeat (first | (with_reducible first | exact HB.out | apply below_alloc | apply pw_below_drewN | apply below_drew1) | exact HB.out)⟩
        · rw [if_neg c6] at H
          have c6b0 : (t234 == 0) = false := beq_eq_false_iff_ne.mpr c6
          have c6b1 : (t234 != 0) = true := bne_iff_ne.mpr c6
          obtain rfl := Option.some.inj H
          go_enter Try.func28, Try.ntmps28
          go_wp2_with (first | ((with_reducible refine gate_callee (f := 17) rfl ?_); refine goesL_ (some 11) rfl rfl Try.func17 (by kernel_rfl) rfl #[.string (a0.extract 148 156)] rfl (by (try simp only [List.map_toArray, List.map_cons, List.map_nil]); first | done | rfl | (simp only [List.length_drop, List.length_take]; rfl)) ?_; (with_reducible refine (pannierref02_Parse.calls k (a0.extract 148 156) t233 t234 _ A5.out).mono ?_); rintro e w15 ⟨rfl, hb⟩; refine ⟨_, rfl, ?_⟩; have n0_ := Aside0.mk (below_step (by repeat (first | (with_reducible first | exact HB.out | apply below_alloc | apply pw_below_drewN | apply below_drew1) | exact HB.out)) hb); clear HB; have HB := n0_; clear n0_; (try clear hb); (try clear hb2); (try clear hk); (try clear hi)))
          go_ret
          exact ⟨by first | rfl | (simp [errW_none, errW_some] <;> rfl) | (simp [*, errW_none, errW_some] <;> rfl), by repeat (first | (with_reducible first | exact HB.out | apply below_alloc | apply pw_below_drewN | apply below_drew1) | exact HB.out)⟩
      · rw [if_neg c4] at H
        exact absurd H (by simp)
    · rw [if_neg c3] at H
      exact absurd H (by simp)
  · rw [if_neg c2] at H
    have c2b0 : ((a0.size : Int) == 512) = false := beq_eq_false_iff_ne.mpr c2
    have c2b1 : ((a0.size : Int) != 512) = true := bne_iff_ne.mpr c2
    obtain rfl := Option.some.inj H
    go_enter Try.func28, Try.ntmps28
    go_wp2
    go_ret
    exact ⟨by first | rfl | (simp [errW_none, errW_some] <;> rfl) | (simp [*, errW_none, errW_some] <;> rfl), by repeat (first | (with_reducible first | exact HB.out | apply below_alloc | apply pw_below_drewN | apply below_drew1) | exact HB.out)⟩

end Go.Proofs.Yteeofjlohaeinaa.XA
