-- Written by a program of this session (wip/tools/xprint.py) out of the translation's print. Lean checks it.
import Derived.Test.YtnpdgmgabkoeiaaDoorXA0
import Derived.Test.YtnpdgmgabkoeiaaDoorXA1
namespace Go.Proofs.YtnpdgmgabkoeiaaDoor.XA
open Go.RowKit Go.Proofs.YtnpdgmgabkoeiaaDoorW.PrintWords Go.Proofs.YtnpdgmgabkoeiaaDoorW.PrintLast Go.Proofs.YtnpdgmgabkoeiaaDoorW.PrintMore
attribute [local go_sem] max2_int min2_int max_two min_two max_three min_three max_four min_four   -- for this text's walks alone
set_option linter.unusedVariables false
set_option linter.unusedSimpArgs false

/-! ### kind_Takes: function 10 -/
def kind_Takes.f (a0 : Int) : Option (Bool) := (kind_Class.f a0).bind fun t102 => (if t102 = 2 then (some true) else (if t102 = 3 then (some true) else (if t102 = 4 then (some true) else (if t102 = 5 then (some true) else ((kind_Kind.f a0).bind fun t103 => (some (t103 == 1)))))))
set_option maxHeartbeats 8000000 in
set_option maxRecDepth 100000 in
theorem kind_Takes.calls (a0 : Int) (r : Bool) (w : World) (h : kind_Takes.f a0 = some r) :
  Calls Tryd.prog 10 #[.int .u8 a0] w fun e w' => e = .returned (.bool r) ∧ Drawn0 w w' := by
 have H : ((kind_Class.f a0).bind fun t102 => (if t102 = 2 then (some true) else (if t102 = 3 then (some true) else (if t102 = 4 then (some true) else (if t102 = 5 then (some true) else ((kind_Kind.f a0).bind fun t103 => (some (t103 == 1)))))))) = some r := h
 clear h
 replace H := Option.bind_eq_some_iff.mp H
 obtain ⟨t102, A20, H⟩ := H
 replace H : (if t102 = 2 then (some true) else (if t102 = 3 then (some true) else (if t102 = 4 then (some true) else (if t102 = 5 then (some true) else ((kind_Kind.f a0).bind fun t103 => (some (t103 == 1))))))) = some r := H
 have A2 := Aside0.mk A20
 clear A20
 by_cases c3 : t102 = 2
 ·rw [if_pos c3] at H
  have c3b0 : (t102 == 2) = true := beq_iff_eq.mpr c3
  have c3b1 : (t102 != 2) = false := bne_eq_false_iff_eq.mpr c3
  clear c3
  obtain rfl := Option.some.inj H
  go_enter Tryd.func10, Tryd.ntmps10
  go_wp2_with (first | ((with_reducible refine gate_callee (f := 4) rfl ?_); refine goesL_ (some 4) rfl rfl Tryd.func4 (by kernel_rfl) rfl #[.int .u8 a0] rfl (by (try simp only [List.map_toArray, List.map_cons, List.map_nil]); first | done | rfl | (simp only [List.length_drop, List.length_take]; rfl)) ?_; (with_reducible refine (kind_Class.calls a0 t102 _ A2.out).mono ?_); rintro e w' ⟨rfl, ⟨nd, rfl⟩⟩; refine ⟨_, rfl, ?_⟩))
  all_goals (go_ret; exact ⟨by first | rfl | (simp; done) | (simp [*]; done), by repeat (first | exact Drawn0.refl _ | apply Drawn0.step)⟩)
 ·rw [if_neg c3] at H
  have c3b0 : (t102 == 2) = false := beq_eq_false_iff_ne.mpr c3
  have c3b1 : (t102 != 2) = true := bne_iff_ne.mpr c3
  by_cases c4 : t102 = 3
  ·rw [if_pos c4] at H
   have c4b0 : (t102 == 3) = true := beq_iff_eq.mpr c4
   have c4b1 : (t102 != 3) = false := bne_eq_false_iff_eq.mpr c4
   clear c4
   obtain rfl := Option.some.inj H
   go_enter Tryd.func10, Tryd.ntmps10
   go_wp2_with (first | ((with_reducible refine gate_callee (f := 4) rfl ?_); refine goesL_ (some 4) rfl rfl Tryd.func4 (by kernel_rfl) rfl #[.int .u8 a0] rfl (by (try simp only [List.map_toArray, List.map_cons, List.map_nil]); first | done | rfl | (simp only [List.length_drop, List.length_take]; rfl)) ?_; (with_reducible refine (kind_Class.calls a0 t102 _ A2.out).mono ?_); rintro e w' ⟨rfl, ⟨nd, rfl⟩⟩; refine ⟨_, rfl, ?_⟩))
   all_goals (go_ret; exact ⟨by first | rfl | (simp; done) | (simp [*]; done), by repeat (first | exact Drawn0.refl _ | apply Drawn0.step)⟩)
  ·rw [if_neg c4] at H
   have c4b0 : (t102 == 3) = false := beq_eq_false_iff_ne.mpr c4
   have c4b1 : (t102 != 3) = true := bne_iff_ne.mpr c4
   by_cases c5 : t102 = 4
   ·rw [if_pos c5] at H
    have c5b0 : (t102 == 4) = true := beq_iff_eq.mpr c5
    have c5b1 : (t102 != 4) = false := bne_eq_false_iff_eq.mpr c5
    clear c5
    obtain rfl := Option.some.inj H
    go_enter Tryd.func10, Tryd.ntmps10
    go_wp2_with (first | ((with_reducible refine gate_callee (f := 4) rfl ?_); refine goesL_ (some 4) rfl rfl Tryd.func4 (by kernel_rfl) rfl #[.int .u8 a0] rfl (by (try simp only [List.map_toArray, List.map_cons, List.map_nil]); first | done | rfl | (simp only [List.length_drop, List.length_take]; rfl)) ?_; (with_reducible refine (kind_Class.calls a0 t102 _ A2.out).mono ?_); rintro e w' ⟨rfl, ⟨nd, rfl⟩⟩; refine ⟨_, rfl, ?_⟩))
    all_goals (go_ret; exact ⟨by first | rfl | (simp; done) | (simp [*]; done), by repeat (first | exact Drawn0.refl _ | apply Drawn0.step)⟩)
   ·rw [if_neg c5] at H
    have c5b0 : (t102 == 4) = false := beq_eq_false_iff_ne.mpr c5
    have c5b1 : (t102 != 4) = true := bne_iff_ne.mpr c5
    by_cases c6 : t102 = 5
    ·rw [if_pos c6] at H
     have c6b0 : (t102 == 5) = true := beq_iff_eq.mpr c6
     have c6b1 : (t102 != 5) = false := bne_eq_false_iff_eq.mpr c6
     clear c6
     obtain rfl := Option.some.inj H
     go_enter Tryd.func10, Tryd.ntmps10
     go_wp2_with (first | ((with_reducible refine gate_callee (f := 4) rfl ?_); refine goesL_ (some 4) rfl rfl Tryd.func4 (by kernel_rfl) rfl #[.int .u8 a0] rfl (by (try simp only [List.map_toArray, List.map_cons, List.map_nil]); first | done | rfl | (simp only [List.length_drop, List.length_take]; rfl)) ?_; (with_reducible refine (kind_Class.calls a0 t102 _ A2.out).mono ?_); rintro e w' ⟨rfl, ⟨nd, rfl⟩⟩; refine ⟨_, rfl, ?_⟩))
     all_goals (go_ret; exact ⟨by first | rfl | (simp; done) | (simp [*]; done), by repeat (first | exact Drawn0.refl _ | apply Drawn0.step)⟩)
    ·rw [if_neg c6] at H
     have c6b0 : (t102 == 5) = false := beq_eq_false_iff_ne.mpr c6
     have c6b1 : (t102 != 5) = true := bne_iff_ne.mpr c6
     replace H := Option.bind_eq_some_iff.mp H
     obtain ⟨t103, A70, H⟩ := H
     replace H : (some (t103 == 1)) = some r := H
     have A7 := Aside0.mk A70
     clear A70
     obtain rfl := Option.some.inj H
     go_enter Tryd.func10, Tryd.ntmps10
     go_wp2_with (first | ((with_reducible refine gate_callee (f := 4) rfl ?_); refine goesL_ (some 4) rfl rfl Tryd.func4 (by kernel_rfl) rfl #[.int .u8 a0] rfl (by (try simp only [List.map_toArray, List.map_cons, List.map_nil]); first | done | rfl | (simp only [List.length_drop, List.length_take]; rfl)) ?_; (with_reducible refine (kind_Class.calls a0 t102 _ A2.out).mono ?_); rintro e w' ⟨rfl, ⟨nd, rfl⟩⟩; refine ⟨_, rfl, ?_⟩) | ((with_reducible refine gate_callee (f := 11) rfl ?_); refine goesL_ (some 11) rfl rfl Tryd.func11 (by kernel_rfl) rfl #[.int .u8 a0] rfl (by (try simp only [List.map_toArray, List.map_cons, List.map_nil]); first | done | rfl | (simp only [List.length_drop, List.length_take]; rfl)) ?_; (with_reducible refine (kind_Kind.calls a0 t103 _ A7.out).mono ?_); rintro e w' ⟨rfl, ⟨nd, rfl⟩⟩; refine ⟨_, rfl, ?_⟩))
     all_goals (go_ret; exact ⟨by first | rfl | (simp; done) | (simp [*]; done), by repeat (first | exact Drawn0.refl _ | apply Drawn0.step)⟩)

/-- THE ONE PURE STATEMENT of kind_Takes: yours. -/
def kind_Takes.Pure : Prop := ∀ (a0 : Int), (Lit.int .u8 a0).wf = true → kind_Takes.f a0 = some true
theorem kind_Takes.walk (P : kind_Takes.Pure) (a0 : Int) (w : World) (w0 : (Lit.int .u8 a0).wf = true) :
  Calls Tryd.prog 10 #[.int .u8 a0] w fun e w' => e = .returned (.bool true) ∧ Below w.heap.size w w' := by
 have h := P a0 w0
 refine (kind_Takes.calls a0 true w h).mono ?_
 rintro e w' ⟨rfl, hd⟩
 exact ⟨rfl, hd.below⟩

end Go.Proofs.YtnpdgmgabkoeiaaDoor.XA
