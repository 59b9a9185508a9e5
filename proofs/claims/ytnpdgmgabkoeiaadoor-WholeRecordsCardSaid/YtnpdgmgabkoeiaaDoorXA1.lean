-- Written by a program of this session (wip/tools/xprint.py) out of the translation's print. Lean checks it.
import Derived.Test.YtnpdgmgabkoeiaaDoorXA0
namespace Go.Proofs.YtnpdgmgabkoeiaaDoor.XA
open Go.RowKit Go.Proofs.YtnpdgmgabkoeiaaDoorW.PrintWords Go.Proofs.YtnpdgmgabkoeiaaDoorW.PrintLast Go.Proofs.YtnpdgmgabkoeiaaDoorW.PrintMore
attribute [local go_sem] max2_int min2_int max_two min_two max_three min_three max_four min_four   -- for this text's walks alone
set_option linter.unusedVariables false
set_option linter.unusedSimpArgs false

/-! ### kind_Kind: function 11 -/
def kind_Kind.f (a0 : Int) : Option (Int) := if a0 = 0 then (some 1) else (if a0 = 48 then (some 1) else (if a0 = 55 then (some 1) else (if a0 = 49 then (some 2) else (if a0 = 50 then (some 3) else (if a0 = 53 then (some 4) else (some 0))))))
set_option maxHeartbeats 8000000 in
set_option maxRecDepth 100000 in
theorem kind_Kind.calls (a0 : Int) (r : Int) (w : World) (h : kind_Kind.f a0 = some r) :
  Calls Tryd.prog 11 #[.int .u8 a0] w fun e w' => e = .returned (.int .i64 r) ∧ Drawn0 w w' := by
 have H : (if a0 = 0 then (some 1) else (if a0 = 48 then (some 1) else (if a0 = 55 then (some 1) else (if a0 = 49 then (some 2) else (if a0 = 50 then (some 3) else (if a0 = 53 then (some 4) else (some 0))))))) = some r := h
 clear h
 by_cases c2 : a0 = 0
 ·rw [if_pos c2] at H
  have c2b0 : (a0 == 0) = true := beq_iff_eq.mpr c2
  have c2b1 : (a0 != 0) = false := bne_eq_false_iff_eq.mpr c2
  clear c2
  obtain rfl := Option.some.inj H
  go_enter Tryd.func11, Tryd.ntmps11
  go_wp2
  all_goals (go_ret; exact ⟨by first | rfl | (simp; done) | (simp [*]; done), by repeat (first | exact Drawn0.refl _ | apply Drawn0.step)⟩)
 ·rw [if_neg c2] at H
  have c2b0 : (a0 == 0) = false := beq_eq_false_iff_ne.mpr c2
  have c2b1 : (a0 != 0) = true := bne_iff_ne.mpr c2
  by_cases c3 : a0 = 48
  ·rw [if_pos c3] at H
   have c3b0 : (a0 == 48) = true := beq_iff_eq.mpr c3
   have c3b1 : (a0 != 48) = false := bne_eq_false_iff_eq.mpr c3
   clear c3
   obtain rfl := Option.some.inj H
   go_enter Tryd.func11, Tryd.ntmps11
   go_wp2
   all_goals (go_ret; exact ⟨by first | rfl | (simp; done) | (simp [*]; done), by repeat (first | exact Drawn0.refl _ | apply Drawn0.step)⟩)
  ·rw [if_neg c3] at H
   have c3b0 : (a0 == 48) = false := beq_eq_false_iff_ne.mpr c3
   have c3b1 : (a0 != 48) = true := bne_iff_ne.mpr c3
   by_cases c4 : a0 = 55
   ·rw [if_pos c4] at H
    have c4b0 : (a0 == 55) = true := beq_iff_eq.mpr c4
    have c4b1 : (a0 != 55) = false := bne_eq_false_iff_eq.mpr c4
    clear c4
    obtain rfl := Option.some.inj H
    go_enter Tryd.func11, Tryd.ntmps11
    go_wp2
    all_goals (go_ret; exact ⟨by first | rfl | (simp; done) | (simp [*]; done), by repeat (first | exact Drawn0.refl _ | apply Drawn0.step)⟩)
   ·rw [if_neg c4] at H
    have c4b0 : (a0 == 55) = false := beq_eq_false_iff_ne.mpr c4
    have c4b1 : (a0 != 55) = true := bne_iff_ne.mpr c4
    by_cases c5 : a0 = 49
    ·rw [if_pos c5] at H
     have c5b0 : (a0 == 49) = true := beq_iff_eq.mpr c5
     have c5b1 : (a0 != 49) = false := bne_eq_false_iff_eq.mpr c5
     clear c5
     obtain rfl := Option.some.inj H
     go_enter Tryd.func11, Tryd.ntmps11
     go_wp2
     all_goals (go_ret; exact ⟨by first | rfl | (simp; done) | (simp [*]; done), by repeat (first | exact Drawn0.refl _ | apply Drawn0.step)⟩)
    ·rw [if_neg c5] at H
     have c5b0 : (a0 == 49) = false := beq_eq_false_iff_ne.mpr c5
     have c5b1 : (a0 != 49) = true := bne_iff_ne.mpr c5
     by_cases c6 : a0 = 50
     ·rw [if_pos c6] at H
      have c6b0 : (a0 == 50) = true := beq_iff_eq.mpr c6
      have c6b1 : (a0 != 50) = false := bne_eq_false_iff_eq.mpr c6
      clear c6
      obtain rfl := Option.some.inj H
      go_enter Tryd.func11, Tryd.ntmps11
      go_wp2
      all_goals (go_ret; exact ⟨by first | rfl | (simp; done) | (simp [*]; done), by repeat (first | exact Drawn0.refl _ | apply Drawn0.step)⟩)
     ·rw [if_neg c6] at H
      have c6b0 : (a0 == 50) = false := beq_eq_false_iff_ne.mpr c6
      have c6b1 : (a0 != 50) = true := bne_iff_ne.mpr c6
      by_cases c7 : a0 = 53
      ·rw [if_pos c7] at H
       have c7b0 : (a0 == 53) = true := beq_iff_eq.mpr c7
       have c7b1 : (a0 != 53) = false := bne_eq_false_iff_eq.mpr c7
       clear c7
       obtain rfl := Option.some.inj H
       go_enter Tryd.func11, Tryd.ntmps11
       go_wp2
       all_goals (go_ret; exact ⟨by first | rfl | (simp; done) | (simp [*]; done), by repeat (first | exact Drawn0.refl _ | apply Drawn0.step)⟩)
      ·rw [if_neg c7] at H
       have c7b0 : (a0 == 53) = false := beq_eq_false_iff_ne.mpr c7
       have c7b1 : (a0 != 53) = true := bne_iff_ne.mpr c7
       obtain rfl := Option.some.inj H
       go_enter Tryd.func11, Tryd.ntmps11
       go_wp2
       all_goals (go_ret; exact ⟨by first | rfl | (simp; done) | (simp [*]; done), by repeat (first | exact Drawn0.refl _ | apply Drawn0.step)⟩)

/-! ### kind_Class: function 4 -/
def kind_Class.f (a0 : Int) : Option (Int) := if a0 = 120 then (some 2) else (if a0 = 103 then (some 3) else (if a0 = 76 then (some 4) else (if a0 = 75 then (some 5) else ((kind_Kind.f a0).bind fun t101 => (if t101 = 0 then (some 0) else (some 1))))))
set_option maxHeartbeats 8000000 in
set_option maxRecDepth 100000 in
theorem kind_Class.calls (a0 : Int) (r : Int) (w : World) (h : kind_Class.f a0 = some r) :
  Calls Tryd.prog 4 #[.int .u8 a0] w fun e w' => e = .returned (.int .i64 r) ∧ Drawn0 w w' := by
 have H : (if a0 = 120 then (some 2) else (if a0 = 103 then (some 3) else (if a0 = 76 then (some 4) else (if a0 = 75 then (some 5) else ((kind_Kind.f a0).bind fun t101 => (if t101 = 0 then (some 0) else (some 1))))))) = some r := h
 clear h
 by_cases c2 : a0 = 120
 ·rw [if_pos c2] at H
  have c2b0 : (a0 == 120) = true := beq_iff_eq.mpr c2
  have c2b1 : (a0 != 120) = false := bne_eq_false_iff_eq.mpr c2
  clear c2
  obtain rfl := Option.some.inj H
  go_enter Tryd.func4, Tryd.ntmps4
  go_wp2
  all_goals (go_ret; exact ⟨by first | rfl | (simp; done) | (simp [*]; done), by repeat (first | exact Drawn0.refl _ | apply Drawn0.step)⟩)
 ·rw [if_neg c2] at H
  have c2b0 : (a0 == 120) = false := beq_eq_false_iff_ne.mpr c2
  have c2b1 : (a0 != 120) = true := bne_iff_ne.mpr c2
  by_cases c3 : a0 = 103
  ·rw [if_pos c3] at H
   have c3b0 : (a0 == 103) = true := beq_iff_eq.mpr c3
   have c3b1 : (a0 != 103) = false := bne_eq_false_iff_eq.mpr c3
   clear c3
   obtain rfl := Option.some.inj H
   go_enter Tryd.func4, Tryd.ntmps4
   go_wp2
   all_goals (go_ret; exact ⟨by first | rfl | (simp; done) | (simp [*]; done), by repeat (first | exact Drawn0.refl _ | apply Drawn0.step)⟩)
  ·rw [if_neg c3] at H
   have c3b0 : (a0 == 103) = false := beq_eq_false_iff_ne.mpr c3
   have c3b1 : (a0 != 103) = true := bne_iff_ne.mpr c3
   by_cases c4 : a0 = 76
   ·rw [if_pos c4] at H
    have c4b0 : (a0 == 76) = true := beq_iff_eq.mpr c4
    have c4b1 : (a0 != 76) = false := bne_eq_false_iff_eq.mpr c4
    clear c4
    obtain rfl := Option.some.inj H
    go_enter Tryd.func4, Tryd.ntmps4
    go_wp2
    all_goals (go_ret; exact ⟨by first | rfl | (simp; done) | (simp [*]; done), by repeat (first | exact Drawn0.refl _ | apply Drawn0.step)⟩)
   ·rw [if_neg c4] at H
    have c4b0 : (a0 == 76) = false := beq_eq_false_iff_ne.mpr c4
    have c4b1 : (a0 != 76) = true := bne_iff_ne.mpr c4
    by_cases c5 : a0 = 75
    ·rw [if_pos c5] at H
     have c5b0 : (a0 == 75) = true := beq_iff_eq.mpr c5
     have c5b1 : (a0 != 75) = false := bne_eq_false_iff_eq.mpr c5
     clear c5
     obtain rfl := Option.some.inj H
     go_enter Tryd.func4, Tryd.ntmps4
     go_wp2
     all_goals (go_ret; exact ⟨by first | rfl | (simp; done) | (simp [*]; done), by repeat (first | exact Drawn0.refl _ | apply Drawn0.step)⟩)
    ·rw [if_neg c5] at H
     have c5b0 : (a0 == 75) = false := beq_eq_false_iff_ne.mpr c5
     have c5b1 : (a0 != 75) = true := bne_iff_ne.mpr c5
     replace H := Option.bind_eq_some_iff.mp H
     obtain ⟨t101, A60, H⟩ := H
     replace H : (if t101 = 0 then (some 0) else (some 1)) = some r := H
     have A6 := Aside0.mk A60
     clear A60
     by_cases c7 : t101 = 0
     ·rw [if_pos c7] at H
      have c7b0 : (t101 == 0) = true := beq_iff_eq.mpr c7
      have c7b1 : (t101 != 0) = false := bne_eq_false_iff_eq.mpr c7
      clear c7
      obtain rfl := Option.some.inj H
      go_enter Tryd.func4, Tryd.ntmps4
      go_wp2_with (first | ((with_reducible refine gate_callee (f := 11) rfl ?_); refine goesL_ (some 13) rfl rfl Tryd.func11 (by kernel_rfl) rfl #[.int .u8 a0] rfl (by (try simp only [List.map_toArray, List.map_cons, List.map_nil]); first | done | rfl | (simp only [List.length_drop, List.length_take]; rfl)) ?_; (with_reducible refine (kind_Kind.calls a0 t101 _ A6.out).mono ?_); rintro e w' ⟨rfl, ⟨nd, rfl⟩⟩; refine ⟨_, rfl, ?_⟩))
      all_goals (go_ret; exact ⟨by first | rfl | (simp; done) | (simp [*]; done), by repeat (first | exact Drawn0.refl _ | apply Drawn0.step)⟩)
     ·rw [if_neg c7] at H
      have c7b0 : (t101 == 0) = false := beq_eq_false_iff_ne.mpr c7
      have c7b1 : (t101 != 0) = true := bne_iff_ne.mpr c7
      obtain rfl := Option.some.inj H
      go_enter Tryd.func4, Tryd.ntmps4
      go_wp2_with (first | ((with_reducible refine gate_callee (f := 11) rfl ?_); refine goesL_ (some 13) rfl rfl Tryd.func11 (by kernel_rfl) rfl #[.int .u8 a0] rfl (by (try simp only [List.map_toArray, List.map_cons, List.map_nil]); first | done | rfl | (simp only [List.length_drop, List.length_take]; rfl)) ?_; (with_reducible refine (kind_Kind.calls a0 t101 _ A6.out).mono ?_); rintro e w' ⟨rfl, ⟨nd, rfl⟩⟩; refine ⟨_, rfl, ?_⟩))
      all_goals (go_ret; exact ⟨by first | rfl | (simp; done) | (simp [*]; done), by repeat (first | exact Drawn0.refl _ | apply Drawn0.step)⟩)

end Go.Proofs.YtnpdgmgabkoeiaaDoor.XA
