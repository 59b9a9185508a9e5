-- Written by a program of this session (wip/tools/xprint.py) out of the translation's print. Lean checks it.
import Derived.Test.YtchldbhnohicoaaXA0
import Derived.Test.YtchldbhnohicoaaXA4
import Derived.Test.YtchldbhnohicoaaESums
namespace Go.Proofs.Ytchldbhnohicoaa.XA
open Go.RowKit Go.Proofs.YtchldbhnohicoaaW.PrintWords Go.Proofs.YtchldbhnohicoaaW.PrintLast Go.Proofs.YtchldbhnohicoaaW.PrintMore
attribute [local go_sem] max2_int min2_int max_two min_two max_three min_three max_four min_four   -- for this text's walks alone
set_option linter.unusedVariables false
set_option linter.unusedSimpArgs false

/-! ### sum_Right: function 22 -/
def sum_Right.f (k : Nat) (l0 : List Int) : Option (Bool) := if (l0.length : Int) = 512 then (if 148 ≤ 156 then (if 156 ≤ (l0.length : Int) then ((octal_Parse.f k ((l0.take 156).drop 148)).bind fun bt122 => (if bt122.2 = 0 then ((sum_Plain.f l0).bind fun t124 => (if bt122.1 = t124 then (some true) else ((sum_Signed.f l0).bind fun t125 => (some (bt122.1 == t125))))) else (some false))) else (none)) else (none)) else (some false)
theorem sum_Right.mono : ∀ a0 k, LeO (sum_Right.f k a0) (sum_Right.f (k + 1) a0) := by
 intro a0 k
 unfold sum_Right.f
 repeat' first
   | (with_reducible exact octal_Parse.mono _ _)
   | (with_reducible exact LeO.refl _)
   | (with_reducible exact LeO.none _)
   | (with_reducible refine LeO.ite ?_ ?_)
   | (with_reducible refine LeO.bind ?_ (fun _ => ?_))
   | exact octal_Parse.mono _ _
   | exact LeO.none _
   | refine LeO.ite ?_ ?_
   | refine LeO.bind ?_ (fun _ => ?_)
set_option maxHeartbeats 8000000 in
set_option maxRecDepth 100000 in
theorem sum_Right.calls (k : Nat) (A0 : Option Addr) (c0 : Nat) (l0 : List Int) (r : Bool) (w : World) (hr0 : Kd.C (Kd.int .u8) w A0 l0.length l0) (hc0 : l0.length ≤ c0) (h : sum_Right.f k l0 = some r) :
  Calls Try.prog 22 #[.slice A0 l0.length c0] w fun e w' => e = .returned (.bool r) ∧ Drawn0 w w' := by
 have HR0 := Aside0.mk hr0
 have HC0 := Aside0.mk hc0
 clear hr0 hc0
 have H : (if (l0.length : Int) = 512 then (if 148 ≤ 156 then (if 156 ≤ (l0.length : Int) then ((octal_Parse.f k ((l0.take 156).drop 148)).bind fun bt122 => (if bt122.2 = 0 then ((sum_Plain.f l0).bind fun t124 => (if bt122.1 = t124 then (some true) else ((sum_Signed.f l0).bind fun t125 => (some (bt122.1 == t125))))) else (some false))) else (none)) else (none)) else (some false)) = some r := h
 clear h
 by_cases c2 : (l0.length : Int) = 512
 ·rw [if_pos c2] at H
  have c2b0 : ((l0.length : Int) == 512) = true := beq_iff_eq.mpr c2
  have c2b1 : ((l0.length : Int) != 512) = false := bne_eq_false_iff_eq.mpr c2
  clear c2
  by_cases c3 : 148 ≤ 156
  ·rw [if_pos c3] at H
   have c3b0 := eq_true c3
   have c3b1 : decide (148 ≤ 156) = true := decide_eq_true c3
   clear c3
   by_cases c4 : 156 ≤ (l0.length : Int)
   ·rw [if_pos c4] at H
    have c4b0 := eq_true c4
    have c4b1 : decide (156 ≤ (l0.length : Int)) = true := decide_eq_true c4
    clear c4
    obtain ⟨y118, hy118⟩ : ∃ y_ : List Int, y_ = ((l0.take 156).drop 148) := ⟨_, rfl⟩
    replace H : ((octal_Parse.f k y118).bind fun bt122 => (if bt122.2 = 0 then ((sum_Plain.f l0).bind fun t124 => (if bt122.1 = t124 then (some true) else ((sum_Signed.f l0).bind fun t125 => (some (bt122.1 == t125))))) else (some false))) = some r := by first | (rw [hy118]; with_reducible exact H) | (have H2_ := (Option.bind_some _ _).symm.trans H; rw [hy118]; with_reducible exact H2_) | (have H2_ := (Option.bind_some _ _).symm.trans H; with_reducible exact H2_) | with_reducible exact H | (rw [hy118]; exact H) | exact H
    have Ny118 := Aside0.mk hy118
    clear hy118
    replace H := Option.bind_eq_some_iff.mp H
    obtain ⟨⟨t122, t123⟩, A50, H⟩ := H
    replace H : (if t123 = 0 then ((sum_Plain.f l0).bind fun t124 => (if t122 = t124 then (some true) else ((sum_Signed.f l0).bind fun t125 => (some (t122 == t125))))) else (some false)) = some r := H
    have A5 := Aside0.mk A50
    clear A50
    by_cases c6 : t123 = 0
    ·rw [if_pos c6] at H
     have c6b0 : (t123 == 0) = true := beq_iff_eq.mpr c6
     have c6b1 : (t123 != 0) = false := bne_eq_false_iff_eq.mpr c6
     clear c6
     replace H := Option.bind_eq_some_iff.mp H
     obtain ⟨t124, A70, H⟩ := H
     replace H : (if t122 = t124 then (some true) else ((sum_Signed.f l0).bind fun t125 => (some (t122 == t125)))) = some r := H
     have A7 := Aside0.mk A70
     clear A70
     by_cases c8 : t122 = t124
     ·rw [if_pos c8] at H
      have c8b0 : (t122 == t124) = true := beq_iff_eq.mpr c8
      have c8b1 : (t122 != t124) = false := bne_eq_false_iff_eq.mpr c8
      clear c8
      obtain rfl := Option.some.inj H
      have q9 : (156 : Int) ≤ ((l0.length : Int) : Int) := of_decide_eq_true (by first | (with_reducible assumption) | assumption)
      obtain ⟨i09, hi09, _, hsz9, _⟩ := info_parts info5
      have hroom9 : l0.length ≤ c0 := HC0.out
      have hC9 : Kd.C (Kd.int .u8) _ A0 l0.length l0 := HR0.out
      have ql9 : (148 : Int) ≤ (156 : Int) := (by omega)
      have hcut9 := cut_mid (P := Try.prog) 22 5 .i64 .i64 Try.underlying22 hi09 1 hsz9 A0 l0.length c0 148 156 (by omega) ql9 q9 hroom9
      have hr9 := Kd.C_mid (lo := (148 : Int).toNat) (hi := (156 : Int).toNat) (c := c0) hC9 (by omega) (by omega) hroom9
      obtain ⟨A9, hA9⟩ : ∃ A1, A1 = (if c0 = (148 : Int).toNat then A0 else (A0 : Option Addr).map (·.add ((148 : Int).toNat * 1))) := ⟨_, rfl⟩
      obtain ⟨c9, hc9⟩ : ∃ c1, c1 = c0 - (148 : Int).toNat := ⟨_, rfl⟩
      have hy9 : y118.length = (156 : Int).toNat - (148 : Int).toNat := (by rw [Ny118.out, List.length_drop, List.length_take] <;> omega)
      rw [show ((l0).take (156 : Int).toNat).drop (148 : Int).toNat = y118 from Ny118.out.symm] at hr9
      replace hr9 : Kd.C (Kd.int .u8) _ A9 y118.length y118 := (by rw [hA9]; exact hr9)
      rw [← hy9, ← hA9, ← hc9] at hcut9
      have HR121 := Aside0.mk hr9
      have HC121 := Aside0.mk (show y118.length ≤ c9 from by rw [hy9, hc9]; exact Nat.sub_le_sub_right (Nat.le_trans (by omega) hroom9) _)
      clear hr9 hC9 hroom9 hi09 hsz9 hc9
      have KY9 := Aside0.mk hy9
      have KA9 := Aside0.mk hA9
      clear hy9 hA9
      replace q9 := eq_true q9
      go_enter Try.func22, Try.ntmps22
      go_wp2_with (first | ((with_reducible refine gate_callee (f := 24) rfl ?_); refine goesL_ (some 11) rfl rfl Try.func24 (by kernel_rfl) rfl #[.slice A9 y118.length c9] rfl (by (try simp only [List.map_toArray, List.map_cons, List.map_nil]); first | done | rfl | (simp only [List.length_drop, List.length_take]; rfl)) ?_; (with_reducible refine (octal_Parse.calls k _ _ y118 t122 t123 _ ?side1 ?side2 A5.out).mono ?_); (case side1 => repeat (first | exact HR121.out | (with_reducible refine Kd.C_alloc ?_ _) | (with_reducible refine Kd.C_drewN ?_ _) | (with_reducible refine Kd.C_drew ?_))); (case side2 => exact HC121.out); rintro e w' ⟨rfl, ⟨nd, rfl⟩⟩; refine ⟨_, rfl, ?_⟩) | (go_at_call 32; (with_reducible refine (sum_Plain.calls _ _ l0 t124 _ ?side1 ?side2 A7.out).mono ?_); (case side1 => repeat (first | exact HR0.out | (with_reducible refine Kd.C_alloc ?_ _) | (with_reducible refine Kd.C_drewN ?_ _) | (with_reducible refine Kd.C_drew ?_))); (case side2 => exact HC0.out); rintro e w' ⟨rfl, ⟨nd, rfl⟩⟩))
      go_ret
      exact ⟨by first | rfl | (simp; done) | (simp [*]; done), by repeat (first | exact Drawn0.refl _ | apply Drawn0.step)⟩
     ·rw [if_neg c8] at H
      have c8b0 : (t122 == t124) = false := beq_eq_false_iff_ne.mpr c8
      have c8b1 : (t122 != t124) = true := bne_iff_ne.mpr c8
      replace H := Option.bind_eq_some_iff.mp H
      obtain ⟨t125, A100, H⟩ := H
      replace H : (some (t122 == t125)) = some r := H
      have A10 := Aside0.mk A100
      clear A100
      obtain rfl := Option.some.inj H
      have q11 : (156 : Int) ≤ ((l0.length : Int) : Int) := of_decide_eq_true (by first | (with_reducible assumption) | assumption)
      obtain ⟨i011, hi011, _, hsz11, _⟩ := info_parts info5
      have hroom11 : l0.length ≤ c0 := HC0.out
      have hC11 : Kd.C (Kd.int .u8) _ A0 l0.length l0 := HR0.out
      have ql11 : (148 : Int) ≤ (156 : Int) := (by omega)
      have hcut11 := cut_mid (P := Try.prog) 22 5 .i64 .i64 Try.underlying22 hi011 1 hsz11 A0 l0.length c0 148 156 (by omega) ql11 q11 hroom11
      have hr11 := Kd.C_mid (lo := (148 : Int).toNat) (hi := (156 : Int).toNat) (c := c0) hC11 (by omega) (by omega) hroom11
      obtain ⟨A11, hA11⟩ : ∃ A1, A1 = (if c0 = (148 : Int).toNat then A0 else (A0 : Option Addr).map (·.add ((148 : Int).toNat * 1))) := ⟨_, rfl⟩
      obtain ⟨c11, hc11⟩ : ∃ c1, c1 = c0 - (148 : Int).toNat := ⟨_, rfl⟩
      have hy11 : y118.length = (156 : Int).toNat - (148 : Int).toNat := (by rw [Ny118.out, List.length_drop, List.length_take] <;> omega)
      rw [show ((l0).take (156 : Int).toNat).drop (148 : Int).toNat = y118 from Ny118.out.symm] at hr11
      replace hr11 : Kd.C (Kd.int .u8) _ A11 y118.length y118 := (by rw [hA11]; exact hr11)
      rw [← hy11, ← hA11, ← hc11] at hcut11
      have HR121 := Aside0.mk hr11
      have HC121 := Aside0.mk (show y118.length ≤ c11 from by rw [hy11, hc11]; exact Nat.sub_le_sub_right (Nat.le_trans (by omega) hroom11) _)
      clear hr11 hC11 hroom11 hi011 hsz11 hc11
      have KY11 := Aside0.mk hy11
      have KA11 := Aside0.mk hA11
      clear hy11 hA11
      replace q11 := eq_true q11
      go_enter Try.func22, Try.ntmps22
      go_wp2_with (first | ((with_reducible refine gate_callee (f := 24) rfl ?_); refine goesL_ (some 11) rfl rfl Try.func24 (by kernel_rfl) rfl #[.slice A11 y118.length c11] rfl (by (try simp only [List.map_toArray, List.map_cons, List.map_nil]); first | done | rfl | (simp only [List.length_drop, List.length_take]; rfl)) ?_; (with_reducible refine (octal_Parse.calls k _ _ y118 t122 t123 _ ?side1 ?side2 A5.out).mono ?_); (case side1 => repeat (first | exact HR121.out | (with_reducible refine Kd.C_alloc ?_ _) | (with_reducible refine Kd.C_drewN ?_ _) | (with_reducible refine Kd.C_drew ?_))); (case side2 => exact HC121.out); rintro e w' ⟨rfl, ⟨nd, rfl⟩⟩; refine ⟨_, rfl, ?_⟩) | (go_at_call 32; (with_reducible refine (sum_Plain.calls _ _ l0 t124 _ ?side1 ?side2 A7.out).mono ?_); (case side1 => repeat (first | exact HR0.out | (with_reducible refine Kd.C_alloc ?_ _) | (with_reducible refine Kd.C_drewN ?_ _) | (with_reducible refine Kd.C_drew ?_))); (case side2 => exact HC0.out); rintro e w' ⟨rfl, ⟨nd, rfl⟩⟩) | (go_at_call 34; (with_reducible refine (sum_Signed.calls _ _ l0 t125 _ ?side1 ?side2 A10.out).mono ?_); (case side1 => repeat (first | exact HR0.out | (with_reducible refine Kd.C_alloc ?_ _) | (with_reducible refine Kd.C_drewN ?_ _) | (with_reducible refine Kd.C_drew ?_))); (case side2 => exact HC0.out); rintro e w' ⟨rfl, ⟨nd, rfl⟩⟩))
      go_ret
      exact ⟨by first | rfl | (simp; done) | (simp [*]; done), by repeat (first | exact Drawn0.refl _ | apply Drawn0.step)⟩
    ·rw [if_neg c6] at H
     have c6b0 : (t123 == 0) = false := beq_eq_false_iff_ne.mpr c6
     have c6b1 : (t123 != 0) = true := bne_iff_ne.mpr c6
     obtain rfl := Option.some.inj H
     have q12 : (156 : Int) ≤ ((l0.length : Int) : Int) := of_decide_eq_true (by first | (with_reducible assumption) | assumption)
     obtain ⟨i012, hi012, _, hsz12, _⟩ := info_parts info5
     have hroom12 : l0.length ≤ c0 := HC0.out
     have hC12 : Kd.C (Kd.int .u8) _ A0 l0.length l0 := HR0.out
     have ql12 : (148 : Int) ≤ (156 : Int) := (by omega)
     have hcut12 := cut_mid (P := Try.prog) 22 5 .i64 .i64 Try.underlying22 hi012 1 hsz12 A0 l0.length c0 148 156 (by omega) ql12 q12 hroom12
     have hr12 := Kd.C_mid (lo := (148 : Int).toNat) (hi := (156 : Int).toNat) (c := c0) hC12 (by omega) (by omega) hroom12
     obtain ⟨A12, hA12⟩ : ∃ A1, A1 = (if c0 = (148 : Int).toNat then A0 else (A0 : Option Addr).map (·.add ((148 : Int).toNat * 1))) := ⟨_, rfl⟩
     obtain ⟨c12, hc12⟩ : ∃ c1, c1 = c0 - (148 : Int).toNat := ⟨_, rfl⟩
     have hy12 : y118.length = (156 : Int).toNat - (148 : Int).toNat := (by rw [Ny118.out, List.length_drop, List.length_take] <;> omega)
     rw [show ((l0).take (156 : Int).toNat).drop (148 : Int).toNat = y118 from Ny118.out.symm] at hr12
     replace hr12 : Kd.C (Kd.int .u8) _ A12 y118.length y118 := (by rw [hA12]; exact hr12)
     rw [← hy12, ← hA12, ← hc12] at hcut12
     have HR121 := Aside0.mk hr12
     have HC121 := Aside0.mk (show y118.length ≤ c12 from by rw [hy12, hc12]; exact Nat.sub_le_sub_right (Nat.le_trans (by omega) hroom12) _)
     clear hr12 hC12 hroom12 hi012 hsz12 hc12
     have KY12 := Aside0.mk hy12
     have KA12 := Aside0.mk hA12
     clear hy12 hA12
     replace q12 := eq_true q12
     go_enter Try.func22, Try.ntmps22
     go_wp2_with (first | ((with_reducible refine gate_callee (f := 24) rfl ?_); refine goesL_ (some 11) rfl rfl Try.func24 (by kernel_rfl) rfl #[.slice A12 y118.length c12] rfl (by (try simp only [List.map_toArray, List.map_cons, List.map_nil]); first | done | rfl | (simp only [List.length_drop, List.length_take]; rfl)) ?_; (with_reducible refine (octal_Parse.calls k _ _ y118 t122 t123 _ ?side1 ?side2 A5.out).mono ?_); (case side1 => repeat (first | exact HR121.out | (with_reducible refine Kd.C_alloc ?_ _) | (with_reducible refine Kd.C_drewN ?_ _) | (with_reducible refine Kd.C_drew ?_))); (case side2 => exact HC121.out); rintro e w' ⟨rfl, ⟨nd, rfl⟩⟩; refine ⟨_, rfl, ?_⟩))
     go_ret
     exact ⟨by first | rfl | (simp; done) | (simp [*]; done), by repeat (first | exact Drawn0.refl _ | apply Drawn0.step)⟩
   ·rw [if_neg c4] at H
    exact absurd H (by simp)
  ·rw [if_neg c3] at H
   exact absurd H (by simp)
 ·rw [if_neg c2] at H
  have c2b0 : ((l0.length : Int) == 512) = false := beq_eq_false_iff_ne.mpr c2
  have c2b1 : ((l0.length : Int) != 512) = true := bne_iff_ne.mpr c2
  obtain rfl := Option.some.inj H
  go_enter Try.func22, Try.ntmps22
  go_wp2
  go_ret
  exact ⟨by first | rfl | (simp; done) | (simp [*]; done), by repeat (first | exact Drawn0.refl _ | apply Drawn0.step)⟩

end Go.Proofs.Ytchldbhnohicoaa.XA
