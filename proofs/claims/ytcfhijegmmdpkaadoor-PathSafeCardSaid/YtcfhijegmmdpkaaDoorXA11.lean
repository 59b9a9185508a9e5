-- Written by a program of this session (wip/tools/xprint.py) out of the translation's print. Lean checks it.
import Derived.Test.YtcfhijegmmdpkaaDoorXA0
import Derived.Test.YtcfhijegmmdpkaaDoorESound
import Derived.Test.YtcfhijegmmdpkaaDoorXA1
import Derived.Test.YtcfhijegmmdpkaaDoorXA3
namespace Go.Proofs.YtcfhijegmmdpkaaDoor.XA
open Go.RowKit Go.Proofs.YtcfhijegmmdpkaaDoorW.PrintWords Go.Proofs.YtcfhijegmmdpkaaDoorW.PrintLast Go.Proofs.YtcfhijegmmdpkaaDoorW.PrintMore
attribute [local go_sem] max2_int min2_int max_two min_two max_three min_three max_four min_four   -- for this text's walks alone
set_option linter.unusedVariables false
set_option linter.unusedSimpArgs false

/-! ### pannierlaw10_PathSafe: function 5 -/
mutual
def pannierlaw10_PathSafe.l0 : Nat → List ByteArray → Int → Int → Option (Bool)
 | 0, _, _, _ => none
 | k + 1, x23, x24, x25 => if x25 < x24 then (if 0 ≤ x25 then (if x25 < (x23.length : Int) then (if (rdOf ByteArray.empty x23 x25).toList = ([] : List UInt8) then (pannierlaw10_PathSafe.j1 k (rdOf ByteArray.empty x23 x25) x23 x24 x25 true) else (if (rdOf ByteArray.empty x23 x25).toList = ([46] : List UInt8) then (pannierlaw10_PathSafe.j1 k (rdOf ByteArray.empty x23 x25) x23 x24 x25 true) else (if (rdOf ByteArray.empty x23 x25).toList = ([46, 46] : List UInt8) then (pannierlaw10_PathSafe.j1 k (rdOf ByteArray.empty x23 x25) x23 x24 x25 true) else (pannierlaw10_PathSafe.j1 k (rdOf ByteArray.empty x23 x25) x23 x24 x25 (decide (((rdOf ByteArray.empty x23 x25).size : Int) > 255)))))) else (none)) else (none)) else (some true)
def pannierlaw10_PathSafe.j1 : Nat → ByteArray → List ByteArray → Int → Int → Bool → Option (Bool)
 | 0, _, _, _, _, _ => none
 | k + 1, x6, x23, x24, x25, x43 => if x43 = true then (some false) else (pannierlaw10_PathSafe.l1 k x6 x23 x24 x25 (x6.size : Int) 0)
def pannierlaw10_PathSafe.l1 : Nat → ByteArray → List ByteArray → Int → Int → Int → Int → Option (Bool)
 | 0, _, _, _, _, _, _ => none
 | k + 1, x6, x23, x24, x25, x45, x46 => if x46 < x45 then (if 0 ≤ x46 then (if x46 < (x6.size : Int) then (if (bt x6 x46) = 47 then (some false) else (if (bt x6 x46) = 0 then (some false) else (pannierlaw10_PathSafe.l1 k x6 x23 x24 x25 x45 (wrap64 (x46 + 1))))) else (none)) else (none)) else (pannierlaw10_PathSafe.l0 k x23 x24 (wrap64 (x25 + 1)))
end
def pannierlaw10_PathSafe.f (k : Nat) (a0 : ByteArray) : Option (Bool) := (pannierlaw10_cleans.f k).bind fun t201 => (if t201 = true then (if (a0.size : Int) > 5000 then (some true) else ((path_Clean.f k a0).bind fun bt202 => (if bt202.2 = 0 then (pannierlaw10_PathSafe.l0 k bt202.1 (bt202.1.length : Int) 0) else (some ((bt202.1.length : Int) == 0))))) else (some false))
theorem pannierlaw10_PathSafe.mono_l : ∀ k, (∀ y0 y1 y2, LeO (pannierlaw10_PathSafe.l0 k y0 y1 y2) (pannierlaw10_PathSafe.l0 (k + 1) y0 y1 y2)) ∧ (∀ y0 y1 y2 y3 y4, LeO (pannierlaw10_PathSafe.j1 k y0 y1 y2 y3 y4) (pannierlaw10_PathSafe.j1 (k + 1) y0 y1 y2 y3 y4)) ∧ (∀ y0 y1 y2 y3 y4 y5, LeO (pannierlaw10_PathSafe.l1 k y0 y1 y2 y3 y4 y5) (pannierlaw10_PathSafe.l1 (k + 1) y0 y1 y2 y3 y4 y5))
 | 0 => ⟨fun _ _ _ r h => by simp [pannierlaw10_PathSafe.l0] at h, fun _ _ _ _ _ r h => by simp [pannierlaw10_PathSafe.j1] at h, fun _ _ _ _ _ _ r h => by simp [pannierlaw10_PathSafe.l1] at h⟩
 | k + 1 => by
  obtain ⟨ih0, ih1, ih2⟩ := pannierlaw10_PathSafe.mono_l k
  refine ⟨?_, ?_, ?_⟩
  ·intro y0 y1 y2
   unfold pannierlaw10_PathSafe.l0
   repeat' first
   | (with_reducible exact ih0 _ _ _)
   | (with_reducible exact ih1 _ _ _ _ _)
   | (with_reducible exact ih2 _ _ _ _ _ _)
   | (with_reducible exact pannierlaw10_cleans.mono _)
   | (with_reducible exact path_Clean.mono _ _)
   | (with_reducible exact LeO.refl _)
   | (with_reducible exact LeO.none _)
   | (with_reducible refine LeO.ite ?_ ?_)
   | (with_reducible refine LeO.bind ?_ (fun _ => ?_))
   | exact ih0 _ _ _
   | exact ih1 _ _ _ _ _
   | exact ih2 _ _ _ _ _ _
   | exact pannierlaw10_cleans.mono _
   | exact path_Clean.mono _ _
   | exact LeO.none _
   | refine LeO.ite ?_ ?_
   | refine LeO.bind ?_ (fun _ => ?_)
  ·intro y0 y1 y2 y3 y4
   unfold pannierlaw10_PathSafe.j1
   repeat' first
   | (with_reducible exact ih0 _ _ _)
   | (with_reducible exact ih1 _ _ _ _ _)
   | (with_reducible exact ih2 _ _ _ _ _ _)
   | (with_reducible exact pannierlaw10_cleans.mono _)
   | (with_reducible exact path_Clean.mono _ _)
   | (with_reducible exact LeO.refl _)
   | (with_reducible exact LeO.none _)
   | (with_reducible refine LeO.ite ?_ ?_)
   | (with_reducible refine LeO.bind ?_ (fun _ => ?_))
   | exact ih0 _ _ _
   | exact ih1 _ _ _ _ _
   | exact ih2 _ _ _ _ _ _
   | exact pannierlaw10_cleans.mono _
   | exact path_Clean.mono _ _
   | exact LeO.none _
   | refine LeO.ite ?_ ?_
   | refine LeO.bind ?_ (fun _ => ?_)
  ·intro y0 y1 y2 y3 y4 y5
   unfold pannierlaw10_PathSafe.l1
   repeat' first
   | (with_reducible exact ih0 _ _ _)
   | (with_reducible exact ih1 _ _ _ _ _)
   | (with_reducible exact ih2 _ _ _ _ _ _)
   | (with_reducible exact pannierlaw10_cleans.mono _)
   | (with_reducible exact path_Clean.mono _ _)
   | (with_reducible exact LeO.refl _)
   | (with_reducible exact LeO.none _)
   | (with_reducible refine LeO.ite ?_ ?_)
   | (with_reducible refine LeO.bind ?_ (fun _ => ?_))
   | exact ih0 _ _ _
   | exact ih1 _ _ _ _ _
   | exact ih2 _ _ _ _ _ _
   | exact pannierlaw10_cleans.mono _
   | exact path_Clean.mono _ _
   | exact LeO.none _
   | refine LeO.ite ?_ ?_
   | refine LeO.bind ?_ (fun _ => ?_)
theorem pannierlaw10_PathSafe.mono : ∀ a0 k, LeO (pannierlaw10_PathSafe.f k a0) (pannierlaw10_PathSafe.f (k + 1) a0) := by
 intro a0 k
 obtain ⟨ih0, ih1, ih2⟩ := pannierlaw10_PathSafe.mono_l k
 unfold pannierlaw10_PathSafe.f
 repeat' first
   | (with_reducible exact ih0 _ _ _)
   | (with_reducible exact ih1 _ _ _ _ _)
   | (with_reducible exact ih2 _ _ _ _ _ _)
   | (with_reducible exact pannierlaw10_cleans.mono _)
   | (with_reducible exact path_Clean.mono _ _)
   | (with_reducible exact LeO.refl _)
   | (with_reducible exact LeO.none _)
   | (with_reducible refine LeO.ite ?_ ?_)
   | (with_reducible refine LeO.bind ?_ (fun _ => ?_))
   | exact ih0 _ _ _
   | exact ih1 _ _ _ _ _
   | exact ih2 _ _ _ _ _ _
   | exact pannierlaw10_cleans.mono _
   | exact path_Clean.mono _ _
   | exact LeO.none _
   | refine LeO.ite ?_ ?_
   | refine LeO.bind ?_ (fun _ => ?_)
set_option maxHeartbeats 8000000 in
set_option maxRecDepth 100000 in
theorem pannierlaw10_PathSafe.calls (k : Nat) (a0 : ByteArray) (r : Bool) (w : World) (h : pannierlaw10_PathSafe.f k a0 = some r) (hGG0 : GG w) :
  Calls Tryd.prog 5 #[.string a0] w fun e w' => e = .returned (.bool r) ∧ Below w.heap.size w w' := by
 have HGG := Aside0.mk hGG0
 clear hGG0
 have HB := Aside0.mk (Below.refl w.heap.size w)
 have H : ((pannierlaw10_cleans.f k).bind fun t201 => (if t201 = true then (if (a0.size : Int) > 5000 then (some true) else ((path_Clean.f k a0).bind fun bt202 => (if bt202.2 = 0 then (pannierlaw10_PathSafe.l0 k bt202.1 (bt202.1.length : Int) 0) else (some ((bt202.1.length : Int) == 0))))) else (some false))) = some r := h
 clear h
 replace H := Option.bind_eq_some_iff.mp H
 obtain ⟨t201, A20, H⟩ := H
 replace H : (if t201 = true then (if (a0.size : Int) > 5000 then (some true) else ((path_Clean.f k a0).bind fun bt202 => (if bt202.2 = 0 then (pannierlaw10_PathSafe.l0 k bt202.1 (bt202.1.length : Int) 0) else (some ((bt202.1.length : Int) == 0))))) else (some false)) = some r := H
 have A2 := Aside0.mk A20
 clear A20
 by_cases c3 : t201 = true
 ·subst c3
  have H1 : (if (a0.size : Int) > 5000 then (some true) else ((path_Clean.f k a0).bind fun bt202 => (if bt202.2 = 0 then (pannierlaw10_PathSafe.l0 k bt202.1 (bt202.1.length : Int) 0) else (some ((bt202.1.length : Int) == 0))))) = some r := by rw [if_pos rfl] at H; exact H
  clear H
  have H := H1
  clear H1
  by_cases c4 : (a0.size : Int) > 5000
  ·rw [if_pos c4] at H
   have c4b0 : decide (5000 < (a0.size : Int)) = true := decide_eq_true c4
   have c4b1 : decide (5000 < a0.size) = true := decide_eq_true (by omega)
   clear c4
   obtain rfl := Option.some.inj H
   go_enter Tryd.func5, Tryd.ntmps5
   go_wp2_with (first | ((with_reducible refine gate_callee (f := 16) rfl ?_); refine goesL_ (some 8) rfl rfl Tryd.func16 (by kernel_rfl) rfl #[] rfl (by (try simp only [List.map_toArray, List.map_cons, List.map_nil]); first | done | rfl | (simp only [List.length_drop, List.length_take]; rfl)) ?_; (with_reducible refine (pannierlaw10_cleans.calls k  true _ A2.out ?hGG).mono ?_); (case hGG => exact GG_below HGG.out (by repeat (first | (with_reducible first | exact HB.out | apply below_alloc | apply pw_below_drewN | apply below_drew1) | exact HB.out))); rintro e w5 ⟨rfl, hb⟩; refine ⟨_, rfl, ?_⟩; have n0_ := Aside0.mk (below_step (by repeat (first | (with_reducible first | exact HB.out | apply below_alloc | apply pw_below_drewN | apply below_drew1) | exact HB.out)) hb); clear HB; have HB := n0_; clear n0_; (try clear hb); (try clear hb2); (try clear hk); (try clear hi)))
   all_goals (go_ret; exact ⟨by first | rfl | (simp [errW_none, errW_some] <;> rfl) | (simp [*, errW_none, errW_some] <;> rfl), by repeat (first | (with_reducible first | exact HB.out | apply below_alloc | apply pw_below_drewN | apply below_drew1) | exact HB.out)⟩)
  ·rw [if_neg c4] at H
   have c4b0 : decide (5000 < (a0.size : Int)) = false := decide_eq_false c4
   have c4b1 : decide (5000 < a0.size) = false := decide_eq_false (by omega)
   clear c4
   replace H := Option.bind_eq_some_iff.mp H
   obtain ⟨⟨t202, t203⟩, A60, H⟩ := H
   replace H : (if t203 = 0 then (pannierlaw10_PathSafe.l0 k t202 (t202.length : Int) 0) else (some ((t202.length : Int) == 0))) = some r := H
   have A6 := Aside0.mk A60
   clear A60
   by_cases c7 : t203 = 0
   ·rw [if_pos c7] at H
    have c7b0 : (t203 == 0) = true := beq_iff_eq.mpr c7
    have c7b1 : (t203 != 0) = false := bne_eq_false_iff_eq.mpr c7
    clear c7
    have H' := Aside0.mk H
    clear H
    go_enter Tryd.func5, Tryd.ntmps5
    go_wp2_with (first | ((with_reducible refine gate_callee (f := 16) rfl ?_); refine goesL_ (some 8) rfl rfl Tryd.func16 (by kernel_rfl) rfl #[] rfl (by (try simp only [List.map_toArray, List.map_cons, List.map_nil]); first | done | rfl | (simp only [List.length_drop, List.length_take]; rfl)) ?_; (with_reducible refine (pannierlaw10_cleans.calls k  true _ A2.out ?hGG).mono ?_); (case hGG => exact GG_below HGG.out (by repeat (first | (with_reducible first | exact HB.out | apply below_alloc | apply pw_below_drewN | apply below_drew1) | exact HB.out))); rintro e w8 ⟨rfl, hb⟩; refine ⟨_, rfl, ?_⟩; have n0_ := Aside0.mk (below_step (by repeat (first | (with_reducible first | exact HB.out | apply below_alloc | apply pw_below_drewN | apply below_drew1) | exact HB.out)) hb); clear HB; have HB := n0_; clear n0_; (try clear hb); (try clear hb2); (try clear hk); (try clear hi)) | ((with_reducible refine gate_callee (f := 17) rfl ?_); refine goesL_ (some 15) rfl rfl Tryd.func17 (by kernel_rfl) rfl #[.string a0] rfl (by (try simp only [List.map_toArray, List.map_cons, List.map_nil]); first | done | rfl | (simp only [List.length_drop, List.length_take]; rfl)) ?_; (with_reducible refine (path_Clean.calls k a0 t202 t203 _ A6.out ?hGG).mono ?_); (case hGG => exact GG_below HGG.out (by repeat (first | (with_reducible first | exact HB.out | apply below_alloc | apply pw_below_drewN | apply below_drew1) | exact HB.out))); rintro e w9 ⟨v204, rfl, ho0, hb⟩; refine ⟨_, rfl, ?_⟩; have n0_ := Aside0.mk (Kd.R_lower ho0 (below_size (by repeat (first | (with_reducible first | exact HB.out | apply below_alloc | apply pw_below_drewN | apply below_drew1) | exact HB.out)))); have n1_ := Aside0.mk (below_step (by repeat (first | (with_reducible first | exact HB.out | apply below_alloc | apply pw_below_drewN | apply below_drew1) | exact HB.out)) hb); clear HB; have HO205 := n0_; have HB := n1_; clear n0_ n1_; (try clear hb); (try clear hb2); (try clear hk); (try clear hi); (try clear ho0); obtain ⟨Ao10, co10, eo10⟩ := Kd.R_slice HO205.out; subst eo10))
    go_loopg [25] k (fun kq v25 w' => ∃ (x25_1 : Int), v25 = .int .i64 x25_1 ∧ Aside0 (pannierlaw10_PathSafe.l0 kq t202 (t202.length : Int) x25_1 = some r) ∧ Aside0 (kq ≤ k) ∧ Aside0 (Kd.R Kd.string 9 w' w.heap.size (fun _ => True) (.slice Ao10 t202.length co10) t202) ∧ Aside0 (Below w.heap.size w w'))
    case atStart => exact ⟨(0), (by first | rfl | (simp; done) | (simp [*]; done)), H', ⟨Nat.le_refl _⟩, ⟨by (with_reducible repeat (first | apply Kd.R_alloc | apply Kd.R_drewN | apply Kd.R_drew)); exact HO205.out⟩, ⟨by repeat (first | (with_reducible first | exact HB.out | apply below_alloc | apply pw_below_drewN | apply below_drew1) | exact HB.out)⟩⟩
    case round =>
     clear H'
     try clear c1
     try clear p2
     try clear c3
     try clear c4
     try clear c4b0
     try clear c4b1
     try clear c5
     try clear c7
     try clear c7b0
     try clear c7b1
     obtain ⟨x25_1, rfl, HA, HK1, HO_23, HB⟩ := hrel
     cases gk with
     | zero => exact absurd HA.out (by simp [pannierlaw10_PathSafe.l0])
     | succ k1 =>
      have H := HA.out
      clear HA
      simp only [pannierlaw10_PathSafe.l0] at H
      by_cases c11 : x25_1 < (t202.length : Int)
      ·rw [if_pos c11] at H
       have c11b0 : decide (x25_1 < (t202.length : Int)) = true := decide_eq_true c11
       clear c11
       by_cases c12 : 0 ≤ x25_1
       ·rw [if_pos c12] at H
        have c12b0 : decide (0 ≤ x25_1) = true := decide_eq_true c12
        clear c12
        by_cases c13 : x25_1 < (t202.length : Int)
        ·rw [if_pos c13] at H
         have c13b0 : decide (x25_1 < (t202.length : Int)) = true := decide_eq_true c13
         clear c13
         have HC14 := Aside0.mk H
         clear H
         have p206 : 0 ≤ (x25_1 : Int) := of_decide_eq_true (by first | (with_reducible assumption) | assumption)
         have q206 : x25_1 < (t202.length : Int) := of_decide_eq_true (by first | (with_reducible assumption) | assumption)
         obtain ⟨ad206, e206, hx206_0⟩ := Kd.at_string (Kd.R_reads' HO_23.out).2.2 x25_1 p206 q206
         cases e206
         replace p206 := eq_true p206
         replace q206 := eq_true q206
         go_upto_region 11 with (fail)
         go_cut [43] (fun v43 wc => ∃ (kq : Nat) (x43_13 : Bool), v43 = .bool x43_13 ∧ Aside0 (pannierlaw10_PathSafe.j1 kq (rdOf ByteArray.empty t202 x25_1) t202 (t202.length : Int) x25_1 x43_13 = some r) ∧ Aside0 (kq ≤ k1) ∧ Aside0 (Kd.R Kd.string 9 wc w.heap.size (fun _ => True) (.slice (some ad206) t202.length co10) t202) ∧ Aside0 (Below w.heap.size w wc))
         case first =>
          have H := HC14.out
          clear HC14
          by_cases c15 : (rdOf ByteArray.empty t202 x25_1).toList = ([] : List UInt8)
          ·rw [if_pos c15] at H
           have c15b0 : ((rdOf ByteArray.empty t202 x25_1).toList == ([] : List UInt8)) = true := beq_iff_eq.mpr c15
           have c15b2 : ((rdOf ByteArray.empty t202 x25_1).toList).isEmpty = true := List.isEmpty_iff.mpr c15
           have c15b1 : ((rdOf ByteArray.empty t202 x25_1).toList != ([] : List UInt8)) = false := bne_eq_false_iff_eq.mpr c15
           clear c15
           (first | rw [c15b0] | (simp only [i64_w, i32_w]; rw [c15b0]) | skip)
           have H' := Aside0.mk H
           clear H
           go_wp2
           all_goals (try (exfalso; first | (rename_i he_; rw [c15b2] at he_; cases he_; done) | (rename_i he_ _; rw [c15b2] at he_; cases he_; done) | (rename_i he_ _ _; rw [c15b2] at he_; cases he_; done) | (rename_i he_ _ _ _; rw [c15b2] at he_; cases he_; done) | (rename_i he_ _ _ _ _; rw [c15b2] at he_; cases he_; done) | (rename_i he_ _ _ _ _ _; rw [c15b2] at he_; cases he_; done) | (rename_i he_ _ _ _ _ _ _; rw [c15b2] at he_; cases he_; done)))
           go_meet
           case rel => exact ⟨_, (true), (by first | rfl | (simp; done) | (simp [*]; done)), H', ⟨by have := HK1.out; first | omega | exact Nat.le_refl _⟩, ⟨by (with_reducible repeat (first | apply Kd.R_alloc | apply Kd.R_drewN | apply Kd.R_drew)); first | exact HO_23.out | exact Kd.R_mono HO_23.out (fun _ hk_ => by have h_ : ∀ (A : Option Addr) (n c : Nat), (Value.slice A n c).ownBlock = A.map (·.block) := fun A _ _ => (by cases A <;> rfl); simpa only [h_] using hk_)⟩, ⟨by repeat (first | (with_reducible first | exact HB.out | apply below_alloc | apply pw_below_drewN | apply below_drew1) | exact HB.out)⟩⟩
          ·rw [if_neg c15] at H
           have c15b0 : ((rdOf ByteArray.empty t202 x25_1).toList == ([] : List UInt8)) = false := beq_eq_false_iff_ne.mpr c15
           have c15b2 : ((rdOf ByteArray.empty t202 x25_1).toList).isEmpty = false := List.isEmpty_eq_false_iff.mpr c15
           have c15b1 : ((rdOf ByteArray.empty t202 x25_1).toList != ([] : List UInt8)) = true := bne_iff_ne.mpr c15
           (first | rw [c15b0] | (simp only [i64_w, i32_w]; rw [c15b0]) | skip)
           by_cases c16 : (rdOf ByteArray.empty t202 x25_1).toList = ([46] : List UInt8)
           ·rw [if_pos c16] at H
            have c16b0 : ((rdOf ByteArray.empty t202 x25_1).toList == ([46] : List UInt8)) = true := beq_iff_eq.mpr c16
            have c16b1 : ((rdOf ByteArray.empty t202 x25_1).toList != ([46] : List UInt8)) = false := bne_eq_false_iff_eq.mpr c16
            clear c16
            have H' := Aside0.mk H
            clear H
            go_wp2
            go_meet
            case rel => exact ⟨_, (true), (by first | rfl | (simp; done) | (simp [*]; done)), H', ⟨by have := HK1.out; first | omega | exact Nat.le_refl _⟩, ⟨by (with_reducible repeat (first | apply Kd.R_alloc | apply Kd.R_drewN | apply Kd.R_drew)); first | exact HO_23.out | exact Kd.R_mono HO_23.out (fun _ hk_ => by have h_ : ∀ (A : Option Addr) (n c : Nat), (Value.slice A n c).ownBlock = A.map (·.block) := fun A _ _ => (by cases A <;> rfl); simpa only [h_] using hk_)⟩, ⟨by repeat (first | (with_reducible first | exact HB.out | apply below_alloc | apply pw_below_drewN | apply below_drew1) | exact HB.out)⟩⟩
           ·rw [if_neg c16] at H
            have c16b0 : ((rdOf ByteArray.empty t202 x25_1).toList == ([46] : List UInt8)) = false := beq_eq_false_iff_ne.mpr c16
            have c16b1 : ((rdOf ByteArray.empty t202 x25_1).toList != ([46] : List UInt8)) = true := bne_iff_ne.mpr c16
            by_cases c17 : (rdOf ByteArray.empty t202 x25_1).toList = ([46, 46] : List UInt8)
            ·rw [if_pos c17] at H
             have c17b0 : ((rdOf ByteArray.empty t202 x25_1).toList == ([46, 46] : List UInt8)) = true := beq_iff_eq.mpr c17
             have c17b1 : ((rdOf ByteArray.empty t202 x25_1).toList != ([46, 46] : List UInt8)) = false := bne_eq_false_iff_eq.mpr c17
             clear c17
             have H' := Aside0.mk H
             clear H
             go_wp2
             go_meet
             case rel => exact ⟨_, (true), (by first | rfl | (simp; done) | (simp [*]; done)), H', ⟨by have := HK1.out; first | omega | exact Nat.le_refl _⟩, ⟨by (with_reducible repeat (first | apply Kd.R_alloc | apply Kd.R_drewN | apply Kd.R_drew)); first | exact HO_23.out | exact Kd.R_mono HO_23.out (fun _ hk_ => by have h_ : ∀ (A : Option Addr) (n c : Nat), (Value.slice A n c).ownBlock = A.map (·.block) := fun A _ _ => (by cases A <;> rfl); simpa only [h_] using hk_)⟩, ⟨by repeat (first | (with_reducible first | exact HB.out | apply below_alloc | apply pw_below_drewN | apply below_drew1) | exact HB.out)⟩⟩
            ·rw [if_neg c17] at H
             have c17b0 : ((rdOf ByteArray.empty t202 x25_1).toList == ([46, 46] : List UInt8)) = false := beq_eq_false_iff_ne.mpr c17
             have c17b1 : ((rdOf ByteArray.empty t202 x25_1).toList != ([46, 46] : List UInt8)) = true := bne_iff_ne.mpr c17
             have H' := Aside0.mk H
             clear H
             go_wp2
             go_meet
             case rel => exact ⟨_, (decide (((rdOf ByteArray.empty t202 x25_1).size : Int) > 255)), (by first | rfl | (simp; done) | (simp [*]; done)), H', ⟨by have := HK1.out; first | omega | exact Nat.le_refl _⟩, ⟨by (with_reducible repeat (first | apply Kd.R_alloc | apply Kd.R_drewN | apply Kd.R_drew)); first | exact HO_23.out | exact Kd.R_mono HO_23.out (fun _ hk_ => by have h_ : ∀ (A : Option Addr) (n c : Nat), (Value.slice A n c).ownBlock = A.map (·.block) := fun A _ _ => (by cases A <;> rfl); simpa only [h_] using hk_)⟩, ⟨by repeat (first | (with_reducible first | exact HB.out | apply below_alloc | apply pw_below_drewN | apply below_drew1) | exact HB.out)⟩⟩
         case rest =>
          clear HC14
          try clear c1
          try clear p2
          try clear q2
          try clear hx2
          try clear c3
          try clear c4
          try clear c4b0
          try clear c4b1
          try clear c5
          try clear c7
          try clear c7b0
          try clear c7b1
          try clear c11
          try clear c11b0
          try clear c12
          try clear c12b0
          try clear c13
          try clear c13b0
          try clear c15
          try clear c15b0
          try clear c15b1
          try clear c16
          try clear c16b0
          try clear c16b1
          try clear c17
          try clear c17b0
          try clear c17b1
          try clear hx206_0
          try clear p2
          try clear p206
          try clear q206
          obtain ⟨kq, x43_13, rfl, HA, HJ13, HO_23, HB⟩ := hcut
          cases kq with
          | zero => exact absurd HA.out (by simp [pannierlaw10_PathSafe.j1])
          | succ kj13 =>
           have H := HA.out
           clear HA
           simp only [pannierlaw10_PathSafe.j1] at H
           by_cases c18 : x43_13 = true
           ·subst c18
            have H1 : (some false) = some r := by rw [if_pos rfl] at H; exact H
            clear H
            have H := H1
            clear H1
            obtain rfl := Option.some.inj H
            go_wp2
            all_goals (go_ret; exact ⟨by first | rfl | (simp [errW_none, errW_some] <;> rfl) | (simp [*, errW_none, errW_some] <;> rfl), by repeat (first | (with_reducible first | exact HB.out | apply below_alloc | apply pw_below_drewN | apply below_drew1) | exact HB.out)⟩)
           ·replace c18 := Bool.eq_false_iff.mpr c18
            subst c18
            have H1 : (pannierlaw10_PathSafe.l1 kj13 (rdOf ByteArray.empty t202 x25_1) t202 (t202.length : Int) x25_1 ((rdOf ByteArray.empty t202 x25_1).size : Int) 0) = some r := by rw [if_neg (show ¬ (false = true) by decide)] at H; exact H
            clear H
            have H := H1
            clear H1
            have H' := Aside0.mk H
            clear H
            go_wp2
            go_loopg [46] kj13 (fun kq v46 w' => ∃ (x46_3 : Int), v46 = .int .i64 x46_3 ∧ Aside0 (pannierlaw10_PathSafe.l1 kq (rdOf ByteArray.empty t202 x25_1) t202 (t202.length : Int) x25_1 ((rdOf ByteArray.empty t202 x25_1).size : Int) x46_3 = some r) ∧ Aside0 (kq ≤ kj13) ∧ Aside0 (Kd.R Kd.string 9 w' w.heap.size (fun _ => True) (.slice (some ad206) t202.length co10) t202) ∧ Aside0 (Below w.heap.size w w'))
            case atStart => exact ⟨(0), (by first | rfl | (simp; done) | (simp [*]; done)), H', ⟨Nat.le_refl _⟩, ⟨by (with_reducible repeat (first | apply Kd.R_alloc | apply Kd.R_drewN | apply Kd.R_drew)); exact HO_23.out⟩, ⟨by repeat (first | (with_reducible first | exact HB.out | apply below_alloc | apply pw_below_drewN | apply below_drew1) | exact HB.out)⟩⟩
            case round =>
             clear H'
             try clear c1
             try clear p2
             try clear q2
             try clear hx2
             try clear c3
             try clear c4
             try clear c4b0
             try clear c4b1
             try clear c5
             try clear c7
             try clear c7b0
             try clear c7b1
             try clear c11
             try clear c11b0
             try clear c12
             try clear c12b0
             try clear c13
             try clear c13b0
             try clear c15
             try clear c15b0
             try clear c15b1
             try clear c16
             try clear c16b0
             try clear c16b1
             try clear c17
             try clear c17b0
             try clear c17b1
             try clear c18
             try clear hx206_0
             try clear p2
             try clear p206
             try clear q2
             try clear q206
             obtain ⟨x46_3, rfl, HA, HK3, HO_23, HB⟩ := hrel
             cases gk with
             | zero => exact absurd HA.out (by simp [pannierlaw10_PathSafe.l1])
             | succ k3 =>
              have H := HA.out
              clear HA
              simp only [pannierlaw10_PathSafe.l1] at H
              by_cases c19 : x46_3 < ((rdOf ByteArray.empty t202 x25_1).size : Int)
              ·rw [if_pos c19] at H
               have c19b0 : decide (x46_3 < ((rdOf ByteArray.empty t202 x25_1).size : Int)) = true := decide_eq_true c19
               clear c19
               by_cases c20 : 0 ≤ x46_3
               ·rw [if_pos c20] at H
                have c20b0 : decide (0 ≤ x46_3) = true := decide_eq_true c20
                clear c20
                by_cases c21 : x46_3 < ((rdOf ByteArray.empty t202 x25_1).size : Int)
                ·rw [if_pos c21] at H
                 have c21b0 : decide (x46_3 < ((rdOf ByteArray.empty t202 x25_1).size : Int)) = true := decide_eq_true c21
                 clear c21
                 by_cases c23 : (bt (rdOf ByteArray.empty t202 x25_1) x46_3) = 47
                 ·rw [if_pos c23] at H
                  have c23b0 : ((bt (rdOf ByteArray.empty t202 x25_1) x46_3) == 47) = true := beq_iff_eq.mpr c23
                  have c23b1 : ((bt (rdOf ByteArray.empty t202 x25_1) x46_3) != 47) = false := bne_eq_false_iff_eq.mpr c23
                  clear c23
                  obtain rfl := Option.some.inj H
                  have p22 : 0 ≤ (x46_3 : Int) := of_decide_eq_true (by first | (with_reducible assumption) | assumption)
                  have q22 : x46_3 < ((rdOf ByteArray.empty t202 x25_1).size : Int) := of_decide_eq_true (by first | (with_reducible assumption) | assumption)
                  have hx22 := bt_at (rdOf ByteArray.empty t202 x25_1) x46_3
                  replace p22 := eq_true p22
                  replace q22 := eq_true q22
                  go_wp2
                  all_goals (go_ret; exact ⟨by first | rfl | (simp [errW_none, errW_some] <;> rfl) | (simp [*, errW_none, errW_some] <;> rfl), by repeat (first | (with_reducible first | exact HB.out | apply below_alloc | apply pw_below_drewN | apply below_drew1) | exact HB.out)⟩)
                 ·rw [if_neg c23] at H
                  have c23b0 : ((bt (rdOf ByteArray.empty t202 x25_1) x46_3) == 47) = false := beq_eq_false_iff_ne.mpr c23
                  have c23b1 : ((bt (rdOf ByteArray.empty t202 x25_1) x46_3) != 47) = true := bne_iff_ne.mpr c23
                  by_cases c25 : (bt (rdOf ByteArray.empty t202 x25_1) x46_3) = 0
                  ·rw [if_pos c25] at H
                   have c25b0 : ((bt (rdOf ByteArray.empty t202 x25_1) x46_3) == 0) = true := beq_iff_eq.mpr c25
                   have c25b1 : ((bt (rdOf ByteArray.empty t202 x25_1) x46_3) != 0) = false := bne_eq_false_iff_eq.mpr c25
                   clear c25
                   obtain rfl := Option.some.inj H
                   have p22 : 0 ≤ (x46_3 : Int) := of_decide_eq_true (by first | (with_reducible assumption) | assumption)
                   have q22 : x46_3 < ((rdOf ByteArray.empty t202 x25_1).size : Int) := of_decide_eq_true (by first | (with_reducible assumption) | assumption)
                   have hx22 := bt_at (rdOf ByteArray.empty t202 x25_1) x46_3
                   replace p22 := eq_true p22
                   replace q22 := eq_true q22
                   have p24 : 0 ≤ (x46_3 : Int) := of_decide_eq_true (by first | (with_reducible assumption) | assumption)
                   have q24 : x46_3 < ((rdOf ByteArray.empty t202 x25_1).size : Int) := of_decide_eq_true (by first | (with_reducible assumption) | assumption)
                   have hx24 := bt_at (rdOf ByteArray.empty t202 x25_1) x46_3
                   replace p24 := eq_true p24
                   replace q24 := eq_true q24
                   go_wp2
                   all_goals (go_ret; exact ⟨by first | rfl | (simp [errW_none, errW_some] <;> rfl) | (simp [*, errW_none, errW_some] <;> rfl), by repeat (first | (with_reducible first | exact HB.out | apply below_alloc | apply pw_below_drewN | apply below_drew1) | exact HB.out)⟩)
                  ·rw [if_neg c25] at H
                   have c25b0 : ((bt (rdOf ByteArray.empty t202 x25_1) x46_3) == 0) = false := beq_eq_false_iff_ne.mpr c25
                   have c25b1 : ((bt (rdOf ByteArray.empty t202 x25_1) x46_3) != 0) = true := bne_iff_ne.mpr c25
                   have H' := Aside0.mk H
                   clear H
                   have p22 : 0 ≤ (x46_3 : Int) := of_decide_eq_true (by first | (with_reducible assumption) | assumption)
                   have q22 : x46_3 < ((rdOf ByteArray.empty t202 x25_1).size : Int) := of_decide_eq_true (by first | (with_reducible assumption) | assumption)
                   have hx22 := bt_at (rdOf ByteArray.empty t202 x25_1) x46_3
                   replace p22 := eq_true p22
                   replace q22 := eq_true q22
                   have p24 : 0 ≤ (x46_3 : Int) := of_decide_eq_true (by first | (with_reducible assumption) | assumption)
                   have q24 : x46_3 < ((rdOf ByteArray.empty t202 x25_1).size : Int) := of_decide_eq_true (by first | (with_reducible assumption) | assumption)
                   have hx24 := bt_at (rdOf ByteArray.empty t202 x25_1) x46_3
                   replace p24 := eq_true p24
                   replace q24 := eq_true q24
                   go_wp2
                   go_roundg k3
                   case measure => have := HK1.out; have := HJ13.out; have := HK3.out; omega
                   case rel => exact ⟨(wrap64 (x46_3 + 1)), (by first | rfl | (simp; done) | (simp [*]; done)), H', ⟨by have := HK1.out; have := HJ13.out; have := HK3.out; omega⟩, ⟨by (with_reducible repeat (first | apply Kd.R_alloc | apply Kd.R_drewN | apply Kd.R_drew)); first | exact HO_23.out | exact Kd.R_mono HO_23.out (fun _ hk_ => by have h_ : ∀ (A : Option Addr) (n c : Nat), (Value.slice A n c).ownBlock = A.map (·.block) := fun A _ _ => (by cases A <;> rfl); simpa only [h_] using hk_)⟩, ⟨by repeat (first | (with_reducible first | exact HB.out | apply below_alloc | apply pw_below_drewN | apply below_drew1) | exact HB.out)⟩⟩
                ·rw [if_neg c21] at H
                 exact absurd H (by simp)
               ·rw [if_neg c20] at H
                exact absurd H (by simp)
              ·rw [if_neg c19] at H
               have c19b0 : decide (x46_3 < ((rdOf ByteArray.empty t202 x25_1).size : Int)) = false := decide_eq_false c19
               clear c19
               have H' := Aside0.mk H
               clear H
               go_wp2
               go_roundg k3
               case measure => have := HK1.out; have := HJ13.out; have := HK3.out; omega
               case rel => exact ⟨(wrap64 (x25_1 + 1)), (by first | rfl | (simp; done) | (simp [*]; done)), H', ⟨by have := HK1.out; have := HJ13.out; have := HK3.out; omega⟩, ⟨by (with_reducible repeat (first | apply Kd.R_alloc | apply Kd.R_drewN | apply Kd.R_drew)); first | exact HO_23.out | exact Kd.R_mono HO_23.out (fun _ hk_ => by have h_ : ∀ (A : Option Addr) (n c : Nat), (Value.slice A n c).ownBlock = A.map (·.block) := fun A _ _ => (by cases A <;> rfl); simpa only [h_] using hk_)⟩, ⟨by repeat (first | (with_reducible first | exact HB.out | apply below_alloc | apply pw_below_drewN | apply below_drew1) | exact HB.out)⟩⟩
        ·rw [if_neg c13] at H
         exact absurd H (by simp)
       ·rw [if_neg c12] at H
        exact absurd H (by simp)
      ·rw [if_neg c11] at H
       have c11b0 : decide (x25_1 < (t202.length : Int)) = false := decide_eq_false c11
       clear c11
       obtain rfl := Option.some.inj H
       go_wp2
       all_goals (go_ret; exact ⟨by first | rfl | (simp [errW_none, errW_some] <;> rfl) | (simp [*, errW_none, errW_some] <;> rfl), by repeat (first | (with_reducible first | exact HB.out | apply below_alloc | apply pw_below_drewN | apply below_drew1) | exact HB.out)⟩)
   ·rw [if_neg c7] at H
    have c7b0 : (t203 == 0) = false := beq_eq_false_iff_ne.mpr c7
    have c7b1 : (t203 != 0) = true := bne_iff_ne.mpr c7
    obtain rfl := Option.some.inj H
    go_enter Tryd.func5, Tryd.ntmps5
    go_wp2_with (first | ((with_reducible refine gate_callee (f := 16) rfl ?_); refine goesL_ (some 8) rfl rfl Tryd.func16 (by kernel_rfl) rfl #[] rfl (by (try simp only [List.map_toArray, List.map_cons, List.map_nil]); first | done | rfl | (simp only [List.length_drop, List.length_take]; rfl)) ?_; (with_reducible refine (pannierlaw10_cleans.calls k  true _ A2.out ?hGG).mono ?_); (case hGG => exact GG_below HGG.out (by repeat (first | (with_reducible first | exact HB.out | apply below_alloc | apply pw_below_drewN | apply below_drew1) | exact HB.out))); rintro e w26 ⟨rfl, hb⟩; refine ⟨_, rfl, ?_⟩; have n0_ := Aside0.mk (below_step (by repeat (first | (with_reducible first | exact HB.out | apply below_alloc | apply pw_below_drewN | apply below_drew1) | exact HB.out)) hb); clear HB; have HB := n0_; clear n0_; (try clear hb); (try clear hb2); (try clear hk); (try clear hi)) | ((with_reducible refine gate_callee (f := 17) rfl ?_); refine goesL_ (some 15) rfl rfl Tryd.func17 (by kernel_rfl) rfl #[.string a0] rfl (by (try simp only [List.map_toArray, List.map_cons, List.map_nil]); first | done | rfl | (simp only [List.length_drop, List.length_take]; rfl)) ?_; (with_reducible refine (path_Clean.calls k a0 t202 t203 _ A6.out ?hGG).mono ?_); (case hGG => exact GG_below HGG.out (by repeat (first | (with_reducible first | exact HB.out | apply below_alloc | apply pw_below_drewN | apply below_drew1) | exact HB.out))); rintro e w27 ⟨v204, rfl, ho0, hb⟩; refine ⟨_, rfl, ?_⟩; have n0_ := Aside0.mk (Kd.R_lower ho0 (below_size (by repeat (first | (with_reducible first | exact HB.out | apply below_alloc | apply pw_below_drewN | apply below_drew1) | exact HB.out)))); have n1_ := Aside0.mk (below_step (by repeat (first | (with_reducible first | exact HB.out | apply below_alloc | apply pw_below_drewN | apply below_drew1) | exact HB.out)) hb); clear HB; have HO205 := n0_; have HB := n1_; clear n0_ n1_; (try clear hb); (try clear hb2); (try clear hk); (try clear hi); (try clear ho0); obtain ⟨Ao28, co28, eo28⟩ := Kd.R_slice HO205.out; subst eo28))
    all_goals (go_ret; exact ⟨by first | rfl | (simp [errW_none, errW_some] <;> rfl) | (simp [*, errW_none, errW_some] <;> rfl), by repeat (first | (with_reducible first | exact HB.out | apply below_alloc | apply pw_below_drewN | apply below_drew1) | exact HB.out)⟩)
 ·replace c3 := Bool.eq_false_iff.mpr c3
  subst c3
  have H1 : (some false) = some r := by rw [if_neg (show ¬ (false = true) by decide)] at H; exact H
  clear H
  have H := H1
  clear H1
  obtain rfl := Option.some.inj H
  go_enter Tryd.func5, Tryd.ntmps5
  go_wp2_with (first | ((with_reducible refine gate_callee (f := 16) rfl ?_); refine goesL_ (some 8) rfl rfl Tryd.func16 (by kernel_rfl) rfl #[] rfl (by (try simp only [List.map_toArray, List.map_cons, List.map_nil]); first | done | rfl | (simp only [List.length_drop, List.length_take]; rfl)) ?_; (with_reducible refine (pannierlaw10_cleans.calls k  false _ A2.out ?hGG).mono ?_); (case hGG => exact GG_below HGG.out (by repeat (first | (with_reducible first | exact HB.out | apply below_alloc | apply pw_below_drewN | apply below_drew1) | exact HB.out))); rintro e w29 ⟨rfl, hb⟩; refine ⟨_, rfl, ?_⟩; have n0_ := Aside0.mk (below_step (by repeat (first | (with_reducible first | exact HB.out | apply below_alloc | apply pw_below_drewN | apply below_drew1) | exact HB.out)) hb); clear HB; have HB := n0_; clear n0_; (try clear hb); (try clear hb2); (try clear hk); (try clear hi)))
  all_goals (go_ret; exact ⟨by first | rfl | (simp [errW_none, errW_some] <;> rfl) | (simp [*, errW_none, errW_some] <;> rfl), by repeat (first | (with_reducible first | exact HB.out | apply below_alloc | apply pw_below_drewN | apply below_drew1) | exact HB.out)⟩)

/-- THE ONE PURE STATEMENT of pannierlaw10_PathSafe: yours. -/
def pannierlaw10_PathSafe.Pure : Prop := ∀ (a0 : ByteArray), a0.size ≤ 140737488351232 → ∃ k, pannierlaw10_PathSafe.f k a0 = some true
theorem pannierlaw10_PathSafe.walk (P : pannierlaw10_PathSafe.Pure) (a0 : ByteArray) (w : World) (w0 : a0.size ≤ 140737488351232) (hGG0 : GG w) :
  Calls Tryd.prog 5 #[.string a0] w fun e w' => e = .returned (.bool true) ∧ Below w.heap.size w w' := by
 obtain ⟨k, h⟩ := P a0 w0
 refine (pannierlaw10_PathSafe.calls k a0 true w h hGG0).mono ?_
 rintro e w' ⟨rfl, hd⟩
 exact ⟨rfl, hd⟩

end Go.Proofs.YtcfhijegmmdpkaaDoor.XA
