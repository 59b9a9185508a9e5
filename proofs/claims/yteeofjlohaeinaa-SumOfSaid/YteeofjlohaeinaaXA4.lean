-- Written by a program of this session (wip/tools/xprint.py) out of the translation's print. Lean checks it.
import Derived.Test.YteeofjlohaeinaaXA0
namespace Go.Proofs.Yteeofjlohaeinaa.XA
open Go.RowKit Go.Proofs.YteeofjlohaeinaaW.PrintWords Go.Proofs.YteeofjlohaeinaaW.PrintLast Go.Proofs.YteeofjlohaeinaaW.PrintMore
attribute [local go_sem] max2_int min2_int max_two min_two max_three min_three max_four min_four   -- for this text's walks alone
set_option linter.unusedVariables false
set_option linter.unusedSimpArgs false

/-! ### pannierref02_big: function 31 -/
mutual
def pannierref02_big.j0 : Nat → ByteArray → Bool → Int → Option (Int × Bool)
  | 0, _, _, _ => none
  | k + 1, x0, x1, x6 => pannierref02_big.l0 k x0 x1 x6
def pannierref02_big.l0 : Nat → ByteArray → Bool → Int → Option (Int × Bool)
  | 0, _, _, _ => none
  | k + 1, x0, x1, x6 => if (x0.size : Int) < 8 then ((some (([x6] : List Int) : List Int)).bind fun y124 => (if (strOfNums y124).size + x0.size ≤ 9223372036854775807 then (pannierref02_big.l0 k ((strOfNums y124) ++ x0) x1 x6) else (none))) else (pannierref02_big.l1 k x0 x1 x6 (wrap64 ((x0.size : Int) - 8)) 0)
def pannierref02_big.l1 : Nat → ByteArray → Bool → Int → Int → Int → Option (Int × Bool)
  | 0, _, _, _, _, _ => none
  | k + 1, x0, x1, x6, x7, x8 => if x8 < x7 then (if 0 ≤ x8 then (if x8 < (x0.size : Int) then (if (bt x0 x8) = x6 then (pannierref02_big.l1 k x0 x1 x6 x7 (wrap64 (x8 + 1))) else (some (0, false))) else (none)) else (none)) else (if 0 ≤ x7 then (if x7 < (x0.size : Int) then (if ((decide ((bt x0 x7) ≥ 128)) != x1) = true then (some (0, false)) else (pannierref02_big.l2 k x0 x1 x7 0 0 0)) else (none)) else (none))
def pannierref02_big.l2 : Nat → ByteArray → Bool → Int → Int → Int → Int → Option (Int × Bool)
  | 0, _, _, _, _, _, _ => none
  | k + 1, x0, x1, x7, x9, x10, x11 => if x11 < 4 then (if 0 ≤ (wrap64 (x7 + x11)) then (if (wrap64 (x7 + x11)) < (x0.size : Int) then (if 0 ≤ (wrap64 ((wrap64 (x7 + 4)) + x11)) then (if (wrap64 ((wrap64 (x7 + 4)) + x11)) < (x0.size : Int) then (pannierref02_big.l2 k x0 x1 x7 (wrap64 ((wrap64 (x9 * 256)) + (wrap64 (bt x0 (wrap64 (x7 + x11)))))) (wrap64 ((wrap64 (x10 * 256)) + (wrap64 (bt x0 (wrap64 ((wrap64 (x7 + 4)) + x11)))))) (wrap64 (x11 + 1))) else (none)) else (none)) else (none)) else (none)) else (if x1 = true then (some (wrap64 ((wrap64 ((wrap64 (x9 - 4294967296)) * 4294967296)) + x10), true)) else (some (wrap64 ((wrap64 (x9 * 4294967296)) + x10), true)))
end
def pannierref02_big.f (k : Nat) (a0 : ByteArray) (a1 : Bool) : Option (Int × Bool) := if a1 = true then (pannierref02_big.j0 k a0 a1 255) else (pannierref02_big.j0 k a0 a1 0)
theorem pannierref02_big.mono_l : ∀ k, (∀ y0 y1 y2, LeO (pannierref02_big.j0 k y0 y1 y2) (pannierref02_big.j0 (k + 1) y0 y1 y2)) ∧ (∀ y0 y1 y2, LeO (pannierref02_big.l0 k y0 y1 y2) (pannierref02_big.l0 (k + 1) y0 y1 y2)) ∧ (∀ y0 y1 y2 y3 y4, LeO (pannierref02_big.l1 k y0 y1 y2 y3 y4) (pannierref02_big.l1 (k + 1) y0 y1 y2 y3 y4)) ∧ (∀ y0 y1 y2 y3 y4 y5, LeO (pannierref02_big.l2 k y0 y1 y2 y3 y4 y5) (pannierref02_big.l2 (k + 1) y0 y1 y2 y3 y4 y5))
  | 0 => ⟨fun _ _ _ r h => by simp [pannierref02_big.j0] at h, fun _ _ _ r h => by simp [pannierref02_big.l0] at h, fun _ _ _ _ _ r h => by simp [pannierref02_big.l1] at h, fun _ _ _ _ _ _ r h => by simp [pannierref02_big.l2] at h⟩
  | k + 1 => by
    obtain ⟨ih0, ih1, ih2, ih3⟩ := pannierref02_big.mono_l k
    refine ⟨?_, ?_, ?_, ?_⟩
    · intro y0 y1 y2
      unfold pannierref02_big.j0
      repeat' first
      | (with_reducible exact ih0 _ _ _)
      | (with_reducible exact ih1 _ _ _)
      | (with_reducible exact ih2 _ _ _ _ _)
      | (with_reducible exact ih3 _ _ _ _ _ _)
      | (with_reducible exact LeO.refl _)
      | (with_reducible exact LeO.none _)
      | (with_reducible refine LeO.ite ?_ ?_)
      | (with_reducible refine LeO.bind ?_ (fun _ => ?_))
      | exact ih0 _ _ _
      | exact ih1 _ _ _
      | exact ih2 _ _ _ _ _
      | exact ih3 _ _ _ _ _ _
      | exact LeO.none _
      | refine LeO.ite ?_ ?_
      | refine LeO.bind ?_ (fun _ => ?_)
    · intro y0 y1 y2
      unfold pannierref02_big.l0
      repeat' first
      | (with_reducible exact ih0 _ _ _)
      | (with_reducible exact ih1 _ _ _)
      | (with_reducible exact ih2 _ _ _ _ _)
      | (with_reducible exact ih3 _ _ _ _ _ _)
      | (with_reducible exact LeO.refl _)
      | (with_reducible exact LeO.none _)
      | (with_reducible refine LeO.ite ?_ ?_)
      | (with_reducible refine LeO.bind ?_ (fun _ => ?_))
      | exact ih0 _ _ _
      | exact ih1 _ _ _
      | exact ih2 _ _ _ _ _
      | exact ih3 _ _ _ _ _ _
      | exact LeO.none _
      | refine LeO.ite ?_ ?_
      | refine LeO.bind ?_ (fun _ => ?_)
    · intro y0 y1 y2 y3 y4
      unfold pannierref02_big.l1
      repeat' first
      | (with_reducible exact ih0 _ _ _)
      | (with_reducible exact ih1 _ _ _)
      | (with_reducible exact ih2 _ _ _ _ _)
      | (with_reducible exact ih3 _ _ _ _ _ _)
      | (with_reducible exact LeO.refl _)
      | (with_reducible exact LeO.none _)
      | (with_reducible refine LeO.ite ?_ ?_)
      | (with_reducible refine LeO.bind ?_ (fun _ => ?_))
      | exact ih0 _ _ _
      | exact ih1 _ _ _
      | exact ih2 _ _ _ _ _
      | exact ih3 _ _ _ _ _ _
      | exact LeO.none _
      | refine LeO.ite ?_ ?_
      | refine LeO.bind ?_ (fun _ => ?_)
    · intro y0 y1 y2 y3 y4 y5
      unfold pannierref02_big.l2
      repeat' first
      | (with_reducible exact ih0 _ _ _)
      | (with_reducible exact ih1 _ _ _)
      | (with_reducible exact ih2 _ _ _ _ _)
      | (with_reducible exact ih3 _ _ _ _ _ _)
      | (with_reducible exact LeO.refl _)
      | (with_reducible exact LeO.none _)
      | (with_reducible refine LeO.ite ?_ ?_)
      | (with_reducible refine LeO.bind ?_ (fun _ => ?_))
      | exact ih0 _ _ _
      | exact ih1 _ _ _
      | exact ih2 _ _ _ _ _
      | exact ih3 _ _ _ _ _ _
      | exact LeO.none _
      | refine LeO.ite ?_ ?_
      | refine LeO.bind ?_ (fun _ => ?_)
theorem pannierref02_big.mono : ∀ a0 a1 k, LeO (pannierref02_big.f k a0 a1) (pannierref02_big.f (k + 1) a0 a1) := by
  intro a0 a1 k
  obtain ⟨ih0, ih1, ih2, ih3⟩ := pannierref02_big.mono_l k
  unfold pannierref02_big.f
  repeat' first
      | (with_reducible exact ih0 _ _ _)
      | (with_reducible exact ih1 _ _ _)
      | (with_reducible exact ih2 _ _ _ _ _)
      | (with_reducible exact ih3 _ _ _ _ _ _)
      | (with_reducible exact LeO.refl _)
      | (with_reducible exact LeO.none _)
      | (with_reducible refine LeO.ite ?_ ?_)
      | (with_reducible refine LeO.bind ?_ (fun _ => ?_))
      | exact ih0 _ _ _
      | exact ih1 _ _ _
      | exact ih2 _ _ _ _ _
      | exact ih3 _ _ _ _ _ _
      | exact LeO.none _
      | refine LeO.ite ?_ ?_
      | refine LeO.bind ?_ (fun _ => ?_)
set_option maxHeartbeats 8000000 in
set_option maxRecDepth 100000 in
theorem pannierref02_big.calls (k : Nat) (a0 : ByteArray) (a1 : Bool) (r1 : Int) (r2 : Bool) (w : World) (h : pannierref02_big.f k a0 a1 = some (r1, r2)) :
    Calls Try.prog 31 #[.string a0, .bool a1] w fun e w' => e = .returned (.tuple #[.int .i64 r1, .bool r2]) ∧ Below w.heap.size w w' := by
  have HB := Aside0.mk (Below.refl w.heap.size w)
  have H : (if a1 = true then (pannierref02_big.j0 k a0 a1 255) else (pannierref02_big.j0 k a0 a1 0)) = some (r1, r2) := h
  clear h
  have HC3 := Aside0.mk H
  clear H
  go_enter Try.func31, Try.ntmps31
  go_upto_if 12 with (fail)
  go_cut [6] (fun v6 wc => ∃ (kq : Nat) (x6_2 : Int), v6 = .int .u8 x6_2 ∧ Aside0 (pannierref02_big.j0 kq a0 a1 x6_2 = some (r1, r2)) ∧ Aside0 (kq ≤ k) ∧ Aside0 (Below w.heap.size w wc))
  case first =>
    have H := HC3.out
    clear HC3
    by_cases c4 : a1 = true
    · subst c4
      have H1 : (pannierref02_big.j0 k a0 true 255) = some (r1, r2) := by rw [if_pos rfl] at H; exact H
      clear H
      have H := H1
      clear H1
      have H' := Aside0.mk H
      clear H
      go_wp2
      go_meet
      case rel => exact ⟨_, (255), (by first | rfl | (simp; done) | (simp [*]; done)), H', ⟨by first | omega | exact Nat.le_refl _⟩, ⟨by repeat (first | (with_reducible first | exact HB.out | apply below_alloc | apply pw_below_drewN | apply below_drew1) | exact HB.out)⟩⟩
    · replace c4 := Bool.eq_false_iff.mpr c4
      subst c4
      have H1 : (pannierref02_big.j0 k a0 false 0) = some (r1, r2) := by rw [if_neg (show ¬ (false = true) by decide)] at H; exact H
      clear H
      have H := H1
      clear H1
      have H' := Aside0.mk H
      clear H
      go_wp2
      go_meet
      case rel => exact ⟨_, (0), (by first | rfl | (simp; done) | (simp [*]; done)), H', ⟨by first | omega | exact Nat.le_refl _⟩, ⟨by repeat (first | (with_reducible first | exact HB.out | apply below_alloc | apply pw_below_drewN | apply below_drew1) | exact HB.out)⟩⟩
  case rest =>
    clear HC3
    try clear p2
    try clear c3
    try clear c4
    obtain ⟨kq, x6_2, rfl, HA, HJ2, HB⟩ := hcut
    cases kq with
    | zero => exact absurd HA.out (by simp [pannierref02_big.j0])
    | succ kj2 =>
      have H := HA.out
      clear HA
      simp only [pannierref02_big.j0] at H
      have H' := Aside0.mk H
      clear H
      go_wp2
      go_loopg [0] kj2 (fun kq v0 w' => ∃ (x0_2 : ByteArray), v0 = .string x0_2 ∧ Aside0 (pannierref02_big.l0 kq x0_2 a1 x6_2 = some (r1, r2)) ∧ Aside0 (kq ≤ kj2) ∧ Aside0 (Below w.heap.size w w'))
      case atStart => exact ⟨(a0), (by first | rfl | (simp; done) | (simp [*]; done)), H', ⟨Nat.le_refl _⟩, ⟨by repeat (first | (with_reducible first | exact HB.out | apply below_alloc | apply pw_below_drewN | apply below_drew1) | exact HB.out)⟩⟩
      case round =>
        clear H'
        try clear p2
        try clear c3
        try clear c4
        try clear p2
        obtain ⟨x0_2, rfl, HA, HK2, HB⟩ := hrel
        cases gk with
        | zero => exact absurd HA.out (by simp [pannierref02_big.l0])
        | succ k2 =>
          have H := HA.out
          clear HA
          simp only [pannierref02_big.l0] at H
          by_cases c5 : (x0_2.size : Int) < 8
          · rw [if_pos c5] at H
            have c5b0 : decide ((x0_2.size : Int) < 8) = true := decide_eq_true c5
            have c5b1 : decide (x0_2.size < 8) = true := decide_eq_true (by omega)
            clear c5
            obtain ⟨y124, hy124⟩ : ∃ y_ : List Int, y_ = (([x6_2] : List Int)) := ⟨_, rfl⟩
            replace H : (if (strOfNums y124).size + x0_2.size ≤ 9223372036854775807 then (pannierref02_big.l0 k2 ((strOfNums y124) ++ x0_2) a1 x6_2) else (none)) = some (r1, r2) := by first | (rw [hy124]; with_reducible exact H) | (have H2_ := (Option.bind_some _ _).symm.trans H; rw [hy124]; with_reducible exact H2_) | (have H2_ := (Option.bind_some _ _).symm.trans H; with_reducible exact H2_) | with_reducible exact H | (rw [hy124]; exact H) | exact H
            have Ny124 := Aside0.mk hy124
            clear hy124
            by_cases c6 : (strOfNums y124).size + x0_2.size ≤ 9223372036854775807
            · rw [if_pos c6] at H
              have c6b0 := eq_true c6
              have c6b1 : decide ((strOfNums y124).size + x0_2.size ≤ 9223372036854775807) = true := decide_eq_true c6
              try have c6b2 : (9223372036854775807 < (strOfNums y124).size + x0_2.size) = False := eq_false (Nat.not_lt.2 c6)
              have H' := Aside0.mk H
              clear H
              go_wp2_with (first | ((with_reducible refine gate_dst (N := 17) rfl ?_); refine Kd.R_lit (Kd.int .u8) _ 5 ?hg (N := 17) ?hd (xs := ([x6_2] : List Int)) (inner := [.int .u8 x6_2]) (ok := fun _ => True) (okp := fun _ => True) ?hr ?hp (fun _ hk => hk) trivial (Below.refl _ _) (Nat.le_refl _) (by simp) ?_; (case hd => rfl); (case hg => rfl); (case hr => first | (go_simp; done) | (go_simp; rfl)); (case hp => exact (Reps.one (show Kd.M (Kd.int .u8) _ _ _ x6_2 [.int .u8 x6_2] from rfl) (Reps.none _ _))); intro v125 w7 ho8 hb hg_ hnew_; clear hg_ hnew_; (first | rw [← Ny124.out] at ho8 | (simp only [Int.reduceToNat] at ho8; rw [← Ny124.out] at ho8)); have n0_ := Aside0.mk (Kd.R_lower ho8 (below_size (by repeat (first | (with_reducible first | exact HB.out | apply below_alloc | apply pw_below_drewN | apply below_drew1) | exact HB.out)))); have n1_ := Aside0.mk (below_step (by repeat (first | (with_reducible first | exact HB.out | apply below_alloc | apply pw_below_drewN | apply below_drew1) | exact HB.out)) hb); clear HB; have HO126 := n0_; have HB := n1_; clear n0_ n1_; clear hb ho8; have hcv9 := own_string (P := Try.prog) Try.underlying22 Try.underlying5 Try.underlying9 (Kd.own_of_R HO126.out); have hcv10 := fun (m_ : Nat) => own_string (P := Try.prog) Try.underlying22 Try.underlying5 Try.underlying9 (Kd.own_of_R (Kd.R_drewN HO126.out m_))))
              go_roundg k2
              case measure => have := HJ2.out; have := HK2.out; omega
              case rel => exact ⟨((strOfNums y124) ++ x0_2), (by first | rfl | (simp; done) | (simp [*]; done)), H', ⟨by have := HJ2.out; have := HK2.out; omega⟩, ⟨by repeat (first | (with_reducible first | exact HB.out | apply below_alloc | apply pw_below_drewN | apply below_drew1) | exact HB.out)⟩⟩
            · rw [if_neg c6] at H
              exact absurd H (by simp)
          · rw [if_neg c5] at H
            have c5b0 : decide ((x0_2.size : Int) < 8) = false := decide_eq_false c5
            have c5b1 : decide (x0_2.size < 8) = false := decide_eq_false (by omega)
            clear c5
            have H' := Aside0.mk H
            clear H
            go_wp2
            go_loopg [8] k2 (fun kq v8 w' => ∃ (x8_3 : Int), v8 = .int .i64 x8_3 ∧ Aside0 (pannierref02_big.l1 kq x0_2 a1 x6_2 (wrap64 ((x0_2.size : Int) - 8)) x8_3 = some (r1, r2)) ∧ Aside0 (kq ≤ k2) ∧ Aside0 (Below w.heap.size w w'))
            case atStart => exact ⟨(0), (by first | rfl | (simp; done) | (simp [*]; done)), H', ⟨Nat.le_refl _⟩, ⟨by repeat (first | (with_reducible first | exact HB.out | apply below_alloc | apply pw_below_drewN | apply below_drew1) | exact HB.out)⟩⟩
            case round =>
              clear H'
              try clear hcv1
              try clear p2
              try clear c3
              try clear c4
              try clear c5
              try clear c5b0
              try clear c5b1
              try clear c6
              try clear c6b0
              try clear c6b1
              try clear c6b2
              try clear p6
              try clear hcv9
              try clear hcv10
              try clear p2
              obtain ⟨x8_3, rfl, HA, HK3, HB⟩ := hrel
              cases gk with
              | zero => exact absurd HA.out (by simp [pannierref02_big.l1])
              | succ k3 =>
                have H := HA.out
                clear HA
                simp only [pannierref02_big.l1] at H
                by_cases c11 : x8_3 < (wrap64 ((x0_2.size : Int) - 8))
                · rw [if_pos c11] at H
                  have c11b0 : decide (x8_3 < (wrap64 ((x0_2.size : Int) - 8))) = true := decide_eq_true c11
                  clear c11
                  by_cases c12 : 0 ≤ x8_3
                  · rw [if_pos c12] at H
                    have c12b0 : decide (0 ≤ x8_3) = true := decide_eq_true c12
                    clear c12
                    by_cases c13 : x8_3 < (x0_2.size : Int)
                    · rw [if_pos c13] at H
                      have c13b0 : decide (x8_3 < (x0_2.size : Int)) = true := decide_eq_true c13
                      clear c13
                      by_cases c15 : (bt x0_2 x8_3) = x6_2
                      · rw [if_pos c15] at H
                        have c15b0 : ((bt x0_2 x8_3) == x6_2) = true := beq_iff_eq.mpr c15
                        have c15b1 : ((bt x0_2 x8_3) != x6_2) = false := bne_eq_false_iff_eq.mpr c15
                        clear c15
                        have H' := Aside0.mk H
                        clear H
                        have p14 : 0 ≤ (x8_3 : Int) := of_decide_eq_true (by first | (with_reducible assumption) | assumption)
                        have q14 : x8_3 < (x0_2.size : Int) := of_decide_eq_true (by first | (with_reducible assumption) | assumption)
                        have hx14 := bt_at x0_2 x8_3
                        replace p14 := eq_true p14
                        replace q14 := eq_true q14
                        go_wp2
                        go_roundg k3
                        case measure => have := HJ2.out; have := HK2.out; have := HK3.out; omega
                        case rel => exact ⟨(wrap64 (x8_3 + 1)), (by first | rfl | (simp; done) | (simp [*]; done)), H', ⟨by have := HJ2.out; have := HK2.out; have := HK3.out; omega⟩, ⟨by repeat (first | (with_reducible first | exact HB.out | apply below_alloc | apply pw_below_drewN | apply below_drew1) | exact HB.out)⟩⟩
                      · rw [if_neg c15] at H
                        have c15b0 : ((bt x0_2 x8_3) == x6_2) = false := beq_eq_false_iff_ne.mpr c15
                        have c15b1 : ((bt x0_2 x8_3) != x6_2) = true := bne_iff_ne.mpr c15
                        simp only [Option.some.injEq, Prod.mk.injEq] at H
                        obtain ⟨rfl, rfl⟩ := H
                        have p14 : 0 ≤ (x8_3 : Int) := of_decide_eq_true (by first | (with_reducible assumption) | assumption)
                        have q14 : x8_3 < (x0_2.size : Int) := of_decide_eq_true (by first | (with_reducible assumption) | assumption)
                        have hx14 := bt_at x0_2 x8_3
                        replace p14 := eq_true p14
                        replace q14 := eq_true q14
                        go_wp2
                        go_ret2
                        exact ⟨by first | rfl | (simp [errW_none, errW_some] <;> rfl) | (simp [*, errW_none, errW_some] <;> rfl), by repeat (first | (with_reducible first | exact HB.out | apply below_alloc | apply pw_below_drewN | apply below_drew1) | exact HB.out)⟩
                    · rw [if_neg c13] at H
                      exact absurd H (by simp)
                  · rw [if_neg c12] at H
                    exact absurd H (by simp)
                · rw [if_neg c11] at H
                  have c11b0 : decide (x8_3 < (wrap64 ((x0_2.size : Int) - 8))) = false := decide_eq_false c11
                  clear c11
                  obtain ⟨ji16, hji16⟩ : ∃ j_ : Int, (wrap64 ((x0_2.size : Int) - 8)) = j_ := ⟨_, rfl⟩
                  replace H : (if 0 ≤ (ji16) then (if (ji16) < (x0_2.size : Int) then (if ((decide ((bt x0_2 (ji16)) ≥ 128)) != a1) = true then (some (0, false)) else (pannierref02_big.l2 k3 x0_2 a1 (ji16) 0 0 0)) else (none)) else (none)) = some (r1, r2) := by first | (rw [hji16] at H; exact H) | (simp only [hji16] at H ⊢; exact H)
                  (try rw [hji16] at c11b0)
                  have hji16w : (IntKind.i64.wrap ((x0_2.size : Int) - 8)) = ji16 := (i64_w _).trans hji16
                  by_cases c17 : 0 ≤ (ji16)
                  · rw [if_pos c17] at H
                    have c17b0 : decide (0 ≤ (ji16)) = true := decide_eq_true c17
                    clear c17
                    by_cases c18 : (ji16) < (x0_2.size : Int)
                    · rw [if_pos c18] at H
                      have c18b0 : decide ((ji16) < (x0_2.size : Int)) = true := decide_eq_true c18
                      clear c18
                      by_cases c20 : ((decide ((bt x0_2 (ji16)) ≥ 128)) != a1) = true
                      · rw [if_pos c20] at H
                        have c20b0 : ((decide ((bt x0_2 (ji16)) ≥ 128)) != a1) = true := c20
                        (try (have c20b1 : decide ((decide ((bt x0_2 (ji16)) ≥ 128)) = a1) = false := by simpa using c20))
                        (try (have c20b2 : ((decide ((bt x0_2 (ji16)) ≥ 128)) == a1) = false := by simpa using c20))
                        (try (have c20b3 : ¬ ((decide ((bt x0_2 (ji16)) ≥ 128)) = a1) := by simpa using c20))
                        clear c20
                        simp only [Option.some.injEq, Prod.mk.injEq] at H
                        obtain ⟨rfl, rfl⟩ := H
                        have p19 : 0 ≤ ((ji16) : Int) := of_decide_eq_true (by first | (with_reducible assumption) | assumption)
                        have q19 : (ji16) < (x0_2.size : Int) := of_decide_eq_true (by first | (with_reducible assumption) | assumption)
                        have hx19 := bt_at x0_2 (ji16)
                        replace p19 := eq_true p19
                        replace q19 := eq_true q19
                        go_wp2
                        go_ret2
                        exact ⟨by first | rfl | (simp [errW_none, errW_some] <;> rfl) | (simp only [← hji16]; first | rfl | (simp [errW_none, errW_some] <;> rfl)) | (simp [*, errW_none, errW_some] <;> rfl), by repeat (first | (with_reducible first | exact HB.out | apply below_alloc | apply pw_below_drewN | apply below_drew1) | exact HB.out)⟩
                      · rw [if_neg c20] at H
                        have c20b0 : ((decide ((bt x0_2 (ji16)) ≥ 128)) != a1) = false := by simpa using c20
                        (try (have c20b1 : decide ((decide ((bt x0_2 (ji16)) ≥ 128)) = a1) = true := by simpa using c20))
                        (try (have c20b2 : ((decide ((bt x0_2 (ji16)) ≥ 128)) == a1) = true := by simpa using c20))
                        clear c20
                        have H' := Aside0.mk H
                        clear H
                        have p19 : 0 ≤ ((ji16) : Int) := of_decide_eq_true (by first | (with_reducible assumption) | assumption)
                        have q19 : (ji16) < (x0_2.size : Int) := of_decide_eq_true (by first | (with_reducible assumption) | assumption)
                        have hx19 := bt_at x0_2 (ji16)
                        replace p19 := eq_true p19
                        replace q19 := eq_true q19
                        go_wp2
                        go_loopg [9, 10, 11] k3 (fun kq v9 v10 v11 w' => ∃ (x9_4 : Int) (x10_4 : Int) (x11_4 : Int), v9 = .int .i64 x9_4 ∧ v10 = .int .i64 x10_4 ∧ v11 = .int .i64 x11_4 ∧ Aside0 (pannierref02_big.l2 kq x0_2 a1 (ji16) x9_4 x10_4 x11_4 = some (r1, r2)) ∧ Aside0 (kq ≤ k3) ∧ Aside0 (Below w.heap.size w w'))
                        case atStart => exact ⟨(0), (0), (0), (by first | rfl | (simp; done) | (simp [*]; done)), (by first | rfl | (simp; done) | (simp [*]; done)), (by first | rfl | (simp; done) | (simp [*]; done)), H', ⟨Nat.le_refl _⟩, ⟨by repeat (first | (with_reducible first | exact HB.out | apply below_alloc | apply pw_below_drewN | apply below_drew1) | exact HB.out)⟩⟩
                        case round =>
                          clear H'
                          try clear c1
                          try clear p1
                          try clear q1
                          try clear hx1
                          try clear hcv1
                          try clear c2
                          try clear p2
                          try clear c3
                          try clear c4
                          try clear c5
                          try clear c5b0
                          try clear c5b1
                          try clear c6
                          try clear c6b0
                          try clear c6b1
                          try clear c6b2
                          try clear p6
                          try clear hcv9
                          try clear hcv10
                          try clear c11
                          try clear c11b0
                          try clear c12
                          try clear c12b0
                          try clear c13
                          try clear c13b0
                          try clear p14
                          try clear q14
                          try clear hx14
                          try clear c15
                          try clear c15b0
                          try clear c15b1
                          try clear c17
                          try clear c17b0
                          try clear c18
                          try clear c18b0
                          try clear p19
                          try clear q19
                          try clear hx19
                          try clear c20
                          try clear c20b0
                          try clear c20b1
                          try clear c20b2
                          try clear p14
                          try clear p19
                          try clear p2
                          try clear p6
                          try clear q14
                          try clear q19
                          obtain ⟨x9_4, x10_4, x11_4, rfl, rfl, rfl, HA, HK4, HB⟩ := hrel
                          cases gk with
                          | zero => exact absurd HA.out (by simp [pannierref02_big.l2])
                          | succ k4 =>
                            have H := HA.out
                            clear HA
                            simp only [pannierref02_big.l2] at H
                            by_cases c21 : x11_4 < 4
                            · rw [if_pos c21] at H
                              have c21b0 : decide (x11_4 < 4) = true := decide_eq_true c21
                              clear c21
                              obtain ⟨ji22, hji22⟩ : ∃ j_ : Int, (wrap64 ((ji16) + x11_4)) = j_ := ⟨_, rfl⟩
                              replace H : (if 0 ≤ (ji22) then (if (ji22) < (x0_2.size : Int) then (if 0 ≤ (wrap64 ((wrap64 ((ji16) + 4)) + x11_4)) then (if (wrap64 ((wrap64 ((ji16) + 4)) + x11_4)) < (x0_2.size : Int) then (pannierref02_big.l2 k4 x0_2 a1 (ji16) (wrap64 ((wrap64 (x9_4 * 256)) + (wrap64 (bt x0_2 (ji22))))) (wrap64 ((wrap64 (x10_4 * 256)) + (wrap64 (bt x0_2 (wrap64 ((wrap64 ((ji16) + 4)) + x11_4)))))) (wrap64 (x11_4 + 1))) else (none)) else (none)) else (none)) else (none)) = some (r1, r2) := by first | (rw [hji22] at H; exact H) | (simp only [hji22] at H ⊢; exact H)
                              have hji22w : (IntKind.i64.wrap ((ji16) + x11_4)) = ji22 := (i64_w _).trans hji22
                              by_cases c23 : 0 ≤ (ji22)
                              · rw [if_pos c23] at H
                                have c23b0 : decide (0 ≤ (ji22)) = true := decide_eq_true c23
                                clear c23
                                by_cases c24 : (ji22) < (x0_2.size : Int)
                                · rw [if_pos c24] at H
                                  have c24b0 : decide ((ji22) < (x0_2.size : Int)) = true := decide_eq_true c24
                                  clear c24
                                  obtain ⟨ji26, hji26⟩ : ∃ j_ : Int, (wrap64 ((wrap64 ((ji16) + 4)) + x11_4)) = j_ := ⟨_, rfl⟩
                                  replace H : (if 0 ≤ (ji26) then (if (ji26) < (x0_2.size : Int) then (pannierref02_big.l2 k4 x0_2 a1 (ji16) (wrap64 ((wrap64 (x9_4 * 256)) + (wrap64 (bt x0_2 (ji22))))) (wrap64 ((wrap64 (x10_4 * 256)) + (wrap64 (bt x0_2 (ji26))))) (wrap64 (x11_4 + 1))) else (none)) else (none)) = some (r1, r2) := by first | (rw [hji26] at H; exact H) | (simp only [hji26] at H ⊢; exact H)
                                  have hji26w : (IntKind.i64.wrap ((wrap64 ((ji16) + 4)) + x11_4)) = ji26 := (i64_w _).trans hji26
                                  by_cases c27 : 0 ≤ (ji26)
                                  · rw [if_pos c27] at H
                                    have c27b0 : decide (0 ≤ (ji26)) = true := decide_eq_true c27
                                    clear c27
                                    by_cases c28 : (ji26) < (x0_2.size : Int)
                                    · rw [if_pos c28] at H
                                      have c28b0 : decide ((ji26) < (x0_2.size : Int)) = true := decide_eq_true c28
                                      clear c28
                                      have H' := Aside0.mk H
                                      clear H
                                      have p25 : 0 ≤ ((ji22) : Int) := of_decide_eq_true (by first | (with_reducible assumption) | assumption)
                                      have q25 : (ji22) < (x0_2.size : Int) := of_decide_eq_true (by first | (with_reducible assumption) | assumption)
                                      have hx25 := bt_at x0_2 (ji22)
                                      replace p25 := eq_true p25
                                      replace q25 := eq_true q25
                                      have p29 : 0 ≤ ((ji26) : Int) := of_decide_eq_true (by first | (with_reducible assumption) | assumption)
                                      have q29 : (ji26) < (x0_2.size : Int) := of_decide_eq_true (by first | (with_reducible assumption) | assumption)
                                      have hx29 := bt_at x0_2 (ji26)
                                      replace p29 := eq_true p29
                                      replace q29 := eq_true q29
                                      go_wp2
                                      go_roundg k4
                                      case measure => have := HJ2.out; have := HK2.out; have := HK3.out; have := HK4.out; omega
                                      case rel => exact ⟨(wrap64 ((wrap64 (x9_4 * 256)) + (wrap64 (bt x0_2 (ji22))))), (wrap64 ((wrap64 (x10_4 * 256)) + (wrap64 (bt x0_2 (ji26))))), (wrap64 (x11_4 + 1)), (by first | rfl | (simp; done) | (simp only [← hji22] <;> (first | rfl | simp)) | (simp [*]; done)), (by first | rfl | (simp; done) | (simp only [← hji26] <;> (first | rfl | simp)) | (simp [*]; done)), (by first | rfl | (simp; done) | (simp [*]; done)), H', ⟨by have := HJ2.out; have := HK2.out; have := HK3.out; have := HK4.out; omega⟩, ⟨by repeat (first | (with_reducible first | exact HB.out | apply below_alloc | apply pw_below_drewN | apply below_drew1) | exact HB.out)⟩⟩
                                    · rw [if_neg c28] at H
                                      exact absurd H (by simp)
                                  · rw [if_neg c27] at H
                                    exact absurd H (by simp)
                                · rw [if_neg c24] at H
                                  exact absurd H (by simp)
                              · rw [if_neg c23] at H
                                exact absurd H (by simp)
                            · rw [if_neg c21] at H
                              have c21b0 : decide (x11_4 < 4) = false := decide_eq_false c21
                              clear c21
                              by_cases c30 : a1 = true
                              · subst c30
                                have H1 : (some (wrap64 ((wrap64 ((wrap64 (x9_4 - 4294967296)) * 4294967296)) + x10_4), true)) = some (r1, r2) := by rw [if_pos rfl] at H; exact H
                                clear H
                                have H := H1
                                clear H1
                                simp only [Option.some.injEq, Prod.mk.injEq] at H
                                obtain ⟨rfl, rfl⟩ := H
                                go_wp2
                                go_ret2
                                exact ⟨by first | rfl | (simp [errW_none, errW_some] <;> rfl) | (simp only [← hji16]; first | rfl | (simp [errW_none, errW_some] <;> rfl)) | (simp [*, errW_none, errW_some] <;> rfl), by repeat (first | (with_reducible first | exact HB.out | apply below_alloc | apply pw_below_drewN | apply below_drew1) | exact HB.out)⟩
                              · replace c30 := Bool.eq_false_iff.mpr c30
                                subst c30
                                have H1 : (some (wrap64 ((wrap64 (x9_4 * 4294967296)) + x10_4), true)) = some (r1, r2) := by rw [if_neg (show ¬ (false = true) by decide)] at H; exact H
                                clear H
                                have H := H1
                                clear H1
                                simp only [Option.some.injEq, Prod.mk.injEq] at H
                                obtain ⟨rfl, rfl⟩ := H
                                go_wp2
                                go_ret2
                                exact ⟨by first | rfl | (simp [errW_none, errW_some] <;> rfl) | (simp only [← hji16]; first | rfl | (simp [errW_none, errW_some] <;> rfl)) | (simp [*, errW_none, errW_some] <;> rfl), by repeat (first | (with_reducible first | exact HB.out | apply below_alloc | apply pw_below_drewN | apply below_drew1) | exact HB.out)⟩
                    · rw [if_neg c18] at H
                      exact absurd H (by simp)
                  · rw [if_neg c17] at H
                    exact absurd H (by simp)

end Go.Proofs.Yteeofjlohaeinaa.XA
