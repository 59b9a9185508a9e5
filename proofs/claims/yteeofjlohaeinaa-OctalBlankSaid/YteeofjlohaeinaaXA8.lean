-- Written by a program of this session (wip/tools/xprint.py) out of the translation's print. Lean checks it.
import Derived.Test.YteeofjlohaeinaaXA0
import Derived.Test.YteeofjlohaeinaaXA2
import Derived.Test.YteeofjlohaeinaaXA3
import Derived.Test.YteeofjlohaeinaaXA6
import Derived.Test.YteeofjlohaeinaaEReads02
namespace Go.Proofs.Yteeofjlohaeinaa.XA
open Go.RowKit Go.Proofs.YteeofjlohaeinaaW.PrintWords Go.Proofs.YteeofjlohaeinaaW.PrintLast Go.Proofs.YteeofjlohaeinaaW.PrintMore
attribute [local go_sem] max2_int min2_int max_two min_two max_three min_three max_four min_four   -- for this text's walks alone
set_option linter.unusedVariables false
set_option linter.unusedSimpArgs false

/-! ### pannierlaw02_OctalBlank: function 6 -/
mutual
def pannierlaw02_OctalBlank.j0 : Nat → Int → Int → Bool → Int → Int → Option (Bool)
  | 0, _, _, _, _, _ => none
  | k + 1, x0, x2, x36, x168000, x168001 => if x36 = true then (some true) else (pannierlaw02_OctalBlank.l0 k x0 x2 ([] : List Int) x168000 0 x168000 x168001)
def pannierlaw02_OctalBlank.l0 : Nat → Int → Int → List Int → Int → Int → Int → Int → Option (Bool)
  | 0, _, _, _, _, _, _, _ => none
  | k + 1, x0, x2, x7, x38, x39, x168000, x168001 => if x39 < x38 then (if x7.length < 140737488355328 then (pannierlaw02_OctalBlank.l0 k x0 x2 (x7 ++ [32]) x38 (wrap64 (x39 + 1)) x168000 x168001) else (none)) else ((pannierref02_Octal.f k x0).bind fun t172 => (if x7.length + t172.size < 140737488355328 then (pannierlaw02_OctalBlank.l1 k x0 x2 (x7 ++ bytesOf t172) x168001 0) else (none)))
def pannierlaw02_OctalBlank.l1 : Nat → Int → Int → List Int → Int → Int → Option (Bool)
  | 0, _, _, _, _, _ => none
  | k + 1, x0, x2, x7, x50, x51 => if x51 < x50 then (if x7.length < 140737488355328 then (pannierlaw02_OctalBlank.l1 k x0 x2 (x7 ++ [(wrap64 ((Int.tmod x51 2) * 32)) % 256]) x50 (wrap64 (x51 + 1))) else (none)) else ((octal_Parse.f k x7).bind fun bt179 => ((some (([] : List Int) : List Int)).bind fun y181 => (if y181.length + x7.length < 140737488355328 then ((some (y181 ++ x7 : List Int)).bind fun y184 => ((some (([32, x2] : List Int) : List Int)).bind fun y187 => (if y184.length + y187.length < 140737488355328 then ((octal_Parse.f k (y184 ++ y187)).bind fun bt193 => (if bt179.2 = 0 then (if bt179.1 = x0 then (if x2 = 0 then (some ((bt193.2 == 0) == true)) else (some ((bt193.2 == 0) == (x2 == 32)))) else (some false)) else (some false))) else (none)))) else (none))))
end
def pannierlaw02_OctalBlank.f (k : Nat) (a0 : Int) (a1_0 : Int) (a1_1 : Int) (a2 : Int) : Option (Bool) := (pannierlaw02_reads.f).bind fun t168 => (if t168 = true then (if a0 < 0 then (pannierlaw02_OctalBlank.j0 k a0 a2 true a1_0 a1_1) else (if a1_0 < 0 then (pannierlaw02_OctalBlank.j0 k a0 a2 true a1_0 a1_1) else (if a1_0 > 30 then (pannierlaw02_OctalBlank.j0 k a0 a2 true a1_0 a1_1) else (if a1_1 < 0 then (pannierlaw02_OctalBlank.j0 k a0 a2 true a1_0 a1_1) else (pannierlaw02_OctalBlank.j0 k a0 a2 (decide (a1_1 > 30)) a1_0 a1_1))))) else (some false))
theorem pannierlaw02_OctalBlank.mono_l : ∀ k, (∀ y0 y1 y2 y3 y4, LeO (pannierlaw02_OctalBlank.j0 k y0 y1 y2 y3 y4) (pannierlaw02_OctalBlank.j0 (k + 1) y0 y1 y2 y3 y4)) ∧ (∀ y0 y1 y2 y3 y4 y5 y6, LeO (pannierlaw02_OctalBlank.l0 k y0 y1 y2 y3 y4 y5 y6) (pannierlaw02_OctalBlank.l0 (k + 1) y0 y1 y2 y3 y4 y5 y6)) ∧ (∀ y0 y1 y2 y3 y4, LeO (pannierlaw02_OctalBlank.l1 k y0 y1 y2 y3 y4) (pannierlaw02_OctalBlank.l1 (k + 1) y0 y1 y2 y3 y4))
  | 0 => ⟨fun _ _ _ _ _ r h => by simp [pannierlaw02_OctalBlank.j0] at h, fun _ _ _ _ _ _ _ r h => by simp [pannierlaw02_OctalBlank.l0] at h, fun _ _ _ _ _ r h => by simp [pannierlaw02_OctalBlank.l1] at h⟩
  | k + 1 => by
    obtain ⟨ih0, ih1, ih2⟩ := pannierlaw02_OctalBlank.mono_l k
    refine ⟨?_, ?_, ?_⟩
    · intro y0 y1 y2 y3 y4
      unfold pannierlaw02_OctalBlank.j0
      repeat' first
      | (with_reducible exact ih0 _ _ _ _ _)
      | (with_reducible exact ih1 _ _ _ _ _ _ _)
      | (with_reducible exact ih2 _ _ _ _ _)
      | (with_reducible exact octal_Parse.mono _ _)
      | (with_reducible exact pannierref02_Octal.mono _ _)
      | (with_reducible exact LeO.refl _)
      | (with_reducible exact LeO.none _)
      | (with_reducible refine LeO.ite ?_ ?_)
      | (with_reducible refine LeO.bind ?_ (fun _ => ?_))
      | exact ih0 _ _ _ _ _
      | exact ih1 _ _ _ _ _ _ _
      | exact ih2 _ _ _ _ _
      | exact octal_Parse.mono _ _
      | exact pannierref02_Octal.mono _ _
      | exact LeO.none _
      | refine LeO.ite ?_ ?_
      | refine LeO.bind ?_ (fun _ => ?_)
    · intro y0 y1 y2 y3 y4 y5 y6
      unfold pannierlaw02_OctalBlank.l0
      repeat' first
      | (with_reducible exact ih0 _ _ _ _ _)
      | (with_reducible exact ih1 _ _ _ _ _ _ _)
      | (with_reducible exact ih2 _ _ _ _ _)
      | (with_reducible exact octal_Parse.mono _ _)
      | (with_reducible exact pannierref02_Octal.mono _ _)
      | (with_reducible exact LeO.refl _)
      | (with_reducible exact LeO.none _)
      | (with_reducible refine LeO.ite ?_ ?_)
      | (with_reducible refine LeO.bind ?_ (fun _ => ?_))
      | exact ih0 _ _ _ _ _
      | exact ih1 _ _ _ _ _ _ _
      | exact ih2 _ _ _ _ _
      | exact octal_Parse.mono _ _
      | exact pannierref02_Octal.mono _ _
      | exact LeO.none _
      | refine LeO.ite ?_ ?_
      | refine LeO.bind ?_ (fun _ => ?_)
    · intro y0 y1 y2 y3 y4
      unfold pannierlaw02_OctalBlank.l1
      repeat' first
      | (with_reducible exact ih0 _ _ _ _ _)
      | (with_reducible exact ih1 _ _ _ _ _ _ _)
      | (with_reducible exact ih2 _ _ _ _ _)
      | (with_reducible exact octal_Parse.mono _ _)
      | (with_reducible exact pannierref02_Octal.mono _ _)
      | (with_reducible exact LeO.refl _)
      | (with_reducible exact LeO.none _)
      | (with_reducible refine LeO.ite ?_ ?_)
      | (with_reducible refine LeO.bind ?_ (fun _ => ?_))
      | exact ih0 _ _ _ _ _
      | exact ih1 _ _ _ _ _ _ _
      | exact ih2 _ _ _ _ _
      | exact octal_Parse.mono _ _
      | exact pannierref02_Octal.mono _ _
      | exact LeO.none _
      | refine LeO.ite ?_ ?_
      | refine LeO.bind ?_ (fun _ => ?_)
theorem pannierlaw02_OctalBlank.mono : ∀ a0 a1 a2 a3 k, LeO (pannierlaw02_OctalBlank.f k a0 a1 a2 a3) (pannierlaw02_OctalBlank.f (k + 1) a0 a1 a2 a3) := by
  intro a0 a1 a2 a3 k
  obtain ⟨ih0, ih1, ih2⟩ := pannierlaw02_OctalBlank.mono_l k
  unfold pannierlaw02_OctalBlank.f
  repeat' first
      | (with_reducible exact ih0 _ _ _ _ _)
      | (with_reducible exact ih1 _ _ _ _ _ _ _)
      | (with_reducible exact ih2 _ _ _ _ _)
      | (with_reducible exact octal_Parse.mono _ _)
      | (with_reducible exact pannierref02_Octal.mono _ _)
      | (with_reducible exact LeO.refl _)
      | (with_reducible exact LeO.none _)
      | (with_reducible refine LeO.ite ?_ ?_)
      | (with_reducible refine LeO.bind ?_ (fun _ => ?_))
      | exact ih0 _ _ _ _ _
      | exact ih1 _ _ _ _ _ _ _
      | exact ih2 _ _ _ _ _
      | exact octal_Parse.mono _ _
      | exact pannierref02_Octal.mono _ _
      | exact LeO.none _
      | refine LeO.ite ?_ ?_
      | refine LeO.bind ?_ (fun _ => ?_)
set_option maxHeartbeats 8000000 in
set_option maxRecDepth 100000 in
theorem pannierlaw02_OctalBlank.calls (k : Nat) (a0 : Int) (a1_0 : Int) (a1_1 : Int) (a2 : Int) (r : Bool) (w : World) (h : pannierlaw02_OctalBlank.f k a0 a1_0 a1_1 a2 = some r) :
    Calls Try.prog 6 #[.int .i64 a0, .agg #[.int .i64 a1_0, .int .i64 a1_1], .int .u8 a2] w fun e w' => e = .returned (.bool r) ∧ Below w.heap.size w w' := by
  have hu35 := Try.underlying35
  have HB := Aside0.mk (Below.refl w.heap.size w)
  have H : ((pannierlaw02_reads.f).bind fun t168 => (if t168 = true then (if a0 < 0 then (pannierlaw02_OctalBlank.j0 k a0 a2 true a1_0 a1_1) else (if a1_0 < 0 then (pannierlaw02_OctalBlank.j0 k a0 a2 true a1_0 a1_1) else (if a1_0 > 30 then (pannierlaw02_OctalBlank.j0 k a0 a2 true a1_0 a1_1) else (if a1_1 < 0 then (pannierlaw02_OctalBlank.j0 k a0 a2 true a1_0 a1_1) else (pannierlaw02_OctalBlank.j0 k a0 a2 (decide (a1_1 > 30)) a1_0 a1_1))))) else (some false))) = some r := h
  clear h
  replace H := Option.bind_eq_some_iff.mp H
  obtain ⟨t168, A40, H⟩ := H
  replace H : (if t168 = true then (if a0 < 0 then (pannierlaw02_OctalBlank.j0 k a0 a2 true a1_0 a1_1) else (if a1_0 < 0 then (pannierlaw02_OctalBlank.j0 k a0 a2 true a1_0 a1_1) else (if a1_0 > 30 then (pannierlaw02_OctalBlank.j0 k a0 a2 true a1_0 a1_1) else (if a1_1 < 0 then (pannierlaw02_OctalBlank.j0 k a0 a2 true a1_0 a1_1) else (pannierlaw02_OctalBlank.j0 k a0 a2 (decide (a1_1 > 30)) a1_0 a1_1))))) else (some false)) = some r := H
  have A4 := Aside0.mk A40
  clear A40
  by_cases c5 : t168 = true
  · subst c5
    have H1 : (if a0 < 0 then (pannierlaw02_OctalBlank.j0 k a0 a2 true a1_0 a1_1) else (if a1_0 < 0 then (pannierlaw02_OctalBlank.j0 k a0 a2 true a1_0 a1_1) else (if a1_0 > 30 then (pannierlaw02_OctalBlank.j0 k a0 a2 true a1_0 a1_1) else (if a1_1 < 0 then (pannierlaw02_OctalBlank.j0 k a0 a2 true a1_0 a1_1) else (pannierlaw02_OctalBlank.j0 k a0 a2 (decide (a1_1 > 30)) a1_0 a1_1))))) = some r := by rw [if_pos rfl] at H; exact H
    clear H
    have H := H1
    clear H1
    have HC6 := Aside0.mk H
    clear H
    go_enter Try.func6, Try.ntmps6
    go_upto_region 3 with (first | ((with_reducible refine gate_dst (N := 4) rfl ?_); refine box_event ?hg (N := 4) ?hd (cs := #[.int .i64 a1_0, .int .i64 a1_1]) (t := 35) ?hr ?_; (case hd => rfl); (case hg => rfl); (case hr => first | (go_simp; done) | (go_simp; rfl)); intro gb167 hg w7 hbox hb; have n0_ := Aside0.mk (below_step (by repeat (first | (with_reducible first | exact HB.out | apply below_alloc | apply pw_below_drewN | apply below_drew1) | exact HB.out)) hb); have n1_ := Aside0.mk (hbox); have n2_ := Aside0.mk ((by rw [hg]; exact (below_size (by repeat (first | (with_reducible first | exact HB.out | apply below_alloc | apply pw_below_drewN | apply below_drew1) | exact HB.out))) : w.heap.size ≤ gb167)); have n3_ := Aside0.mk ((by rw [hg]; exact (below_size (by repeat (first | (with_reducible first | exact HB.out | apply below_alloc | apply pw_below_drewN | apply below_drew1) | exact HB.out))) : w.heap.size ≤ gb167)); clear HB; have HB := n0_; have BK167 := n1_; have GW167 := n2_; have GE167 := n3_; clear n0_ n1_ n2_ n3_; clear hb hbox hg) | ((with_reducible refine gate_callee (f := 15) rfl ?_); refine goesL_ (some 13) rfl rfl Try.func15 (by kernel_rfl) rfl #[] rfl (by (try simp only [List.map_toArray, List.map_cons, List.map_nil]); first | done | rfl | (simp only [List.length_drop, List.length_take]; rfl)) ?_; (with_reducible refine (pannierlaw02_reads.calls  true _ A4.out).mono ?_); rintro e w8 ⟨rfl, hb⟩; refine ⟨_, rfl, ?_⟩; have n0_ := Aside0.mk (blk_below (g := gb167) (o := .cells #[.int .i64 a1_0, .int .i64 a1_1] 35 (0, 0)) (by (with_reducible repeat (first | refine blk_drewN ?_ _ | refine blk_drew ?_ | refine blk_alloc ?_ _)); exact BK167.out) hb); have n1_ := Aside0.mk (below_step (by repeat (first | (with_reducible first | exact HB.out | apply below_alloc | apply pw_below_drewN | apply below_drew1 | refine below_set ?_ GE167.out) | exact HB.out)) hb); clear BK167; clear HB; have BK167 := n0_; have HB := n1_; clear n0_ n1_; (try clear hb); (try clear hb2); (try clear hk); (try clear hi)))
    (try simp only [Act.put, List.setIfInBounds_toArray, List.set_cons_zero, List.set_cons_succ])
    go_cut [36] (fun v36 wc => ∃ (kq : Nat) (x36_5 : Bool), v36 = .bool x36_5 ∧ Aside0 (pannierlaw02_OctalBlank.j0 kq a0 a2 x36_5 a1_0 a1_1 = some r) ∧ Aside0 (kq ≤ k) ∧ Aside0 (wc.heap[gb167]? = some (.cells #[.int .i64 a1_0, .int .i64 a1_1] 35 (0, 0))) ∧ Aside0 (Below w.heap.size w wc))
    case first =>
      have H := HC6.out
      clear HC6
      by_cases c9 : a0 < 0
      · rw [if_pos c9] at H
        have c9b0 : decide (a0 < 0) = true := decide_eq_true c9
        clear c9
        (first | rw [c9b0] | (simp only [i64_w, i32_w]; rw [c9b0]) | skip)
        have H' := Aside0.mk H
        clear H
        go_wp2
        go_meet
        case rel => exact ⟨_, (true), (by first | rfl | (simp; done) | (simp [*]; done)), H', ⟨by first | omega | exact Nat.le_refl _⟩, ⟨by (with_reducible repeat (first | refine blk_drewN ?_ _ | refine blk_drew ?_ | refine blk_alloc ?_ _)); exact BK167.out⟩, ⟨by repeat (first | (with_reducible first | exact HB.out | apply below_alloc | apply pw_below_drewN | apply below_drew1 | refine below_set ?_ GE167.out) | exact HB.out)⟩⟩
      · rw [if_neg c9] at H
        have c9b0 : decide (a0 < 0) = false := decide_eq_false c9
        clear c9
        (first | rw [c9b0] | (simp only [i64_w, i32_w]; rw [c9b0]) | skip)
        by_cases c10 : a1_0 < 0
        · rw [if_pos c10] at H
          have c10b0 : decide (a1_0 < 0) = true := decide_eq_true c10
          clear c10
          have H' := Aside0.mk H
          clear H
          have hcz11_0 : w8.cell? ⟨gb167, 0, none⟩ = some (.int .i64 a1_0) := (blk_cell BK167.out 0).trans rfl
          have hcz11_1 : w8.cell? ⟨gb167, 1, none⟩ = some (.int .i64 a1_1) := (blk_cell BK167.out 1).trans rfl
          have hfz11_0 := blk_frozen BK167.out 0
          have hfz11_1 := blk_frozen BK167.out 1
          go_wp2
          go_meet
          case rel => exact ⟨_, (true), (by first | rfl | (simp; done) | (simp [*]; done)), H', ⟨by first | omega | exact Nat.le_refl _⟩, ⟨by (with_reducible repeat (first | refine blk_drewN ?_ _ | refine blk_drew ?_ | refine blk_alloc ?_ _)); exact BK167.out⟩, ⟨by repeat (first | (with_reducible first | exact HB.out | apply below_alloc | apply pw_below_drewN | apply below_drew1 | refine below_set ?_ GE167.out) | exact HB.out)⟩⟩
        · rw [if_neg c10] at H
          have c10b0 : decide (a1_0 < 0) = false := decide_eq_false c10
          clear c10
          by_cases c12 : a1_0 > 30
          · rw [if_pos c12] at H
            have c12b0 : decide (30 < a1_0) = true := decide_eq_true c12
            clear c12
            have H' := Aside0.mk H
            clear H
            have hcz13_0 : w8.cell? ⟨gb167, 0, none⟩ = some (.int .i64 a1_0) := (blk_cell BK167.out 0).trans rfl
            have hcz13_1 : w8.cell? ⟨gb167, 1, none⟩ = some (.int .i64 a1_1) := (blk_cell BK167.out 1).trans rfl
            have hfz13_0 := blk_frozen BK167.out 0
            have hfz13_1 := blk_frozen BK167.out 1
            go_wp2
            go_meet
            case rel => exact ⟨_, (true), (by first | rfl | (simp; done) | (simp [*]; done)), H', ⟨by first | omega | exact Nat.le_refl _⟩, ⟨by (with_reducible repeat (first | refine blk_drewN ?_ _ | refine blk_drew ?_ | refine blk_alloc ?_ _)); exact BK167.out⟩, ⟨by repeat (first | (with_reducible first | exact HB.out | apply below_alloc | apply pw_below_drewN | apply below_drew1 | refine below_set ?_ GE167.out) | exact HB.out)⟩⟩
          · rw [if_neg c12] at H
            have c12b0 : decide (30 < a1_0) = false := decide_eq_false c12
            clear c12
            by_cases c14 : a1_1 < 0
            · rw [if_pos c14] at H
              have c14b0 : decide (a1_1 < 0) = true := decide_eq_true c14
              clear c14
              have H' := Aside0.mk H
              clear H
              have hcz15_0 : w8.cell? ⟨gb167, 0, none⟩ = some (.int .i64 a1_0) := (blk_cell BK167.out 0).trans rfl
              have hcz15_1 : w8.cell? ⟨gb167, 1, none⟩ = some (.int .i64 a1_1) := (blk_cell BK167.out 1).trans rfl
              have hfz15_0 := blk_frozen BK167.out 0
              have hfz15_1 := blk_frozen BK167.out 1
              go_wp2
              go_meet
              case rel => exact ⟨_, (true), (by first | rfl | (simp; done) | (simp [*]; done)), H', ⟨by first | omega | exact Nat.le_refl _⟩, ⟨by (with_reducible repeat (first | refine blk_drewN ?_ _ | refine blk_drew ?_ | refine blk_alloc ?_ _)); exact BK167.out⟩, ⟨by repeat (first | (with_reducible first | exact HB.out | apply below_alloc | apply pw_below_drewN | apply below_drew1 | refine below_set ?_ GE167.out) | exact HB.out)⟩⟩
            · rw [if_neg c14] at H
              have c14b0 : decide (a1_1 < 0) = false := decide_eq_false c14
              clear c14
              have H' := Aside0.mk H
              clear H
              have hcz16_0 : w8.cell? ⟨gb167, 0, none⟩ = some (.int .i64 a1_0) := (blk_cell BK167.out 0).trans rfl
              have hcz16_1 : w8.cell? ⟨gb167, 1, none⟩ = some (.int .i64 a1_1) := (blk_cell BK167.out 1).trans rfl
              have hfz16_0 := blk_frozen BK167.out 0
              have hfz16_1 := blk_frozen BK167.out 1
              go_wp2
              go_meet
              case rel => exact ⟨_, (decide (a1_1 > 30)), (by first | rfl | (simp; done) | (simp [*]; done)), H', ⟨by first | omega | exact Nat.le_refl _⟩, ⟨by (with_reducible repeat (first | refine blk_drewN ?_ _ | refine blk_drew ?_ | refine blk_alloc ?_ _)); exact BK167.out⟩, ⟨by repeat (first | (with_reducible first | exact HB.out | apply below_alloc | apply pw_below_drewN | apply below_drew1 | refine below_set ?_ GE167.out) | exact HB.out)⟩⟩
    case rest =>
      clear HC6
      try clear c1
      try clear p2
      try clear c5
      try clear c6
      try clear c9
      try clear c9b0
      try clear c10
      try clear c10b0
      try clear c12
      try clear c12b0
      try clear c14
      try clear c14b0
      try clear c15
      try clear hcz11_0
      try clear hcz11_1
      try clear hcz13_0
      try clear hcz13_1
      try clear hcz15_0
      try clear hcz15_1
      try clear hcz16_0
      try clear hcz16_1
      try clear hfz11_0
      try clear hfz11_1
      try clear hfz13_0
      try clear hfz13_1
      try clear hfz15_0
      try clear hfz15_1
      try clear hfz16_0
      try clear hfz16_1
      obtain ⟨kq, x36_5, rfl, HA, HJ5, BK167, HB⟩ := hcut
      cases kq with
      | zero => exact absurd HA.out (by simp [pannierlaw02_OctalBlank.j0])
      | succ kj5 =>
        have H := HA.out
        clear HA
        simp only [pannierlaw02_OctalBlank.j0] at H
        by_cases c17 : x36_5 = true
        · subst c17
          have H1 : (some true) = some r := by rw [if_pos rfl] at H; exact H
          clear H
          have H := H1
          clear H1
          obtain rfl := Option.some.inj H
          go_wp2
          go_ret
          exact ⟨by first | rfl | (simp [errW_none, errW_some] <;> rfl) | (simp [*, errW_none, errW_some] <;> rfl), by repeat (first | (with_reducible first | exact HB.out | apply below_alloc | apply pw_below_drewN | apply below_drew1 | refine below_set ?_ GE167.out) | exact HB.out)⟩
        · replace c17 := Bool.eq_false_iff.mpr c17
          subst c17
          have H1 : (pannierlaw02_OctalBlank.l0 kj5 a0 a2 ([] : List Int) a1_0 0 a1_0 a1_1) = some r := by rw [if_neg (show ¬ (false = true) by decide)] at H; exact H
          clear H
          have H := H1
          clear H1
          have H' := Aside0.mk H
          clear H
          have hcz18_0 : wc.cell? ⟨gb167, 0, none⟩ = some (.int .i64 a1_0) := (blk_cell BK167.out 0).trans rfl
          have hcz18_1 : wc.cell? ⟨gb167, 1, none⟩ = some (.int .i64 a1_1) := (blk_cell BK167.out 1).trans rfl
          have hfz18_0 := blk_frozen BK167.out 0
          have hfz18_1 := blk_frozen BK167.out 1
          go_wp2
          go_loopg [7, 39] kj5 (fun kq v7 v39 w' => ∃ (x7_2 : List Int) (x39_2 : Int), v39 = .int .i64 x39_2 ∧ Aside0 (pannierlaw02_OctalBlank.l0 kq a0 a2 x7_2 a1_0 x39_2 a1_0 a1_1 = some r) ∧ Aside0 (kq ≤ kj5) ∧ Aside0 (Kd.R (Kd.int .u8) 5 w' w.heap.size (fun _ => True) v7 x7_2) ∧ Aside0 (w'.heap[gb167]? = some (.cells #[.int .i64 a1_0, .int .i64 a1_1] 35 (0, 0))) ∧ Aside0 (Below w.heap.size w w'))
          case atStart => exact ⟨(([] : List Int)), (0), (by first | rfl | (simp; done) | (simp [*]; done)), H', ⟨Nat.le_refl _⟩, ⟨by first | exact Kd.R_nil _ _ _ _ _ | exact Kd.N_nil _ _ _ _ _ | exact Kd.V_nil _ _ _ _ _ | exact Kd.Q_nil _ _ _ _ _ | exact Kd.S_nil _ _ _ _ _⟩, ⟨by (with_reducible repeat (first | refine blk_drewN ?_ _ | refine blk_drew ?_ | refine blk_alloc ?_ _)); exact BK167.out⟩, ⟨by repeat (first | (with_reducible first | exact HB.out | apply below_alloc | apply pw_below_drewN | apply below_drew1 | refine below_set ?_ GE167.out) | exact HB.out)⟩⟩
          case round =>
            clear H'
            try clear c1
            try clear p2
            try clear c5
            try clear c6
            try clear c9
            try clear c9b0
            try clear c10
            try clear c10b0
            try clear c12
            try clear c12b0
            try clear c14
            try clear c14b0
            try clear c15
            try clear c17
            try clear hcz11_0
            try clear hcz11_1
            try clear hcz13_0
            try clear hcz13_1
            try clear hcz15_0
            try clear hcz15_1
            try clear hcz16_0
            try clear hcz16_1
            try clear hcz18_0
            try clear hcz18_1
            try clear hfz11_0
            try clear hfz11_1
            try clear hfz13_0
            try clear hfz13_1
            try clear hfz15_0
            try clear hfz15_1
            try clear hfz16_0
            try clear hfz16_1
            try clear hfz18_0
            try clear hfz18_1
            try clear p2
            obtain ⟨x7_2, x39_2, rfl, HA, HK2, HO_7, BK167, HB⟩ := hrel
            cases gk with
            | zero => exact absurd HA.out (by simp [pannierlaw02_OctalBlank.l0])
            | succ k2 =>
              have H := HA.out
              clear HA
              simp only [pannierlaw02_OctalBlank.l0] at H
              by_cases c19 : x39_2 < a1_0
              · rw [if_pos c19] at H
                have c19b0 : decide (x39_2 < a1_0) = true := decide_eq_true c19
                clear c19
                by_cases c20 : x7_2.length < 140737488355328
                · rw [if_pos c20] at H
                  have LMc20 := Aside0.mk c20
                  clear c20
                  obtain ⟨y169, hy169⟩ : ∃ y_ : List Int, y_ = (x7_2 ++ [32]) := ⟨_, rfl⟩
                  replace H : (pannierlaw02_OctalBlank.l0 k2 a0 a2 y169 a1_0 (wrap64 (x39_2 + 1)) a1_0 a1_1) = some r := by first | (rw [hy169]; with_reducible exact H) | (have H2_ := (Option.bind_some _ _).symm.trans H; rw [hy169]; with_reducible exact H2_) | (have H2_ := (Option.bind_some _ _).symm.trans H; with_reducible exact H2_) | with_reducible exact H | (rw [hy169]; exact H) | exact H
                  have Ny169 := Aside0.mk hy169
                  clear hy169
                  have H' := Aside0.mk H
                  clear H
                  go_wp2_with (first | ((with_reducible refine gate_builtin (b := .append) (xs := #[.tmp 41, .tmp 42]) rfl ?_); at_builtin; refine Kd.R_append (Kd.int .u8) (w0 := w) w.heap.size rfl (.tmp 41) (.tmp 42) 22 5 (.int .u8 0) 1 rfl Try.underlying22 info5 rfl (by decide) (by omega) u7 x7_2 32 [.int .u8 32] (fun _ => True) (fun _ => False) rfl rfl ?aP (fun _ hk => hk.elim) ?aF ?aO ?aB ?aS ?aL ?_; (case aP => exact rfl); (case aB => exact (by repeat (first | (with_reducible first | exact HB.out | apply below_alloc | apply pw_below_drewN | apply below_drew1 | refine below_set ?_ GE167.out) | exact HB.out))); (case aF => exact (fun _ _ => trivial)); (case aO => exact (by (with_reducible repeat (first | apply Kd.R_alloc | apply Kd.R_drewN | apply Kd.R_drew)); exact HO_7.out)); (case aS => exact (below_size (by repeat (first | (with_reducible first | exact HB.out | apply below_alloc | apply pw_below_drewN | apply below_drew1 | refine below_set ?_ GE167.out) | exact HB.out)))); (case aL => have := LMc20.out; omega); intro v170 w21 ho hb hg hat; rw [← Ny169.out] at ho; have n0_ := Aside0.mk (blk_grown (g := gb167) (o := .cells #[.int .i64 a1_0, .int .i64 a1_1] 35 (0, 0)) (by (with_reducible repeat (first | refine blk_drewN ?_ _ | refine blk_drew ?_ | refine blk_alloc ?_ _)); exact BK167.out) hg (Kd.R_ne HO_7.out BK167.out (by decide))); have n1_ := Aside0.mk (hb); have n2_ := Aside0.mk (ho); clear BK167; clear HB; clear HO_7; have BK167 := n0_; have HB := n1_; have HO171 := n2_; clear n0_ n1_ n2_; clear ho hb hg hat))
                  go_roundg k2
                  case measure => have := HJ5.out; have := HK2.out; omega
                  case rel => exact ⟨(y169), (wrap64 (x39_2 + 1)), (by first | rfl | (simp; done) | (simp [*]; done)), H', ⟨by have := HJ5.out; have := HK2.out; omega⟩, ⟨by (with_reducible repeat (first | apply Kd.R_alloc | apply Kd.R_drewN | apply Kd.R_drew)); exact HO171.out⟩, ⟨by (with_reducible repeat (first | refine blk_drewN ?_ _ | refine blk_drew ?_ | refine blk_alloc ?_ _)); exact BK167.out⟩, ⟨by repeat (first | (with_reducible first | exact HB.out | apply below_alloc | apply pw_below_drewN | apply below_drew1 | refine below_set ?_ GE167.out) | exact HB.out)⟩⟩
                · rw [if_neg c20] at H
                  exact absurd H (by simp)
              · rw [if_neg c19] at H
                have c19b0 : decide (x39_2 < a1_0) = false := decide_eq_false c19
                clear c19
                replace H := Option.bind_eq_some_iff.mp H
                obtain ⟨t172, A220, H⟩ := H
                replace H : (if x7_2.length + t172.size < 140737488355328 then (pannierlaw02_OctalBlank.l1 k2 a0 a2 (x7_2 ++ bytesOf t172) a1_1 0) else (none)) = some r := H
                have A22 := Aside0.mk A220
                clear A220
                by_cases c23 : x7_2.length + t172.size < 140737488355328
                · rw [if_pos c23] at H
                  have LMc23 := Aside0.mk c23
                  clear c23
                  obtain ⟨y173, hy173⟩ : ∃ y_ : List Int, y_ = (x7_2 ++ bytesOf t172) := ⟨_, rfl⟩
                  replace H : (pannierlaw02_OctalBlank.l1 k2 a0 a2 y173 a1_1 0) = some r := by first | (rw [hy173]; with_reducible exact H) | (have H2_ := (Option.bind_some _ _).symm.trans H; rw [hy173]; with_reducible exact H2_) | (have H2_ := (Option.bind_some _ _).symm.trans H; with_reducible exact H2_) | with_reducible exact H | (rw [hy173]; exact H) | exact H
                  have Ny173 := Aside0.mk hy173
                  clear hy173
                  have H' := Aside0.mk H
                  clear H
                  go_wp2_with (first | ((with_reducible refine gate_callee (f := 21) rfl ?_); refine goesL_ (some 47) rfl rfl Try.func21 (by kernel_rfl) rfl #[.int .i64 a0] rfl (by (try simp only [List.map_toArray, List.map_cons, List.map_nil]); first | done | rfl | (simp only [List.length_drop, List.length_take]; rfl)) ?_; (with_reducible refine (pannierref02_Octal.calls k2 a0 t172 _ A22.out).mono ?_); rintro e w24 ⟨rfl, hb⟩; refine ⟨_, rfl, ?_⟩; have n0_ := Aside0.mk (Kd.R_below (by (with_reducible repeat (first | apply Kd.R_alloc | apply Kd.R_drewN | apply Kd.R_drew)); exact HO_7.out) hb); have n1_ := Aside0.mk (blk_below (g := gb167) (o := .cells #[.int .i64 a1_0, .int .i64 a1_1] 35 (0, 0)) (by (with_reducible repeat (first | refine blk_drewN ?_ _ | refine blk_drew ?_ | refine blk_alloc ?_ _)); exact BK167.out) hb); have n2_ := Aside0.mk (below_step (by repeat (first | (with_reducible first | exact HB.out | apply below_alloc | apply pw_below_drewN | apply below_drew1 | refine below_set ?_ GE167.out) | exact HB.out)) hb); clear HO_7; clear BK167; clear HB; have HO_7 := n0_; have BK167 := n1_; have HB := n2_; clear n0_ n1_ n2_; (try clear hb); (try clear hb2); (try clear hk); (try clear hi)) | (at_builtin; refine print_append_str (w0 := w) w.heap.size rfl (.tmp 45) _ 22 9 5 rfl Try.underlying22 Try.underlying9 info5 u7 x7_2 t172 rfl rfl ?aO ?aB ?aS ?aL ?_; (case aB => exact (by repeat (first | (with_reducible first | exact HB.out | apply below_alloc | apply pw_below_drewN | apply below_drew1 | refine below_set ?_ GE167.out) | exact HB.out))); (case aO => exact (Kd.own_of_R (by (with_reducible repeat (first | apply Kd.R_alloc | apply Kd.R_drewN | apply Kd.R_drew)); exact HO_7.out))); (case aS => exact (below_size (by repeat (first | (with_reducible first | exact HB.out | apply below_alloc | apply pw_below_drewN | apply below_drew1 | refine below_set ?_ GE167.out) | exact HB.out)))); (case aL => have := LMc23.out; omega); intro v174 w25 ho0 hb hg; have ho := Kd.R_of_own (h1 := fun _ => rfl) (ok := fun _ => True) ho0 (fun _ _ => trivial); clear ho0; have hat := True.intro; rw [← Ny173.out] at ho; change Kd.R (Kd.int .u8) 5 w25 w.heap.size (fun _ => True) v174 y173 at ho; have n0_ := Aside0.mk (blk_grown (g := gb167) (o := .cells #[.int .i64 a1_0, .int .i64 a1_1] 35 (0, 0)) (by (with_reducible repeat (first | refine blk_drewN ?_ _ | refine blk_drew ?_ | refine blk_alloc ?_ _)); exact BK167.out) hg (Kd.R_ne HO_7.out BK167.out (by decide))); have n1_ := Aside0.mk (hb); have n2_ := Aside0.mk (ho); clear BK167; clear HB; clear HO_7; have BK167 := n0_; have HB := n1_; have HO175 := n2_; clear n0_ n1_ n2_; clear ho hb hg hat; have hcz26_0 : w25.cell? ⟨gb167, 0, none⟩ = some (.int .i64 a1_0) := (blk_cell BK167.out 0).trans rfl; have hcz26_1 : w25.cell? ⟨gb167, 1, none⟩ = some (.int .i64 a1_1) := (blk_cell BK167.out 1).trans rfl; have hfz26_0 := blk_frozen BK167.out 0; have hfz26_1 := blk_frozen BK167.out 1))
                  go_loopg [7, 51] k2 (fun kq v7 v51 w' => ∃ (x7_3 : List Int) (x51_3 : Int), v51 = .int .i64 x51_3 ∧ Aside0 (pannierlaw02_OctalBlank.l1 kq a0 a2 x7_3 a1_1 x51_3 = some r) ∧ Aside0 (kq ≤ k2) ∧ Aside0 (Kd.R (Kd.int .u8) 5 w' w.heap.size (fun _ => True) v7 x7_3) ∧ Aside0 (w'.heap[gb167]? = some (.cells #[.int .i64 a1_0, .int .i64 a1_1] 35 (0, 0))) ∧ Aside0 (Below w.heap.size w w'))
                  case atStart => exact ⟨(y173), (0), (by first | rfl | (simp; done) | (simp [*]; done)), H', ⟨Nat.le_refl _⟩, ⟨by (with_reducible repeat (first | apply Kd.R_alloc | apply Kd.R_drewN | apply Kd.R_drew)); exact HO175.out⟩, ⟨by (with_reducible repeat (first | refine blk_drewN ?_ _ | refine blk_drew ?_ | refine blk_alloc ?_ _)); exact BK167.out⟩, ⟨by repeat (first | (with_reducible first | exact HB.out | apply below_alloc | apply pw_below_drewN | apply below_drew1 | refine below_set ?_ GE167.out) | exact HB.out)⟩⟩
                  case round =>
                    clear H'
                    try clear c1
                    try clear c2
                    try clear p2
                    try clear c5
                    try clear c6
                    try clear p6
                    try clear c9
                    try clear c9b0
                    try clear c10
                    try clear c10b0
                    try clear c12
                    try clear c12b0
                    try clear c14
                    try clear c14b0
                    try clear c15
                    try clear c17
                    try clear c19
                    try clear c19b0
                    try clear c20
                    try clear c21
                    try clear c23
                    try clear hcz11_0
                    try clear hcz11_1
                    try clear hcz13_0
                    try clear hcz13_1
                    try clear hcz15_0
                    try clear hcz15_1
                    try clear hcz16_0
                    try clear hcz16_1
                    try clear hcz18_0
                    try clear hcz18_1
                    try clear hcz26_0
                    try clear hcz26_1
                    try clear hfz11_0
                    try clear hfz11_1
                    try clear hfz13_0
                    try clear hfz13_1
                    try clear hfz15_0
                    try clear hfz15_1
                    try clear hfz16_0
                    try clear hfz16_1
                    try clear hfz18_0
                    try clear hfz18_1
                    try clear hfz26_0
                    try clear hfz26_1
                    try clear p2
                    obtain ⟨x7_3, x51_3, rfl, HA, HK3, HO_7, BK167, HB⟩ := hrel
                    cases gk with
                    | zero => exact absurd HA.out (by simp [pannierlaw02_OctalBlank.l1])
                    | succ k3 =>
                      have H := HA.out
                      clear HA
                      simp only [pannierlaw02_OctalBlank.l1] at H
                      by_cases c27 : x51_3 < a1_1
                      · rw [if_pos c27] at H
                        have c27b0 : decide (x51_3 < a1_1) = true := decide_eq_true c27
                        clear c27
                        by_cases c28 : x7_3.length < 140737488355328
                        · rw [if_pos c28] at H
                          have LMc28 := Aside0.mk c28
                          clear c28
                          obtain ⟨y176, hy176⟩ : ∃ y_ : List Int, y_ = (x7_3 ++ [(wrap64 ((Int.tmod x51_3 2) * 32)) % 256]) := ⟨_, rfl⟩
                          replace H : (pannierlaw02_OctalBlank.l1 k3 a0 a2 y176 a1_1 (wrap64 (x51_3 + 1))) = some r := by first | (rw [hy176]; with_reducible exact H) | (have H2_ := (Option.bind_some _ _).symm.trans H; rw [hy176]; with_reducible exact H2_) | (have H2_ := (Option.bind_some _ _).symm.trans H; with_reducible exact H2_) | with_reducible exact H | (rw [hy176]; exact H) | exact H
                          have Ny176 := Aside0.mk hy176
                          clear hy176
                          have H' := Aside0.mk H
                          clear H
                          go_wp2_with (first | ((with_reducible refine gate_builtin (b := .append) (xs := #[.tmp 54, .tmp 59]) rfl ?_); at_builtin; refine Kd.R_append (Kd.int .u8) (w0 := w) w.heap.size rfl (.tmp 54) (.tmp 59) 22 5 (.int .u8 0) 1 rfl Try.underlying22 info5 rfl (by decide) (by omega) u7 x7_3 ((wrap64 ((Int.tmod x51_3 2) * 32)) % 256) [.int .u8 ((wrap64 ((Int.tmod x51_3 2) * 32)) % 256)] (fun _ => True) (fun _ => False) rfl rfl ?aP (fun _ hk => hk.elim) ?aF ?aO ?aB ?aS ?aL ?_; (case aP => exact rfl); (case aB => exact (by repeat (first | (with_reducible first | exact HB.out | apply below_alloc | apply pw_below_drewN | apply below_drew1 | refine below_set ?_ GE167.out) | exact HB.out))); (case aF => exact (fun _ _ => trivial)); (case aO => exact (by (with_reducible repeat (first | apply Kd.R_alloc | apply Kd.R_drewN | apply Kd.R_drew)); exact HO_7.out)); (case aS => exact (below_size (by repeat (first | (with_reducible first | exact HB.out | apply below_alloc | apply pw_below_drewN | apply below_drew1 | refine below_set ?_ GE167.out) | exact HB.out)))); (case aL => have := LMc28.out; omega); intro v177 w29 ho hb hg hat; rw [← Ny176.out] at ho; have n0_ := Aside0.mk (blk_grown (g := gb167) (o := .cells #[.int .i64 a1_0, .int .i64 a1_1] 35 (0, 0)) (by (with_reducible repeat (first | refine blk_drewN ?_ _ | refine blk_drew ?_ | refine blk_alloc ?_ _)); exact BK167.out) hg (Kd.R_ne HO_7.out BK167.out (by decide))); have n1_ := Aside0.mk (hb); have n2_ := Aside0.mk (ho); clear BK167; clear HB; clear HO_7; have BK167 := n0_; have HB := n1_; have HO178 := n2_; clear n0_ n1_ n2_; clear ho hb hg hat))
                          go_roundg k3
                          case measure => have := HJ5.out; have := HK2.out; have := HK3.out; omega
                          case rel => exact ⟨(y176), (wrap64 (x51_3 + 1)), (by first | rfl | (simp; done) | (simp [*]; done)), H', ⟨by have := HJ5.out; have := HK2.out; have := HK3.out; omega⟩, ⟨by (with_reducible repeat (first | apply Kd.R_alloc | apply Kd.R_drewN | apply Kd.R_drew)); exact HO178.out⟩, ⟨by (with_reducible repeat (first | refine blk_drewN ?_ _ | refine blk_drew ?_ | refine blk_alloc ?_ _)); exact BK167.out⟩, ⟨by repeat (first | (with_reducible first | exact HB.out | apply below_alloc | apply pw_below_drewN | apply below_drew1 | refine below_set ?_ GE167.out) | exact HB.out)⟩⟩
                        · rw [if_neg c28] at H
                          exact absurd H (by simp)
                      · rw [if_neg c27] at H
                        have c27b0 : decide (x51_3 < a1_1) = false := decide_eq_false c27
                        clear c27
                        replace H := Option.bind_eq_some_iff.mp H
                        obtain ⟨⟨t179, t180⟩, A300, H⟩ := H
                        replace H : ((some (([] : List Int) : List Int)).bind fun y181 => (if y181.length + x7_3.length < 140737488355328 then ((some (y181 ++ x7_3 : List Int)).bind fun y184 => ((some (([32, a2] : List Int) : List Int)).bind fun y187 => (if y184.length + y187.length < 140737488355328 then ((octal_Parse.f k3 (y184 ++ y187)).bind fun bt193 => (if t180 = 0 then (if t179 = a0 then (if a2 = 0 then (some ((bt193.2 == 0) == true)) else (some ((bt193.2 == 0) == (a2 == 32)))) else (some false)) else (some false))) else (none)))) else (none))) = some r := H
                        have A30 := Aside0.mk A300
                        clear A300
                        obtain ⟨y181, hy181⟩ : ∃ y_ : List Int, y_ = (([] : List Int)) := ⟨_, rfl⟩
                        replace H : (if y181.length + x7_3.length < 140737488355328 then ((some (y181 ++ x7_3 : List Int)).bind fun y184 => ((some (([32, a2] : List Int) : List Int)).bind fun y187 => (if y184.length + y187.length < 140737488355328 then ((octal_Parse.f k3 (y184 ++ y187)).bind fun bt193 => (if t180 = 0 then (if t179 = a0 then (if a2 = 0 then (some ((bt193.2 == 0) == true)) else (some ((bt193.2 == 0) == (a2 == 32)))) else (some false)) else (some false))) else (none)))) else (none)) = some r := by first | (rw [hy181]; with_reducible exact H) | (have H2_ := (Option.bind_some _ _).symm.trans H; rw [hy181]; with_reducible exact H2_) | (have H2_ := (Option.bind_some _ _).symm.trans H; with_reducible exact H2_) | with_reducible exact H | (rw [hy181]; exact H) | exact H
                        have Ny181 := Aside0.mk hy181
                        clear hy181
                        by_cases c31 : y181.length + x7_3.length < 140737488355328
                        · rw [if_pos c31] at H
                          have LMc31 := Aside0.mk c31
                          clear c31
                          obtain ⟨y184, hy184⟩ : ∃ y_ : List Int, y_ = (y181 ++ x7_3) := ⟨_, rfl⟩
                          replace H : ((some (([32, a2] : List Int) : List Int)).bind fun y187 => (if y184.length + y187.length < 140737488355328 then ((octal_Parse.f k3 (y184 ++ y187)).bind fun bt193 => (if t180 = 0 then (if t179 = a0 then (if a2 = 0 then (some ((bt193.2 == 0) == true)) else (some ((bt193.2 == 0) == (a2 == 32)))) else (some false)) else (some false))) else (none))) = some r := by first | (rw [hy184]; with_reducible exact H) | (have H2_ := (Option.bind_some _ _).symm.trans H; rw [hy184]; with_reducible exact H2_) | (have H2_ := (Option.bind_some _ _).symm.trans H; with_reducible exact H2_) | with_reducible exact H | (rw [hy184]; exact H) | exact H
                          have Ny184 := Aside0.mk hy184
                          clear hy184
                          obtain ⟨y187, hy187⟩ : ∃ y_ : List Int, y_ = (([32, a2] : List Int)) := ⟨_, rfl⟩
                          replace H : (if y184.length + y187.length < 140737488355328 then ((octal_Parse.f k3 (y184 ++ y187)).bind fun bt193 => (if t180 = 0 then (if t179 = a0 then (if a2 = 0 then (some ((bt193.2 == 0) == true)) else (some ((bt193.2 == 0) == (a2 == 32)))) else (some false)) else (some false))) else (none)) = some r := by first | (rw [hy187]; with_reducible exact H) | (have H2_ := (Option.bind_some _ _).symm.trans H; rw [hy187]; with_reducible exact H2_) | (have H2_ := (Option.bind_some _ _).symm.trans H; with_reducible exact H2_) | with_reducible exact H | (rw [hy187]; exact H) | exact H
                          have Ny187 := Aside0.mk hy187
                          clear hy187
                          by_cases c32 : y184.length + y187.length < 140737488355328
                          · rw [if_pos c32] at H
                            have LMc32 := Aside0.mk c32
                            clear c32
                            obtain ⟨y190, hy190⟩ : ∃ y_ : List Int, y_ = (y184 ++ y187) := ⟨_, rfl⟩
                            replace H : ((octal_Parse.f k3 y190).bind fun bt193 => (if t180 = 0 then (if t179 = a0 then (if a2 = 0 then (some ((bt193.2 == 0) == true)) else (some ((bt193.2 == 0) == (a2 == 32)))) else (some false)) else (some false))) = some r := by first | (rw [hy190]; with_reducible exact H) | (have H2_ := (Option.bind_some _ _).symm.trans H; rw [hy190]; with_reducible exact H2_) | (have H2_ := (Option.bind_some _ _).symm.trans H; with_reducible exact H2_) | with_reducible exact H | (rw [hy190]; exact H) | exact H
                            have Ny190 := Aside0.mk hy190
                            clear hy190
                            replace H := Option.bind_eq_some_iff.mp H
                            obtain ⟨⟨t193, t194⟩, A330, H⟩ := H
                            replace H : (if t180 = 0 then (if t179 = a0 then (if a2 = 0 then (some ((t194 == 0) == true)) else (some ((t194 == 0) == (a2 == 32)))) else (some false)) else (some false)) = some r := H
                            have A33 := Aside0.mk A330
                            clear A330
                            by_cases c34 : t180 = 0
                            · rw [if_pos c34] at H
                              have c34b0 : (t180 == 0) = true := beq_iff_eq.mpr c34
                              have c34b1 : (t180 != 0) = false := bne_eq_false_iff_eq.mpr c34
                              clear c34
                              by_cases c35 : t179 = a0
                              · rw [if_pos c35] at H
                                have c35b0 : (t179 == a0) = true := beq_iff_eq.mpr c35
                                have c35b1 : (t179 != a0) = false := bne_eq_false_iff_eq.mpr c35
                                clear c35
                                by_cases c36 : a2 = 0
                                · rw [if_pos c36] at H
                                  have c36b0 : (a2 == 0) = true := beq_iff_eq.mpr c36
                                  have c36b1 : (a2 != 0) = false := bne_eq_false_iff_eq.mpr c36
                                  clear c36
                                  obtain rfl := Option.some.inj H
                                  obtain ⟨Ao37, co37, eo37⟩ := Kd.R_slice HO_7.out
                                  subst eo37
                                  go_wp2_with (first | ((with_reducible refine gate_callee (f := 16) rfl ?_); refine goesL_ (some 64) rfl rfl Try.func16 (by kernel_rfl) rfl #[.slice Ao37 x7_3.length co37] rfl (by (try simp only [List.map_toArray, List.map_cons, List.map_nil]); first | done | rfl | (simp only [List.length_drop, List.length_take]; rfl)) ?_; (with_reducible refine (octal_Parse.calls k3 _ _ x7_3 t179 t180 _ ?side1 ?side2 A30.out).mono ?_); (case side1 => repeat (first | exact (Kd.R_reads' HO_7.out).2.2 | (with_reducible refine Kd.C_alloc ?_ _) | (with_reducible refine Kd.C_drewN ?_ _) | (with_reducible refine Kd.C_drew ?_))); (case side2 => exact (Kd.R_reads' HO_7.out).2.1); rintro e w' ⟨rfl, ⟨nd, rfl⟩⟩; refine ⟨_, rfl, ?_⟩) | ((with_reducible refine gate_dst (N := 68) rfl ?_); refine Kd.R_lit (Kd.int .u8) _ 5 ?hg (N := 68) ?hd (xs := ([] : List Int)) (inner := []) (ok := fun _ => True) (okp := fun _ => True) ?hr ?hp (fun _ hk => hk) trivial (Below.refl _ _) (Nat.le_refl _) (by simp) ?_; (case hd => rfl); (case hg => rfl); (case hr => first | (go_simp; done) | (go_simp; rfl)); (case hp => exact (Reps.none _ _)); intro v182 w38 ho39 hb hg_ hnew_; clear hg_ hnew_; (first | rw [← Ny181.out] at ho39 | (simp only [Int.reduceToNat] at ho39; rw [← Ny181.out] at ho39)); have n0_ := Aside0.mk (Kd.R_elder' (by (with_reducible repeat (first | apply Kd.R_alloc | apply Kd.R_drewN | apply Kd.R_drew)); exact HO_7.out) (Kd.R_base ho39) hb); have n1_ := Aside0.mk (Kd.R_lower (Kd.R_new' ho39 (Kd.R_lt (by (with_reducible repeat (first | apply Kd.R_alloc | apply Kd.R_drewN | apply Kd.R_drew)); exact HO_7.out))) (below_size (by repeat (first | (with_reducible first | exact HB.out | apply below_alloc | apply pw_below_drewN | apply below_drew1 | refine below_set ?_ GE167.out) | exact HB.out)))); have n2_ := Aside0.mk (blk_below (g := gb167) (o := .cells #[.int .i64 a1_0, .int .i64 a1_1] 35 (0, 0)) (by (with_reducible repeat (first | refine blk_drewN ?_ _ | refine blk_drew ?_ | refine blk_alloc ?_ _)); exact BK167.out) hb); have n3_ := Aside0.mk (below_step (by repeat (first | (with_reducible first | exact HB.out | apply below_alloc | apply pw_below_drewN | apply below_drew1 | refine below_set ?_ GE167.out) | exact HB.out)) hb); clear HO_7; clear BK167; clear HB; have HO_7 := n0_; have HO183 := n1_; have BK167 := n2_; have HB := n3_; clear n0_ n1_ n2_ n3_; clear hb ho39) | ((with_reducible refine gate_builtin (b := .append) (xs := #[.tmp 68, .tmp 69]) rfl ?_); at_builtin; refine Kd.R_append_rows (Kd.int .u8) (w0 := w) w.heap.size rfl (.tmp 68) (.tmp 69) 22 5 (.int .u8 0) 1 rfl Try.underlying22 info5 rfl (by decide) (by omega) v182 y181 x7_3 _ _ _ (fun k_ => some k_ ≠ (.slice Ao37 x7_3.length co37 : Value).ownBlock) (fun _ => False) rfl rfl ?aO ?aR (fun _ _ h => h) (fun _ h => h.elim) ?aF ?aB ?aS ?aL ?_; (case aR => repeat (first | exact (Kd.R_reads' HO_7.out).2.2 | (with_reducible refine Kd.C_alloc ?_ _) | (with_reducible refine Kd.C_drewN ?_ _) | (with_reducible refine Kd.C_drew ?_))); (case aB => exact (by repeat (first | (with_reducible first | exact HB.out | apply below_alloc | apply pw_below_drewN | apply below_drew1 | refine below_set ?_ GE167.out) | exact HB.out))); (case aF => exact (fun k_ hk => Kd.fresh' (Kd.R_lt (by (with_reducible repeat (first | apply Kd.R_alloc | apply Kd.R_drewN | apply Kd.R_drew)); exact HO_7.out)) k_ hk)); (case aO => exact (by (with_reducible repeat (first | apply Kd.R_alloc | apply Kd.R_drewN | apply Kd.R_drew)); exact Kd.R_mono HO183.out (fun _ hk => hk.2))); (case aS => exact (below_size (by repeat (first | (with_reducible first | exact HB.out | apply below_alloc | apply pw_below_drewN | apply below_drew1 | refine below_set ?_ GE167.out) | exact HB.out)))); (case aL => have := LMc31.out; omega); intro v185 w40 ho hb hg hat; rw [← Ny184.out] at ho; have n0_ := Aside0.mk (Kd.R_after (ok := (fun _ => True)) (by (with_reducible repeat (first | apply Kd.R_alloc | apply Kd.R_drewN | apply Kd.R_drew)); exact HO_7.out) hg hat); have n1_ := Aside0.mk (blk_grown (g := gb167) (o := .cells #[.int .i64 a1_0, .int .i64 a1_1] 35 (0, 0)) (by (with_reducible repeat (first | refine blk_drewN ?_ _ | refine blk_drew ?_ | refine blk_alloc ?_ _)); exact BK167.out) hg (Kd.R_ne HO183.out BK167.out (by decide))); have n2_ := Aside0.mk (hb); have n3_ := Aside0.mk (ho); clear HO_7; clear BK167; clear HB; clear HO183; have HO_7 := n0_; have BK167 := n1_; have HB := n2_; have HO186 := n3_; clear n0_ n1_ n2_ n3_; clear ho hb hg hat) | ((with_reducible refine gate_dst (N := 72) rfl ?_); refine Kd.R_lit (Kd.int .u8) _ 5 ?hg (N := 72) ?hd (xs := ([32, a2] : List Int)) (inner := [.int .u8 32, .int .u8 a2]) (ok := fun _ => True) (okp := fun _ => True) ?hr ?hp (fun _ hk => hk) trivial (Below.refl _ _) (Nat.le_refl _) (by simp) ?_; (case hd => rfl); (case hg => rfl); (case hr => first | (go_simp; done) | (go_simp; rfl)); (case hp => exact (Reps.one (show Kd.M (Kd.int .u8) _ _ _ 32 [.int .u8 32] from rfl) (Reps.one (show Kd.M (Kd.int .u8) _ _ _ a2 [.int .u8 a2] from rfl) (Reps.none _ _)))); intro v188 w41 ho42 hb hg_ hnew_; clear hg_ hnew_; (first | rw [← Ny187.out] at ho42 | (simp only [Int.reduceToNat] at ho42; rw [← Ny187.out] at ho42)); have n0_ := Aside0.mk (Kd.R_elder' (by (with_reducible repeat (first | apply Kd.R_alloc | apply Kd.R_drewN | apply Kd.R_drew)); exact HO_7.out) (Kd.R_base ho42) hb); have n1_ := Aside0.mk (Kd.R_elder' (by (with_reducible repeat (first | apply Kd.R_alloc | apply Kd.R_drewN | apply Kd.R_drew)); exact HO186.out) (Kd.R_base ho42) hb); have n2_ := Aside0.mk (Kd.R_lower (Kd.R_new' (Kd.R_new' ho42 (Kd.R_lt (by (with_reducible repeat (first | apply Kd.R_alloc | apply Kd.R_drewN | apply Kd.R_drew)); exact HO_7.out))) (Kd.R_lt (by (with_reducible repeat (first | apply Kd.R_alloc | apply Kd.R_drewN | apply Kd.R_drew)); exact HO186.out))) (below_size (by repeat (first | (with_reducible first | exact HB.out | apply below_alloc | apply pw_below_drewN | apply below_drew1 | refine below_set ?_ GE167.out) | exact HB.out)))); have n3_ := Aside0.mk (blk_below (g := gb167) (o := .cells #[.int .i64 a1_0, .int .i64 a1_1] 35 (0, 0)) (by (with_reducible repeat (first | refine blk_drewN ?_ _ | refine blk_drew ?_ | refine blk_alloc ?_ _)); exact BK167.out) hb); have n4_ := Aside0.mk (below_step (by repeat (first | (with_reducible first | exact HB.out | apply below_alloc | apply pw_below_drewN | apply below_drew1 | refine below_set ?_ GE167.out) | exact HB.out)) hb); clear HO_7; clear HO186; clear BK167; clear HB; have HO_7 := n0_; have HO186 := n1_; have HO189 := n2_; have BK167 := n3_; have HB := n4_; clear n0_ n1_ n2_ n3_ n4_; clear hb ho42; obtain ⟨Ao44, co44, eo44⟩ := Kd.R_slice HO189.out; subst eo44) | ((with_reducible refine gate_builtin (b := .append) (xs := #[.tmp 70, .tmp 72]) rfl ?_); at_builtin; refine Kd.R_append_rows (Kd.int .u8) (w0 := w) w.heap.size rfl (.tmp 70) (.tmp 72) 22 5 (.int .u8 0) 1 rfl Try.underlying22 info5 rfl (by decide) (by omega) v185 y184 y187 _ _ _ (fun k_ => some k_ ≠ (.slice Ao37 x7_3.length co37 : Value).ownBlock ∧ some k_ ≠ (.slice Ao44 y187.length co44 : Value).ownBlock) (fun _ => False) rfl rfl ?aO ?aR (fun _ _ h => h) (fun _ h => h.elim) ?aF ?aB ?aS ?aL ?_; (case aR => repeat (first | exact (Kd.R_reads' HO189.out).2.2 | (with_reducible refine Kd.C_alloc ?_ _) | (with_reducible refine Kd.C_drewN ?_ _) | (with_reducible refine Kd.C_drew ?_))); (case aB => exact (by repeat (first | (with_reducible first | exact HB.out | apply below_alloc | apply pw_below_drewN | apply below_drew1 | refine below_set ?_ GE167.out) | exact HB.out))); (case aF => exact (fun k_ hk => ⟨Kd.fresh' (Kd.R_lt (by (with_reducible repeat (first | apply Kd.R_alloc | apply Kd.R_drewN | apply Kd.R_drew)); exact HO_7.out)) k_ hk, Kd.fresh' (Kd.R_lt (by (with_reducible repeat (first | apply Kd.R_alloc | apply Kd.R_drewN | apply Kd.R_drew)); exact HO189.out)) k_ hk⟩)); (case aO => exact (by (with_reducible repeat (first | apply Kd.R_alloc | apply Kd.R_drewN | apply Kd.R_drew)); exact HO186.out)); (case aS => exact (below_size (by repeat (first | (with_reducible first | exact HB.out | apply below_alloc | apply pw_below_drewN | apply below_drew1 | refine below_set ?_ GE167.out) | exact HB.out)))); (case aL => have := LMc32.out; omega); intro v191 w43 ho hb hg hat; rw [← Ny190.out] at ho; have n0_ := Aside0.mk (Kd.R_after (ok := (fun k_ => some k_ ≠ (.slice Ao44 y187.length co44 : Value).ownBlock)) (by (with_reducible repeat (first | apply Kd.R_alloc | apply Kd.R_drewN | apply Kd.R_drew)); exact Kd.R_mono HO_7.out (fun _ hk => ⟨hk.2, hk.1.2⟩)) hg hat); have n1_ := Aside0.mk (blk_grown (g := gb167) (o := .cells #[.int .i64 a1_0, .int .i64 a1_1] 35 (0, 0)) (by (with_reducible repeat (first | refine blk_drewN ?_ _ | refine blk_drew ?_ | refine blk_alloc ?_ _)); exact BK167.out) hg (Kd.R_ne HO186.out BK167.out (by decide))); have n2_ := Aside0.mk (Kd.R_after (ok := (fun k_ => some k_ ≠ (.slice Ao37 x7_3.length co37 : Value).ownBlock)) (by (with_reducible repeat (first | apply Kd.R_alloc | apply Kd.R_drewN | apply Kd.R_drew)); exact Kd.R_mono HO189.out (fun _ hk => ⟨hk.1.2, hk.2⟩)) hg hat); have n3_ := Aside0.mk (hb); have n4_ := Aside0.mk (ho); clear HO_7; clear BK167; clear HO189; clear HB; clear HO186; have HO_7 := n0_; have BK167 := n1_; have HO189 := n2_; have HB := n3_; have HO192 := n4_; clear n0_ n1_ n2_ n3_ n4_; clear ho hb hg hat; obtain ⟨Ao45, co45, eo45⟩ := Kd.R_slice HO192.out; subst eo45) | ((with_reducible refine gate_callee (f := 16) rfl ?_); refine goesL_ (some 74) rfl rfl Try.func16 (by kernel_rfl) rfl #[.slice Ao45 y190.length co45] rfl (by (try simp only [List.map_toArray, List.map_cons, List.map_nil]); first | done | rfl | (simp only [List.length_drop, List.length_take]; rfl)) ?_; (with_reducible refine (octal_Parse.calls k3 _ _ y190 t193 t194 _ ?side1 ?side2 A33.out).mono ?_); (case side1 => repeat (first | exact (Kd.R_reads' HO192.out).2.2 | (with_reducible refine Kd.C_alloc ?_ _) | (with_reducible refine Kd.C_drewN ?_ _) | (with_reducible refine Kd.C_drew ?_))); (case side2 => exact (Kd.R_reads' HO192.out).2.1); rintro e w' ⟨rfl, ⟨nd, rfl⟩⟩; refine ⟨_, rfl, ?_⟩))
                                  go_ret
                                  exact ⟨by first | rfl | (simp [errW_none, errW_some] <;> rfl) | (simp [*, errW_none, errW_some] <;> rfl), by repeat (first | (with_reducible first | exact HB.out | apply below_alloc | apply pw_below_drewN | apply below_drew1 | refine below_set ?_ GE167.out) | exact HB.out)⟩
                                · rw [if_neg c36] at H
                                  have c36b0 : (a2 == 0) = false := beq_eq_false_iff_ne.mpr c36
                                  have c36b1 : (a2 != 0) = true := bne_iff_ne.mpr c36
                                  obtain rfl := Option.some.inj H
                                  obtain ⟨Ao46, co46, eo46⟩ := Kd.R_slice HO_7.out
                                  subst eo46
                                  go_wp2_with (first | ((with_reducible refine gate_callee (f := 16) rfl ?_); refine goesL_ (some 64) rfl rfl Try.func16 (by kernel_rfl) rfl #[.slice Ao46 x7_3.length co46] rfl (by (try simp only [List.map_toArray, List.map_cons, List.map_nil]); first | done | rfl | (simp only [List.length_drop, List.length_take]; rfl)) ?_; (with_reducible refine (octal_Parse.calls k3 _ _ x7_3 t179 t180 _ ?side1 ?side2 A30.out).mono ?_); (case side1 => repeat (first | exact (Kd.R_reads' HO_7.out).2.2 | (with_reducible refine Kd.C_alloc ?_ _) | (with_reducible refine Kd.C_drewN ?_ _) | (with_reducible refine Kd.C_drew ?_))); (case side2 => exact (Kd.R_reads' HO_7.out).2.1); rintro e w' ⟨rfl, ⟨nd, rfl⟩⟩; refine ⟨_, rfl, ?_⟩) | ((with_reducible refine gate_dst (N := 68) rfl ?_); refine Kd.R_lit (Kd.int .u8) _ 5 ?hg (N := 68) ?hd (xs := ([] : List Int)) (inner := []) (ok := fun _ => True) (okp := fun _ => True) ?hr ?hp (fun _ hk => hk) trivial (Below.refl _ _) (Nat.le_refl _) (by simp) ?_; (case hd => rfl); (case hg => rfl); (case hr => first | (go_simp; done) | (go_simp; rfl)); (case hp => exact (Reps.none _ _)); intro v182 w47 ho48 hb hg_ hnew_; clear hg_ hnew_; (first | rw [← Ny181.out] at ho48 | (simp only [Int.reduceToNat] at ho48; rw [← Ny181.out] at ho48)); have n0_ := Aside0.mk (Kd.R_elder' (by (with_reducible repeat (first | apply Kd.R_alloc | apply Kd.R_drewN | apply Kd.R_drew)); exact HO_7.out) (Kd.R_base ho48) hb); have n1_ := Aside0.mk (Kd.R_lower (Kd.R_new' ho48 (Kd.R_lt (by (with_reducible repeat (first | apply Kd.R_alloc | apply Kd.R_drewN | apply Kd.R_drew)); exact HO_7.out))) (below_size (by repeat (first | (with_reducible first | exact HB.out | apply below_alloc | apply pw_below_drewN | apply below_drew1 | refine below_set ?_ GE167.out) | exact HB.out)))); have n2_ := Aside0.mk (blk_below (g := gb167) (o := .cells #[.int .i64 a1_0, .int .i64 a1_1] 35 (0, 0)) (by (with_reducible repeat (first | refine blk_drewN ?_ _ | refine blk_drew ?_ | refine blk_alloc ?_ _)); exact BK167.out) hb); have n3_ := Aside0.mk (below_step (by repeat (first | (with_reducible first | exact HB.out | apply below_alloc | apply pw_below_drewN | apply below_drew1 | refine below_set ?_ GE167.out) | exact HB.out)) hb); clear HO_7; clear BK167; clear HB; have HO_7 := n0_; have HO183 := n1_; have BK167 := n2_; have HB := n3_; clear n0_ n1_ n2_ n3_; clear hb ho48) | ((with_reducible refine gate_builtin (b := .append) (xs := #[.tmp 68, .tmp 69]) rfl ?_); at_builtin; refine Kd.R_append_rows (Kd.int .u8) (w0 := w) w.heap.size rfl (.tmp 68) (.tmp 69) 22 5 (.int .u8 0) 1 rfl Try.underlying22 info5 rfl (by decide) (by omega) v182 y181 x7_3 _ _ _ (fun k_ => some k_ ≠ (.slice Ao46 x7_3.length co46 : Value).ownBlock) (fun _ => False) rfl rfl ?aO ?aR (fun _ _ h => h) (fun _ h => h.elim) ?aF ?aB ?aS ?aL ?_; (case aR => repeat (first | exact (Kd.R_reads' HO_7.out).2.2 | (with_reducible refine Kd.C_alloc ?_ _) | (with_reducible refine Kd.C_drewN ?_ _) | (with_reducible refine Kd.C_drew ?_))); (case aB => exact (by repeat (first | (with_reducible first | exact HB.out | apply below_alloc | apply pw_below_drewN | apply below_drew1 | refine below_set ?_ GE167.out) | exact HB.out))); (case aF => exact (fun k_ hk => Kd.fresh' (Kd.R_lt (by (with_reducible repeat (first | apply Kd.R_alloc | apply Kd.R_drewN | apply Kd.R_drew)); exact HO_7.out)) k_ hk)); (case aO => exact (by (with_reducible repeat (first | apply Kd.R_alloc | apply Kd.R_drewN | apply Kd.R_drew)); exact Kd.R_mono HO183.out (fun _ hk => hk.2))); (case aS => exact (below_size (by repeat (first | (with_reducible first | exact HB.out | apply below_alloc | apply pw_below_drewN | apply below_drew1 | refine below_set ?_ GE167.out) | exact HB.out)))); (case aL => have := LMc31.out; omega); intro v185 w49 ho hb hg hat; rw [← Ny184.out] at ho; have n0_ := Aside0.mk (Kd.R_after (ok := (fun _ => True)) (by (with_reducible repeat (first | apply Kd.R_alloc | apply Kd.R_drewN | apply Kd.R_drew)); exact HO_7.out) hg hat); have n1_ := Aside0.mk (blk_grown (g := gb167) (o := .cells #[.int .i64 a1_0, .int .i64 a1_1] 35 (0, 0)) (by (with_reducible repeat (first | refine blk_drewN ?_ _ | refine blk_drew ?_ | refine blk_alloc ?_ _)); exact BK167.out) hg (Kd.R_ne HO183.out BK167.out (by decide))); have n2_ := Aside0.mk (hb); have n3_ := Aside0.mk (ho); clear HO_7; clear BK167; clear HB; clear HO183; have HO_7 := n0_; have BK167 := n1_; have HB := n2_; have HO186 := n3_; clear n0_ n1_ n2_ n3_; clear ho hb hg hat) | ((with_reducible refine gate_dst (N := 72) rfl ?_); refine Kd.R_lit (Kd.int .u8) _ 5 ?hg (N := 72) ?hd (xs := ([32, a2] : List Int)) (inner := [.int .u8 32, .int .u8 a2]) (ok := fun _ => True) (okp := fun _ => True) ?hr ?hp (fun _ hk => hk) trivial (Below.refl _ _) (Nat.le_refl _) (by simp) ?_; (case hd => rfl); (case hg => rfl); (case hr => first | (go_simp; done) | (go_simp; rfl)); (case hp => exact (Reps.one (show Kd.M (Kd.int .u8) _ _ _ 32 [.int .u8 32] from rfl) (Reps.one (show Kd.M (Kd.int .u8) _ _ _ a2 [.int .u8 a2] from rfl) (Reps.none _ _)))); intro v188 w50 ho51 hb hg_ hnew_; clear hg_ hnew_; (first | rw [← Ny187.out] at ho51 | (simp only [Int.reduceToNat] at ho51; rw [← Ny187.out] at ho51)); have n0_ := Aside0.mk (Kd.R_elder' (by (with_reducible repeat (first | apply Kd.R_alloc | apply Kd.R_drewN | apply Kd.R_drew)); exact HO_7.out) (Kd.R_base ho51) hb); have n1_ := Aside0.mk (Kd.R_elder' (by (with_reducible repeat (first | apply Kd.R_alloc | apply Kd.R_drewN | apply Kd.R_drew)); exact HO186.out) (Kd.R_base ho51) hb); have n2_ := Aside0.mk (Kd.R_lower (Kd.R_new' (Kd.R_new' ho51 (Kd.R_lt (by (with_reducible repeat (first | apply Kd.R_alloc | apply Kd.R_drewN | apply Kd.R_drew)); exact HO_7.out))) (Kd.R_lt (by (with_reducible repeat (first | apply Kd.R_alloc | apply Kd.R_drewN | apply Kd.R_drew)); exact HO186.out))) (below_size (by repeat (first | (with_reducible first | exact HB.out | apply below_alloc | apply pw_below_drewN | apply below_drew1 | refine below_set ?_ GE167.out) | exact HB.out)))); have n3_ := Aside0.mk (blk_below (g := gb167) (o := .cells #[.int .i64 a1_0, .int .i64 a1_1] 35 (0, 0)) (by (with_reducible repeat (first | refine blk_drewN ?_ _ | refine blk_drew ?_ | refine blk_alloc ?_ _)); exact BK167.out) hb); have n4_ := Aside0.mk (below_step (by repeat (first | (with_reducible first | exact HB.out | apply below_alloc | apply pw_below_drewN | apply below_drew1 | refine below_set ?_ GE167.out) | exact HB.out)) hb); clear HO_7; clear HO186; clear BK167; clear HB; have HO_7 := n0_; have HO186 := n1_; have HO189 := n2_; have BK167 := n3_; have HB := n4_; clear n0_ n1_ n2_ n3_ n4_; clear hb ho51; obtain ⟨Ao53, co53, eo53⟩ := Kd.R_slice HO189.out; subst eo53) | ((with_reducible refine gate_builtin (b := .append) (xs := #[.tmp 70, .tmp 72]) rfl ?_); at_builtin; refine Kd.R_append_rows (Kd.int .u8) (w0 := w) w.heap.size rfl (.tmp 70) (.tmp 72) 22 5 (.int .u8 0) 1 rfl Try.underlying22 info5 rfl (by decide) (by omega) v185 y184 y187 _ _ _ (fun k_ => some k_ ≠ (.slice Ao46 x7_3.length co46 : Value).ownBlock ∧ some k_ ≠ (.slice Ao53 y187.length co53 : Value).ownBlock) (fun _ => False) rfl rfl ?aO ?aR (fun _ _ h => h) (fun _ h => h.elim) ?aF ?aB ?aS ?aL ?_; (case aR => repeat (first | exact (Kd.R_reads' HO189.out).2.2 | (with_reducible refine Kd.C_alloc ?_ _) | (with_reducible refine Kd.C_drewN ?_ _) | (with_reducible refine Kd.C_drew ?_))); (case aB => exact (by repeat (first | (with_reducible first | exact HB.out | apply below_alloc | apply pw_below_drewN | apply below_drew1 | refine below_set ?_ GE167.out) | exact HB.out))); (case aF => exact (fun k_ hk => ⟨Kd.fresh' (Kd.R_lt (by (with_reducible repeat (first | apply Kd.R_alloc | apply Kd.R_drewN | apply Kd.R_drew)); exact HO_7.out)) k_ hk, Kd.fresh' (Kd.R_lt (by (with_reducible repeat (first | apply Kd.R_alloc | apply Kd.R_drewN | apply Kd.R_drew)); exact HO189.out)) k_ hk⟩)); (case aO => exact (by (with_reducible repeat (first | apply Kd.R_alloc | apply Kd.R_drewN | apply Kd.R_drew)); exact HO186.out)); (case aS => exact (below_size (by repeat (first | (with_reducible first | exact HB.out | apply below_alloc | apply pw_below_drewN | apply below_drew1 | refine below_set ?_ GE167.out) | exact HB.out)))); (case aL => have := LMc32.out; omega); intro v191 w52 ho hb hg hat; rw [← Ny190.out] at ho; have n0_ := Aside0.mk (Kd.R_after (ok := (fun k_ => some k_ ≠ (.slice Ao53 y187.length co53 : Value).ownBlock)) (by (with_reducible repeat (first | apply Kd.R_alloc | apply Kd.R_drewN | apply Kd.R_drew)); exact Kd.R_mono HO_7.out (fun _ hk => ⟨hk.2, hk.1.2⟩)) hg hat); have n1_ := Aside0.mk (blk_grown (g := gb167) (o := .cells #[.int .i64 a1_0, .int .i64 a1_1] 35 (0, 0)) (by (with_reducible repeat (first | refine blk_drewN ?_ _ | refine blk_drew ?_ | refine blk_alloc ?_ _)); exact BK167.out) hg (Kd.R_ne HO186.out BK167.out (by decide))); have n2_ := Aside0.mk (Kd.R_after (ok := (fun k_ => some k_ ≠ (.slice Ao46 x7_3.length co46 : Value).ownBlock)) (by (with_reducible repeat (first | apply Kd.R_alloc | apply Kd.R_drewN | apply Kd.R_drew)); exact Kd.R_mono HO189.out (fun _ hk => ⟨hk.1.2, hk.2⟩)) hg hat); have n3_ := Aside0.mk (hb); have n4_ := Aside0.mk (ho); clear HO_7; clear BK167; clear HO189; clear HB; clear HO186; have HO_7 := n0_; have BK167 := n1_; have HO189 := n2_; have HB := n3_; have HO192 := n4_; clear n0_ n1_ n2_ n3_ n4_; clear ho hb hg hat; obtain ⟨Ao54, co54, eo54⟩ := Kd.R_slice HO192.out; subst eo54) | ((with_reducible refine gate_callee (f := 16) rfl ?_); refine goesL_ (some 74) rfl rfl Try.func16 (by kernel_rfl) rfl #[.slice Ao54 y190.length co54] rfl (by (try simp only [List.map_toArray, List.map_cons, List.map_nil]); first | done | rfl | (simp only [List.length_drop, List.length_take]; rfl)) ?_; (with_reducible refine (octal_Parse.calls k3 _ _ y190 t193 t194 _ ?side1 ?side2 A33.out).mono ?_); (case side1 => repeat (first | exact (Kd.R_reads' HO192.out).2.2 | (with_reducible refine Kd.C_alloc ?_ _) | (with_reducible refine Kd.C_drewN ?_ _) | (with_reducible refine Kd.C_drew ?_))); (case side2 => exact (Kd.R_reads' HO192.out).2.1); rintro e w' ⟨rfl, ⟨nd, rfl⟩⟩; refine ⟨_, rfl, ?_⟩))
                                  go_ret
                                  exact ⟨by first | rfl | (simp [errW_none, errW_some] <;> rfl) | (simp [*, errW_none, errW_some] <;> rfl), by repeat (first | (with_reducible first | exact HB.out | apply below_alloc | apply pw_below_drewN | apply below_drew1 | refine below_set ?_ GE167.out) | exact HB.out)⟩
                              · rw [if_neg c35] at H
                                have c35b0 : (t179 == a0) = false := beq_eq_false_iff_ne.mpr c35
                                have c35b1 : (t179 != a0) = true := bne_iff_ne.mpr c35
                                obtain rfl := Option.some.inj H
                                obtain ⟨Ao55, co55, eo55⟩ := Kd.R_slice HO_7.out
                                subst eo55
                                go_wp2_with (first | ((with_reducible refine gate_callee (f := 16) rfl ?_); refine goesL_ (some 64) rfl rfl Try.func16 (by kernel_rfl) rfl #[.slice Ao55 x7_3.length co55] rfl (by (try simp only [List.map_toArray, List.map_cons, List.map_nil]); first | done | rfl | (simp only [List.length_drop, List.length_take]; rfl)) ?_; (with_reducible refine (octal_Parse.calls k3 _ _ x7_3 t179 t180 _ ?side1 ?side2 A30.out).mono ?_); (case side1 => repeat (first | exact (Kd.R_reads' HO_7.out).2.2 | (with_reducible refine Kd.C_alloc ?_ _) | (with_reducible refine Kd.C_drewN ?_ _) | (with_reducible refine Kd.C_drew ?_))); (case side2 => exact (Kd.R_reads' HO_7.out).2.1); rintro e w' ⟨rfl, ⟨nd, rfl⟩⟩; refine ⟨_, rfl, ?_⟩) | ((with_reducible refine gate_dst (N := 68) rfl ?_); refine Kd.R_lit (Kd.int .u8) _ 5 ?hg (N := 68) ?hd (xs := ([] : List Int)) (inner := []) (ok := fun _ => True) (okp := fun _ => True) ?hr ?hp (fun _ hk => hk) trivial (Below.refl _ _) (Nat.le_refl _) (by simp) ?_; (case hd => rfl); (case hg => rfl); (case hr => first | (go_simp; done) | (go_simp; rfl)); (case hp => exact (Reps.none _ _)); intro v182 w56 ho57 hb hg_ hnew_; clear hg_ hnew_; (first | rw [← Ny181.out] at ho57 | (simp only [Int.reduceToNat] at ho57; rw [← Ny181.out] at ho57)); have n0_ := Aside0.mk (Kd.R_elder' (by (with_reducible repeat (first | apply Kd.R_alloc | apply Kd.R_drewN | apply Kd.R_drew)); exact HO_7.out) (Kd.R_base ho57) hb); have n1_ := Aside0.mk (Kd.R_lower (Kd.R_new' ho57 (Kd.R_lt (by (with_reducible repeat (first | apply Kd.R_alloc | apply Kd.R_drewN | apply Kd.R_drew)); exact HO_7.out))) (below_size (by repeat (first | (with_reducible first | exact HB.out | apply below_alloc | apply pw_below_drewN | apply below_drew1 | refine below_set ?_ GE167.out) | exact HB.out)))); have n2_ := Aside0.mk (blk_below (g := gb167) (o := .cells #[.int .i64 a1_0, .int .i64 a1_1] 35 (0, 0)) (by (with_reducible repeat (first | refine blk_drewN ?_ _ | refine blk_drew ?_ | refine blk_alloc ?_ _)); exact BK167.out) hb); have n3_ := Aside0.mk (below_step (by repeat (first | (with_reducible first | exact HB.out | apply below_alloc | apply pw_below_drewN | apply below_drew1 | refine below_set ?_ GE167.out) | exact HB.out)) hb); clear HO_7; clear BK167; clear HB; have HO_7 := n0_; have HO183 := n1_; have BK167 := n2_; have HB := n3_; clear n0_ n1_ n2_ n3_; clear hb ho57) | ((with_reducible refine gate_builtin (b := .append) (xs := #[.tmp 68, .tmp 69]) rfl ?_); at_builtin; refine Kd.R_append_rows (Kd.int .u8) (w0 := w) w.heap.size rfl (.tmp 68) (.tmp 69) 22 5 (.int .u8 0) 1 rfl Try.underlying22 info5 rfl (by decide) (by omega) v182 y181 x7_3 _ _ _ (fun k_ => some k_ ≠ (.slice Ao55 x7_3.length co55 : Value).ownBlock) (fun _ => False) rfl rfl ?aO ?aR (fun _ _ h => h) (fun _ h => h.elim) ?aF ?aB ?aS ?aL ?_; (case aR => repeat (first | exact (Kd.R_reads' HO_7.out).2.2 | (with_reducible refine Kd.C_alloc ?_ _) | (with_reducible refine Kd.C_drewN ?_ _) | (with_reducible refine Kd.C_drew ?_))); (case aB => exact (by repeat (first | (with_reducible first | exact HB.out | apply below_alloc | apply pw_below_drewN | apply below_drew1 | refine below_set ?_ GE167.out) | exact HB.out))); (case aF => exact (fun k_ hk => Kd.fresh' (Kd.R_lt (by (with_reducible repeat (first | apply Kd.R_alloc | apply Kd.R_drewN | apply Kd.R_drew)); exact HO_7.out)) k_ hk)); (case aO => exact (by (with_reducible repeat (first | apply Kd.R_alloc | apply Kd.R_drewN | apply Kd.R_drew)); exact Kd.R_mono HO183.out (fun _ hk => hk.2))); (case aS => exact (below_size (by repeat (first | (with_reducible first | exact HB.out | apply below_alloc | apply pw_below_drewN | apply below_drew1 | refine below_set ?_ GE167.out) | exact HB.out)))); (case aL => have := LMc31.out; omega); intro v185 w58 ho hb hg hat; rw [← Ny184.out] at ho; have n0_ := Aside0.mk (Kd.R_after (ok := (fun _ => True)) (by (with_reducible repeat (first | apply Kd.R_alloc | apply Kd.R_drewN | apply Kd.R_drew)); exact HO_7.out) hg hat); have n1_ := Aside0.mk (blk_grown (g := gb167) (o := .cells #[.int .i64 a1_0, .int .i64 a1_1] 35 (0, 0)) (by (with_reducible repeat (first | refine blk_drewN ?_ _ | refine blk_drew ?_ | refine blk_alloc ?_ _)); exact BK167.out) hg (Kd.R_ne HO183.out BK167.out (by decide))); have n2_ := Aside0.mk (hb); have n3_ := Aside0.mk (ho); clear HO_7; clear BK167; clear HB; clear HO183; have HO_7 := n0_; have BK167 := n1_; have HB := n2_; have HO186 := n3_; clear n0_ n1_ n2_ n3_; clear ho hb hg hat) | ((with_reducible refine gate_dst (N := 72) rfl ?_); refine Kd.R_lit (Kd.int .u8) _ 5 ?hg (N := 72) ?hd (xs := ([32, a2] : List Int)) (inner := [.int .u8 32, .int .u8 a2]) (ok := fun _ => True) (okp := fun _ => True) ?hr ?hp (fun _ hk => hk) trivial (Below.refl _ _) (Nat.le_refl _) (by simp) ?_; (case hd => rfl); (case hg => rfl); (case hr => first | (go_simp; done) | (go_simp; rfl)); (case hp => exact (Reps.one (show Kd.M (Kd.int .u8) _ _ _ 32 [.int .u8 32] from rfl) (Reps.one (show Kd.M (Kd.int .u8) _ _ _ a2 [.int .u8 a2] from rfl) (Reps.none _ _)))); intro v188 w59 ho60 hb hg_ hnew_; clear hg_ hnew_; (first | rw [← Ny187.out] at ho60 | (simp only [Int.reduceToNat] at ho60; rw [← Ny187.out] at ho60)); have n0_ := Aside0.mk (Kd.R_elder' (by (with_reducible repeat (first | apply Kd.R_alloc | apply Kd.R_drewN | apply Kd.R_drew)); exact HO_7.out) (Kd.R_base ho60) hb); have n1_ := Aside0.mk (Kd.R_elder' (by (with_reducible repeat (first | apply Kd.R_alloc | apply Kd.R_drewN | apply Kd.R_drew)); exact HO186.out) (Kd.R_base ho60) hb); have n2_ := Aside0.mk (Kd.R_lower (Kd.R_new' (Kd.R_new' ho60 (Kd.R_lt (by (with_reducible repeat (first | apply Kd.R_alloc | apply Kd.R_drewN | apply Kd.R_drew)); exact HO_7.out))) (Kd.R_lt (by (with_reducible repeat (first | apply Kd.R_alloc | apply Kd.R_drewN | apply Kd.R_drew)); exact HO186.out))) (below_size (by repeat (first | (with_reducible first | exact HB.out | apply below_alloc | apply pw_below_drewN | apply below_drew1 | refine below_set ?_ GE167.out) | exact HB.out)))); have n3_ := Aside0.mk (blk_below (g := gb167) (o := .cells #[.int .i64 a1_0, .int .i64 a1_1] 35 (0, 0)) (by (with_reducible repeat (first | refine blk_drewN ?_ _ | refine blk_drew ?_ | refine blk_alloc ?_ _)); exact BK167.out) hb); have n4_ := Aside0.mk (below_step (by repeat (first | (with_reducible first | exact HB.out | apply below_alloc | apply pw_below_drewN | apply below_drew1 | refine below_set ?_ GE167.out) | exact HB.out)) hb); clear HO_7; clear HO186; clear BK167; clear HB; have HO_7 := n0_; have HO186 := n1_; have HO189 := n2_; have BK167 := n3_; have HB := n4_; clear n0_ n1_ n2_ n3_ n4_; clear hb ho60; obtain ⟨Ao62, co62, eo62⟩ := Kd.R_slice HO189.out; subst eo62) | ((with_reducible refine gate_builtin (b := .append) (xs := #[.tmp 70, .tmp 72]) rfl ?_); at_builtin; refine Kd.R_append_rows (Kd.int .u8) (w0 := w) w.heap.size rfl (.tmp 70) (.tmp 72) 22 5 (.int .u8 0) 1 rfl Try.underlying22 info5 rfl (by decide) (by omega) v185 y184 y187 _ _ _ (fun k_ => some k_ ≠ (.slice Ao55 x7_3.length co55 : Value).ownBlock ∧ some k_ ≠ (.slice Ao62 y187.length co62 : Value).ownBlock) (fun _ => False) rfl rfl ?aO ?aR (fun _ _ h => h) (fun _ h => h.elim) ?aF ?aB ?aS ?aL ?_; (case aR => repeat (first | exact (Kd.R_reads' HO189.out).2.2 | (with_reducible refine Kd.C_alloc ?_ _) | (with_reducible refine Kd.C_drewN ?_ _) | (with_reducible refine Kd.C_drew ?_))); (case aB => exact (by repeat (first | (with_reducible first | exact HB.out | apply below_alloc | apply pw_below_drewN | apply below_drew1 | refine below_set ?_ GE167.out) | exact HB.out))); (case aF => exact (fun k_ hk => ⟨Kd.fresh' (Kd.R_lt (by (with_reducible repeat (first | apply Kd.R_alloc | apply Kd.R_drewN | apply Kd.R_drew)); exact HO_7.out)) k_ hk, Kd.fresh' (Kd.R_lt (by (with_reducible repeat (first | apply Kd.R_alloc | apply Kd.R_drewN | apply Kd.R_drew)); exact HO189.out)) k_ hk⟩)); (case aO => exact (by (with_reducible repeat (first | apply Kd.R_alloc | apply Kd.R_drewN | apply Kd.R_drew)); exact HO186.out)); (case aS => exact (below_size (by repeat (first | (with_reducible first | exact HB.out | apply below_alloc | apply pw_below_drewN | apply below_drew1 | refine below_set ?_ GE167.out) | exact HB.out)))); (case aL => have := LMc32.out; omega); intro v191 w61 ho hb hg hat; rw [← Ny190.out] at ho; have n0_ := Aside0.mk (Kd.R_after (ok := (fun k_ => some k_ ≠ (.slice Ao62 y187.length co62 : Value).ownBlock)) (by (with_reducible repeat (first | apply Kd.R_alloc | apply Kd.R_drewN | apply Kd.R_drew)); exact Kd.R_mono HO_7.out (fun _ hk => ⟨hk.2, hk.1.2⟩)) hg hat); have n1_ := Aside0.mk (blk_grown (g := gb167) (o := .cells #[.int .i64 a1_0, .int .i64 a1_1] 35 (0, 0)) (by (with_reducible repeat (first | refine blk_drewN ?_ _ | refine blk_drew ?_ | refine blk_alloc ?_ _)); exact BK167.out) hg (Kd.R_ne HO186.out BK167.out (by decide))); have n2_ := Aside0.mk (Kd.R_after (ok := (fun k_ => some k_ ≠ (.slice Ao55 x7_3.length co55 : Value).ownBlock)) (by (with_reducible repeat (first | apply Kd.R_alloc | apply Kd.R_drewN | apply Kd.R_drew)); exact Kd.R_mono HO189.out (fun _ hk => ⟨hk.1.2, hk.2⟩)) hg hat); have n3_ := Aside0.mk (hb); have n4_ := Aside0.mk (ho); clear HO_7; clear BK167; clear HO189; clear HB; clear HO186; have HO_7 := n0_; have BK167 := n1_; have HO189 := n2_; have HB := n3_; have HO192 := n4_; clear n0_ n1_ n2_ n3_ n4_; clear ho hb hg hat; obtain ⟨Ao63, co63, eo63⟩ := Kd.R_slice HO192.out; subst eo63) | ((with_reducible refine gate_callee (f := 16) rfl ?_); refine goesL_ (some 74) rfl rfl Try.func16 (by kernel_rfl) rfl #[.slice Ao63 y190.length co63] rfl (by (try simp only [List.map_toArray, List.map_cons, List.map_nil]); first | done | rfl | (simp only [List.length_drop, List.length_take]; rfl)) ?_; (with_reducible refine (octal_Parse.calls k3 _ _ y190 t193 t194 _ ?side1 ?side2 A33.out).mono ?_); (case side1 => repeat (first | exact (Kd.R_reads' HO192.out).2.2 | (with_reducible refine Kd.C_alloc ?_ _) | (with_reducible refine Kd.C_drewN ?_ _) | (with_reducible refine Kd.C_drew ?_))); (case side2 => exact (Kd.R_reads' HO192.out).2.1); rintro e w' ⟨rfl, ⟨nd, rfl⟩⟩; refine ⟨_, rfl, ?_⟩))
                                go_ret
                                exact ⟨by first | rfl | (simp [errW_none, errW_some] <;> rfl) | (simp [*, errW_none, errW_some] <;> rfl), by repeat (first | (with_reducible first | exact HB.out | apply below_alloc | apply pw_below_drewN | apply below_drew1 | refine below_set ?_ GE167.out) | exact HB.out)⟩
                            · rw [if_neg c34] at H
                              have c34b0 : (t180 == 0) = false := beq_eq_false_iff_ne.mpr c34
                              have c34b1 : (t180 != 0) = true := bne_iff_ne.mpr c34
                              obtain rfl := Option.some.inj H
                              obtain ⟨Ao64, co64, eo64⟩ := Kd.R_slice HO_7.out
                              subst eo64
                              go_wp2_with (first | ((with_reducible refine gate_callee (f := 16) rfl ?_); refine goesL_ (some 64) rfl rfl Try.func16 (by kernel_rfl) rfl #[.slice Ao64 x7_3.length co64] rfl (by (try simp only [List.map_toArray, List.map_cons, List.map_nil]); first | done | rfl | (simp only [List.length_drop, List.length_take]; rfl)) ?_; (with_reducible refine (octal_Parse.calls k3 _ _ x7_3 t179 t180 _ ?side1 ?side2 A30.out).mono ?_); (case side1 => repeat (first | exact (Kd.R_reads' HO_7.out).2.2 | (with_reducible refine Kd.C_alloc ?_ _) | (with_reducible refine Kd.C_drewN ?_ _) | (with_reducible refine Kd.C_drew ?_))); (case side2 => exact (Kd.R_reads' HO_7.out).2.1); rintro e w' ⟨rfl, ⟨nd, rfl⟩⟩; refine ⟨_, rfl, ?_⟩) | ((with_reducible refine gate_dst (N := 68) rfl ?_); refine Kd.R_lit (Kd.int .u8) _ 5 ?hg (N := 68) ?hd (xs := ([] : List Int)) (inner := []) (ok := fun _ => True) (okp := fun _ => True) ?hr ?hp (fun _ hk => hk) trivial (Below.refl _ _) (Nat.le_refl _) (by simp) ?_; (case hd => rfl); (case hg => rfl); (case hr => first | (go_simp; done) | (go_simp; rfl)); (case hp => exact (Reps.none _ _)); intro v182 w65 ho66 hb hg_ hnew_; clear hg_ hnew_; (first | rw [← Ny181.out] at ho66 | (simp only [Int.reduceToNat] at ho66; rw [← Ny181.out] at ho66)); have n0_ := Aside0.mk (Kd.R_elder' (by (with_reducible repeat (first | apply Kd.R_alloc | apply Kd.R_drewN | apply Kd.R_drew)); exact HO_7.out) (Kd.R_base ho66) hb); have n1_ := Aside0.mk (Kd.R_lower (Kd.R_new' ho66 (Kd.R_lt (by (with_reducible repeat (first | apply Kd.R_alloc | apply Kd.R_drewN | apply Kd.R_drew)); exact HO_7.out))) (below_size (by repeat (first | (with_reducible first | exact HB.out | apply below_alloc | apply pw_below_drewN | apply below_drew1 | refine below_set ?_ GE167.out) | exact HB.out)))); have n2_ := Aside0.mk (blk_below (g := gb167) (o := .cells #[.int .i64 a1_0, .int .i64 a1_1] 35 (0, 0)) (by (with_reducible repeat (first | refine blk_drewN ?_ _ | refine blk_drew ?_ | refine blk_alloc ?_ _)); exact BK167.out) hb); have n3_ := Aside0.mk (below_step (by repeat (first | (with_reducible first | exact HB.out | apply below_alloc | apply pw_below_drewN | apply below_drew1 | refine below_set ?_ GE167.out) | exact HB.out)) hb); clear HO_7; clear BK167; clear HB; have HO_7 := n0_; have HO183 := n1_; have BK167 := n2_; have HB := n3_; clear n0_ n1_ n2_ n3_; clear hb ho66) | ((with_reducible refine gate_builtin (b := .append) (xs := #[.tmp 68, .tmp 69]) rfl ?_); at_builtin; refine Kd.R_append_rows (Kd.int .u8) (w0 := w) w.heap.size rfl (.tmp 68) (.tmp 69) 22 5 (.int .u8 0) 1 rfl Try.underlying22 info5 rfl (by decide) (by omega) v182 y181 x7_3 _ _ _ (fun k_ => some k_ ≠ (.slice Ao64 x7_3.length co64 : Value).ownBlock) (fun _ => False) rfl rfl ?aO ?aR (fun _ _ h => h) (fun _ h => h.elim) ?aF ?aB ?aS ?aL ?_; (case aR => repeat (first | exact (Kd.R_reads' HO_7.out).2.2 | (with_reducible refine Kd.C_alloc ?_ _) | (with_reducible refine Kd.C_drewN ?_ _) | (with_reducible refine Kd.C_drew ?_))); (case aB => exact (by repeat (first | (with_reducible first | exact HB.out | apply below_alloc | apply pw_below_drewN | apply below_drew1 | refine below_set ?_ GE167.out) | exact HB.out))); (case aF => exact (fun k_ hk => Kd.fresh' (Kd.R_lt (by (with_reducible repeat (first | apply Kd.R_alloc | apply Kd.R_drewN | apply Kd.R_drew)); exact HO_7.out)) k_ hk)); (case aO => exact (by (with_reducible repeat (first | apply Kd.R_alloc | apply Kd.R_drewN | apply Kd.R_drew)); exact Kd.R_mono HO183.out (fun _ hk => hk.2))); (case aS => exact (below_size (by repeat (first | (with_reducible first | exact HB.out | apply below_alloc | apply pw_below_drewN | apply below_drew1 | refine below_set ?_ GE167.out) | exact HB.out)))); (case aL => have := LMc31.out; omega); intro v185 w67 ho hb hg hat; rw [← Ny184.out] at ho; have n0_ := Aside0.mk (Kd.R_after (ok := (fun _ => True)) (by (with_reducible repeat (first | apply Kd.R_alloc | apply Kd.R_drewN | apply Kd.R_drew)); exact HO_7.out) hg hat); have n1_ := Aside0.mk (blk_grown (g := gb167) (o := .cells #[.int .i64 a1_0, .int .i64 a1_1] 35 (0, 0)) (by (with_reducible repeat (first | refine blk_drewN ?_ _ | refine blk_drew ?_ | refine blk_alloc ?_ _)); exact BK167.out) hg (Kd.R_ne HO183.out BK167.out (by decide))); have n2_ := Aside0.mk (hb); have n3_ := Aside0.mk (ho); clear HO_7; clear BK167; clear HB; clear HO183; have HO_7 := n0_; have BK167 := n1_; have HB := n2_; have HO186 := n3_; clear n0_ n1_ n2_ n3_; clear ho hb hg hat) | ((with_reducible refine gate_dst (N := 72) rfl ?_); refine Kd.R_lit (Kd.int .u8) _ 5 ?hg (N := 72) ?hd (xs := ([32, a2] : List Int)) (inner := [.int .u8 32, .int .u8 a2]) (ok := fun _ => True) (okp := fun _ => True) ?hr ?hp (fun _ hk => hk) trivial (Below.refl _ _) (Nat.le_refl _) (by simp) ?_; (case hd => rfl); (case hg => rfl); (case hr => first | (go_simp; done) | (go_simp; rfl)); (case hp => exact (Reps.one (show Kd.M (Kd.int .u8) _ _ _ 32 [.int .u8 32] from rfl) (Reps.one (show Kd.M (Kd.int .u8) _ _ _ a2 [.int .u8 a2] from rfl) (Reps.none _ _)))); intro v188 w68 ho69 hb hg_ hnew_; clear hg_ hnew_; (first | rw [← Ny187.out] at ho69 | (simp only [Int.reduceToNat] at ho69; rw [← Ny187.out] at ho69)); have n0_ := Aside0.mk (Kd.R_elder' (by (with_reducible repeat (first | apply Kd.R_alloc | apply Kd.R_drewN | apply Kd.R_drew)); exact HO_7.out) (Kd.R_base ho69) hb); have n1_ := Aside0.mk (Kd.R_elder' (by (with_reducible repeat (first | apply Kd.R_alloc | apply Kd.R_drewN | apply Kd.R_drew)); exact HO186.out) (Kd.R_base ho69) hb); have n2_ := Aside0.mk (Kd.R_lower (Kd.R_new' (Kd.R_new' ho69 (Kd.R_lt (by (with_reducible repeat (first | apply Kd.R_alloc | apply Kd.R_drewN | apply Kd.R_drew)); exact HO_7.out))) (Kd.R_lt (by (with_reducible repeat (first | apply Kd.R_alloc | apply Kd.R_drewN | apply Kd.R_drew)); exact HO186.out))) (below_size (by repeat (first | (with_reducible first | exact HB.out | apply below_alloc | apply pw_below_drewN | apply below_drew1 | refine below_set ?_ GE167.out) | exact HB.out)))); have n3_ := Aside0.mk (blk_below (g := gb167) (o := .cells #[.int .i64 a1_0, .int .i64 a1_1] 35 (0, 0)) (by (with_reducible repeat (first | refine blk_drewN ?_ _ | refine blk_drew ?_ | refine blk_alloc ?_ _)); exact BK167.out) hb); have n4_ := Aside0.mk (below_step (by repeat (first | (with_reducible first | exact HB.out | apply below_alloc | apply pw_below_drewN | apply below_drew1 | refine below_set ?_ GE167.out) | exact HB.out)) hb); clear HO_7; clear HO186; clear BK167; clear HB; have HO_7 := n0_; have HO186 := n1_; have HO189 := n2_; have BK167 := n3_; have HB := n4_; clear n0_ n1_ n2_ n3_ n4_; clear hb ho69; obtain ⟨Ao71, co71, eo71⟩ := Kd.R_slice HO189.out; subst eo71) | ((with_reducible refine gate_builtin (b := .append) (xs := #[.tmp 70, .tmp 72]) rfl ?_); at_builtin; refine Kd.R_append_rows (Kd.int .u8) (w0 := w) w.heap.size rfl (.tmp 70) (.tmp 72) 22 5 (.int .u8 0) 1 rfl Try.underlying22 info5 rfl (by decide) (by omega) v185 y184 y187 _ _ _ (fun k_ => some k_ ≠ (.slice Ao64 x7_3.length co64 : Value).ownBlock ∧ some k_ ≠ (.slice Ao71 y187.length co71 : Value).ownBlock) (fun _ => False) rfl rfl ?aO ?aR (fun _ _ h => h) (fun _ h => h.elim) ?aF ?aB ?aS ?aL ?_; (case aR => repeat (first | exact (Kd.R_reads' HO189.out).2.2 | (with_reducible refine Kd.C_alloc ?_ _) | (with_reducible refine Kd.C_drewN ?_ _) | (with_reducible refine Kd.C_drew ?_))); (case aB => exact (by repeat (first | (with_reducible first | exact HB.out | apply below_alloc | apply pw_below_drewN | apply below_drew1 | refine below_set ?_ GE167.out) | exact HB.out))); (case aF => exact (fun k_ hk => ⟨Kd.fresh' (Kd.R_lt (by (with_reducible repeat (first | apply Kd.R_alloc | apply Kd.R_drewN | apply Kd.R_drew)); exact HO_7.out)) k_ hk, Kd.fresh' (Kd.R_lt (by (with_reducible repeat (first | apply Kd.R_alloc | apply Kd.R_drewN | apply Kd.R_drew)); exact HO189.out)) k_ hk⟩)); (case aO => exact (by (with_reducible repeat (first | apply Kd.R_alloc | apply Kd.R_drewN | apply Kd.R_drew)); exact HO186.out)); (case aS => exact (below_size (by repeat (first | (with_reducible first | exact HB.out | apply below_alloc | apply pw_below_drewN | apply below_drew1 | refine below_set ?_ GE167.out) | exact HB.out)))); (case aL => have := LMc32.out; omega); intro v191 w70 ho hb hg hat; rw [← Ny190.out] at ho; have n0_ := Aside0.mk (Kd.R_after (ok := (fun k_ => some k_ ≠ (.slice Ao71 y187.length co71 : Value).ownBlock)) (by (with_reducible repeat (first | apply Kd.R_alloc | apply Kd.R_drewN | apply Kd.R_drew)); exact Kd.R_mono HO_7.out (fun _ hk => ⟨hk.2, hk.1.2⟩)) hg hat); have n1_ := Aside0.mk (blk_grown (g := gb167) (o := .cells #[.int .i64 a1_0, .int .i64 a1_1] 35 (0, 0)) (by (with_reducible repeat (first | refine blk_drewN ?_ _ | refine blk_drew ?_ | refine blk_alloc ?_ _)); exact BK167.out) hg (Kd.R_ne HO186.out BK167.out (by decide))); have n2_ := Aside0.mk (Kd.R_after (ok := (fun k_ => some k_ ≠ (.slice Ao64 x7_3.length co64 : Value).ownBlock)) (by (with_reducible repeat (first | apply Kd.R_alloc | apply Kd.R_drewN | apply Kd.R_drew)); exact Kd.R_mono HO189.out (fun _ hk => ⟨hk.1.2, hk.2⟩)) hg hat); have n3_ := Aside0.mk (hb); have n4_ := Aside0.mk (ho); clear HO_7; clear BK167; clear HO189; clear HB; clear HO186; have HO_7 := n0_; have BK167 := n1_; have HO189 := n2_; have HB := n3_; have HO192 := n4_; clear n0_ n1_ n2_ n3_ n4_; clear ho hb hg hat; obtain ⟨Ao72, co72, eo72⟩ := Kd.R_slice HO192.out; subst eo72) | ((with_reducible refine gate_callee (f := 16) rfl ?_); refine goesL_ (some 74) rfl rfl Try.func16 (by kernel_rfl) rfl #[.slice Ao72 y190.length co72] rfl (by (try simp only [List.map_toArray, List.map_cons, List.map_nil]); first | done | rfl | (simp only [List.length_drop, List.length_take]; rfl)) ?_; (with_reducible refine (octal_Parse.calls k3 _ _ y190 t193 t194 _ ?side1 ?side2 A33.out).mono ?_); (case side1 => repeat (first | exact (Kd.R_reads' HO192.out).2.2 | (with_reducible refine Kd.C_alloc ?_ _) | (with_reducible refine Kd.C_drewN ?_ _) | (with_reducible refine Kd.C_drew ?_))); (case side2 => exact (Kd.R_reads' HO192.out).2.1); rintro e w' ⟨rfl, ⟨nd, rfl⟩⟩; refine ⟨_, rfl, ?_⟩))
                              go_ret
                              exact ⟨by first | rfl | (simp [errW_none, errW_some] <;> rfl) | (simp [*, errW_none, errW_some] <;> rfl), by repeat (first | (with_reducible first | exact HB.out | apply below_alloc | apply pw_below_drewN | apply below_drew1 | refine below_set ?_ GE167.out) | exact HB.out)⟩
                          · rw [if_neg c32] at H
                            exact absurd H (by simp)
                        · rw [if_neg c31] at H
                          exact absurd H (by simp)
                · rw [if_neg c23] at H
                  exact absurd H (by simp)
  · replace c5 := Bool.eq_false_iff.mpr c5
    subst c5
    have H1 : (some false) = some r := by rw [if_neg (show ¬ (false = true) by decide)] at H; exact H
    clear H
    have H := H1
    clear H1
    obtain rfl := Option.some.inj H
    go_enter Try.func6, Try.ntmps6
    go_wp2_with (first | ((with_reducible refine gate_dst (N := 4) rfl ?_); refine box_event ?hg (N := 4) ?hd (cs := #[.int .i64 a1_0, .int .i64 a1_1]) (t := 35) ?hr ?_; (case hd => rfl); (case hg => rfl); (case hr => first | (go_simp; done) | (go_simp; rfl)); intro gb167 hg w73 hbox hb; have n0_ := Aside0.mk (below_step (by repeat (first | (with_reducible first | exact HB.out | apply below_alloc | apply pw_below_drewN | apply below_drew1) | exact HB.out)) hb); have n1_ := Aside0.mk (hbox); have n2_ := Aside0.mk ((by rw [hg]; exact (below_size (by repeat (first | (with_reducible first | exact HB.out | apply below_alloc | apply pw_below_drewN | apply below_drew1) | exact HB.out))) : w.heap.size ≤ gb167)); have n3_ := Aside0.mk ((by rw [hg]; exact (below_size (by repeat (first | (with_reducible first | exact HB.out | apply below_alloc | apply pw_below_drewN | apply below_drew1) | exact HB.out))) : w.heap.size ≤ gb167)); clear HB; have HB := n0_; have BK167 := n1_; have GW167 := n2_; have GE167 := n3_; clear n0_ n1_ n2_ n3_; clear hb hbox hg) | ((with_reducible refine gate_callee (f := 15) rfl ?_); refine goesL_ (some 13) rfl rfl Try.func15 (by kernel_rfl) rfl #[] rfl (by (try simp only [List.map_toArray, List.map_cons, List.map_nil]); first | done | rfl | (simp only [List.length_drop, List.length_take]; rfl)) ?_; (with_reducible refine (pannierlaw02_reads.calls  false _ A4.out).mono ?_); rintro e w74 ⟨rfl, hb⟩; refine ⟨_, rfl, ?_⟩; have n0_ := Aside0.mk (blk_below (g := gb167) (o := .cells #[.int .i64 a1_0, .int .i64 a1_1] 35 (0, 0)) (by (with_reducible repeat (first | refine blk_drewN ?_ _ | refine blk_drew ?_ | refine blk_alloc ?_ _)); exact BK167.out) hb); have n1_ := Aside0.mk (below_step (by repeat (first | (with_reducible first | exact HB.out | apply below_alloc | apply pw_below_drewN | apply below_drew1 | refine below_set ?_ GE167.out) | exact HB.out)) hb); clear BK167; clear HB; have BK167 := n0_; have HB := n1_; clear n0_ n1_; (try clear hb); (try clear hb2); (try clear hk); (try clear hi)))
    go_ret
    exact ⟨by first | rfl | (simp [errW_none, errW_some] <;> rfl) | (simp [*, errW_none, errW_some] <;> rfl), by repeat (first | (with_reducible first | exact HB.out | apply below_alloc | apply pw_below_drewN | apply below_drew1 | refine below_set ?_ GE167.out) | exact HB.out)⟩
/-- THE ONE PURE STATEMENT of pannierlaw02_OctalBlank. -/
def pannierlaw02_OctalBlank.Pure : Prop := ∀ (a0 : Int) (a1_0 : Int) (a1_1 : Int) (a2 : Int), (Lit.int .i64 a0).wf = true → (Lit.int .i64 a1_0).wf = true → (Lit.int .i64 a1_1).wf = true → (Lit.int .u8 a2).wf = true → ∃ k, pannierlaw02_OctalBlank.f k a0 a1_0 a1_1 a2 = some true

/-! ### pannierlaw02_OctalWidth: function 7 -/
def pannierlaw02_OctalWidth.j0 : Nat → Int → Int → Bool → Option (Bool)
  | 0, _, _, _ => none
  | k + 1, x0, x1, x13 => if x13 = true then (some true) else (if 0 ≤ (wrap64 (3 * (wrap64 (x1 - 1)))) then ((octal_Fits.f k x0 x1).bind fun t196 => (if x0 ≥ 0 then (if (t196 == (decide (x0 < (shl .i64 1 (wrap64 (3 * (wrap64 (x1 - 1)))))))) = true then ((octal_Fits.f k x0 x1).bind fun t197 => (if t197 = true then ((octal_Fits.f k x0 (wrap64 (x1 + 1))).bind fun t198 => (some t198)) else (some true))) else (some false)) else (if (t196 == false) = true then ((octal_Fits.f k x0 x1).bind fun t199 => (if t199 = true then ((octal_Fits.f k x0 (wrap64 (x1 + 1))).bind fun t200 => (some t200)) else (some true))) else (some false)))) else (none))
def pannierlaw02_OctalWidth.f (k : Nat) (a0 : Int) (a1 : Int) : Option (Bool) := (pannierlaw02_reads.f).bind fun t195 => (if t195 = true then (if a1 < 2 then (pannierlaw02_OctalWidth.j0 k a0 a1 true) else (pannierlaw02_OctalWidth.j0 k a0 a1 (decide (a1 > 21)))) else (some false))
theorem pannierlaw02_OctalWidth.mono_l : ∀ k, (∀ y0 y1 y2, LeO (pannierlaw02_OctalWidth.j0 k y0 y1 y2) (pannierlaw02_OctalWidth.j0 (k + 1) y0 y1 y2))
  | 0 => fun _ _ _ r h => by simp [pannierlaw02_OctalWidth.j0] at h
  | k + 1 => by
    have ih0 := pannierlaw02_OctalWidth.mono_l k
    · intro y0 y1 y2
      unfold pannierlaw02_OctalWidth.j0
      repeat' first
      | (with_reducible exact ih0 _ _ _)
      | (with_reducible exact octal_Fits.mono _ _ _)
      | (with_reducible exact LeO.refl _)
      | (with_reducible exact LeO.none _)
      | (with_reducible refine LeO.ite ?_ ?_)
      | (with_reducible refine LeO.bind ?_ (fun _ => ?_))
      | exact ih0 _ _ _
      | exact octal_Fits.mono _ _ _
      | exact LeO.none _
      | refine LeO.ite ?_ ?_
      | refine LeO.bind ?_ (fun _ => ?_)
theorem pannierlaw02_OctalWidth.mono : ∀ a0 a1 k, LeO (pannierlaw02_OctalWidth.f k a0 a1) (pannierlaw02_OctalWidth.f (k + 1) a0 a1) := by
  intro a0 a1 k
  have ih0 := pannierlaw02_OctalWidth.mono_l k
  unfold pannierlaw02_OctalWidth.f
  repeat' first
      | (with_reducible exact ih0 _ _ _)
      | (with_reducible exact octal_Fits.mono _ _ _)
      | (with_reducible exact LeO.refl _)
      | (with_reducible exact LeO.none _)
      | (with_reducible refine LeO.ite ?_ ?_)
      | (with_reducible refine LeO.bind ?_ (fun _ => ?_))
      | exact ih0 _ _ _
      | exact octal_Fits.mono _ _ _
      | exact LeO.none _
      | refine LeO.ite ?_ ?_
      | refine LeO.bind ?_ (fun _ => ?_)
set_option maxHeartbeats 8000000 in
set_option maxRecDepth 100000 in
theorem pannierlaw02_OctalWidth.calls (k : Nat) (a0 : Int) (a1 : Int) (r : Bool) (w : World) (h : pannierlaw02_OctalWidth.f k a0 a1 = some r) :
    Calls Try.prog 7 #[.int .i64 a0, .int .i64 a1] w fun e w' => e = .returned (.bool r) ∧ Below w.heap.size w w' := by
  have HB := Aside0.mk (Below.refl w.heap.size w)
  have H : ((pannierlaw02_reads.f).bind fun t195 => (if t195 = true then (if a1 < 2 then (pannierlaw02_OctalWidth.j0 k a0 a1 true) else (pannierlaw02_OctalWidth.j0 k a0 a1 (decide (a1 > 21)))) else (some false))) = some r := h
  clear h
  replace H := Option.bind_eq_some_iff.mp H
  obtain ⟨t195, A30, H⟩ := H
  replace H : (if t195 = true then (if a1 < 2 then (pannierlaw02_OctalWidth.j0 k a0 a1 true) else (pannierlaw02_OctalWidth.j0 k a0 a1 (decide (a1 > 21)))) else (some false)) = some r := H
  have A3 := Aside0.mk A30
  clear A30
  by_cases c4 : t195 = true
  · subst c4
    have H1 : (if a1 < 2 then (pannierlaw02_OctalWidth.j0 k a0 a1 true) else (pannierlaw02_OctalWidth.j0 k a0 a1 (decide (a1 > 21)))) = some r := by rw [if_pos rfl] at H; exact H
    clear H
    have H := H1
    clear H1
    have HC5 := Aside0.mk H
    clear H
    go_enter Try.func7, Try.ntmps7
    go_upto_region 3 with (first | ((with_reducible refine gate_callee (f := 15) rfl ?_); refine goesL_ (some 6) rfl rfl Try.func15 (by kernel_rfl) rfl #[] rfl (by (try simp only [List.map_toArray, List.map_cons, List.map_nil]); first | done | rfl | (simp only [List.length_drop, List.length_take]; rfl)) ?_; (with_reducible refine (pannierlaw02_reads.calls  true _ A3.out).mono ?_); rintro e w6 ⟨rfl, hb⟩; refine ⟨_, rfl, ?_⟩; have n0_ := Aside0.mk (below_step (by repeat (first | (with_reducible first | exact HB.out | apply below_alloc | apply pw_below_drewN | apply below_drew1) | exact HB.out)) hb); clear HB; have HB := n0_; clear n0_; (try clear hb); (try clear hb2); (try clear hk); (try clear hi)))
    (try simp only [Act.put, List.setIfInBounds_toArray, List.set_cons_zero, List.set_cons_succ])
    go_cut [13] (fun v13 wc => ∃ (kq : Nat) (x13_4 : Bool), v13 = .bool x13_4 ∧ Aside0 (pannierlaw02_OctalWidth.j0 kq a0 a1 x13_4 = some r) ∧ Aside0 (kq ≤ k) ∧ Aside0 (Below w.heap.size w wc))
    case first =>
      have H := HC5.out
      clear HC5
      by_cases c7 : a1 < 2
      · rw [if_pos c7] at H
        have c7b0 : decide (a1 < 2) = true := decide_eq_true c7
        clear c7
        (first | rw [c7b0] | (simp only [i64_w, i32_w]; rw [c7b0]) | skip)
        have H' := Aside0.mk H
        clear H
        go_wp2
        go_meet
        case rel => exact ⟨_, (true), (by first | rfl | (simp; done) | (simp [*]; done)), H', ⟨by first | omega | exact Nat.le_refl _⟩, ⟨by repeat (first | (with_reducible first | exact HB.out | apply below_alloc | apply pw_below_drewN | apply below_drew1) | exact HB.out)⟩⟩
      · rw [if_neg c7] at H
        have c7b0 : decide (a1 < 2) = false := decide_eq_false c7
        clear c7
        (first | rw [c7b0] | (simp only [i64_w, i32_w]; rw [c7b0]) | skip)
        have H' := Aside0.mk H
        clear H
        go_wp2
        go_meet
        case rel => exact ⟨_, (decide (a1 > 21)), (by first | rfl | (simp; done) | (simp [*]; done)), H', ⟨by first | omega | exact Nat.le_refl _⟩, ⟨by repeat (first | (with_reducible first | exact HB.out | apply below_alloc | apply pw_below_drewN | apply below_drew1) | exact HB.out)⟩⟩
    case rest =>
      clear HC5
      try clear c1
      try clear p2
      try clear c4
      try clear c7
      try clear c7b0
      obtain ⟨kq, x13_4, rfl, HA, HJ4, HB⟩ := hcut
      cases kq with
      | zero => exact absurd HA.out (by simp [pannierlaw02_OctalWidth.j0])
      | succ kj4 =>
        have H := HA.out
        clear HA
        simp only [pannierlaw02_OctalWidth.j0] at H
        by_cases c8 : x13_4 = true
        · subst c8
          have H1 : (some true) = some r := by rw [if_pos rfl] at H; exact H
          clear H
          have H := H1
          clear H1
          obtain rfl := Option.some.inj H
          go_wp2
          go_ret
          exact ⟨by first | rfl | (simp [errW_none, errW_some] <;> rfl) | (simp [*, errW_none, errW_some] <;> rfl), by repeat (first | (with_reducible first | exact HB.out | apply below_alloc | apply pw_below_drewN | apply below_drew1) | exact HB.out)⟩
        · replace c8 := Bool.eq_false_iff.mpr c8
          subst c8
          have H1 : (if 0 ≤ (wrap64 (3 * (wrap64 (a1 - 1)))) then ((octal_Fits.f kj4 a0 a1).bind fun t196 => (if a0 ≥ 0 then (if (t196 == (decide (a0 < (shl .i64 1 (wrap64 (3 * (wrap64 (a1 - 1)))))))) = true then ((octal_Fits.f kj4 a0 a1).bind fun t197 => (if t197 = true then ((octal_Fits.f kj4 a0 (wrap64 (a1 + 1))).bind fun t198 => (some t198)) else (some true))) else (some false)) else (if (t196 == false) = true then ((octal_Fits.f kj4 a0 a1).bind fun t199 => (if t199 = true then ((octal_Fits.f kj4 a0 (wrap64 (a1 + 1))).bind fun t200 => (some t200)) else (some true))) else (some false)))) else (none)) = some r := by rw [if_neg (show ¬ (false = true) by decide)] at H; exact H
          clear H
          have H := H1
          clear H1
          obtain ⟨ji9, hji9⟩ : ∃ j_ : Int, (wrap64 (3 * (wrap64 (a1 - 1)))) = j_ := ⟨_, rfl⟩
          replace H : (if 0 ≤ (ji9) then ((octal_Fits.f kj4 a0 a1).bind fun t196 => (if a0 ≥ 0 then (if (t196 == (decide (a0 < (shl .i64 1 (ji9))))) = true then ((octal_Fits.f kj4 a0 a1).bind fun t197 => (if t197 = true then ((octal_Fits.f kj4 a0 (wrap64 (a1 + 1))).bind fun t198 => (some t198)) else (some true))) else (some false)) else (if (t196 == false) = true then ((octal_Fits.f kj4 a0 a1).bind fun t199 => (if t199 = true then ((octal_Fits.f kj4 a0 (wrap64 (a1 + 1))).bind fun t200 => (some t200)) else (some true))) else (some false)))) else (none)) = some r := by first | (rw [hji9] at H; exact H) | (simp only [hji9] at H ⊢; exact H)
          have hji9w : (IntKind.i64.wrap (3 * (wrap64 (a1 - 1)))) = ji9 := (i64_w _).trans hji9
          by_cases c10 : 0 ≤ (ji9)
          · rw [if_pos c10] at H
            have c10b0 := eq_true c10
            have c10b1 : decide (0 ≤ (ji9)) = true := decide_eq_true c10
            clear c10
            obtain ⟨ji11, hji11⟩ : ∃ j_ : Int, (shl .i64 1 (ji9)) = j_ := ⟨_, rfl⟩
            replace H : ((octal_Fits.f kj4 a0 a1).bind fun t196 => (if a0 ≥ 0 then (if (t196 == (decide (a0 < (ji11)))) = true then ((octal_Fits.f kj4 a0 a1).bind fun t197 => (if t197 = true then ((octal_Fits.f kj4 a0 (wrap64 (a1 + 1))).bind fun t198 => (some t198)) else (some true))) else (some false)) else (if (t196 == false) = true then ((octal_Fits.f kj4 a0 a1).bind fun t199 => (if t199 = true then ((octal_Fits.f kj4 a0 (wrap64 (a1 + 1))).bind fun t200 => (some t200)) else (some true))) else (some false)))) = some r := by first | (rw [hji11] at H; exact H) | (simp only [hji11] at H ⊢; exact H)
            have hji11_ : (IntKind.i64.wrap (1 * 2 ^ min (ji9).toNat 64)) = ji11 := hji11
            have hji11z : (ji9) ≤ 64 → (IntKind.i64.wrap (1 * 2 ^ (ji9).toNat)) = ji11 := shl_small hji11
            have hji11u : (IntKind.i64.wrap (2 ^ min (ji9).toNat 64)) = ji11 := by have h_ := hji11_; rw [Int.one_mul] at h_; exact h_
            have hji11v : (ji9) ≤ 64 → (IntKind.i64.wrap (2 ^ (ji9).toNat)) = ji11 := fun hle_ => by have h_ := hji11z hle_; rw [Int.one_mul] at h_; exact h_
            have hji11y : (wrap64 (1 * 2 ^ min (ji9).toNat 64)) = ji11 := (i64_w _).symm.trans hji11_
            have hji11x : (ji9) ≤ 64 → (wrap64 (1 * 2 ^ (ji9).toNat)) = ji11 := fun h_ => (i64_w _).symm.trans (hji11z h_)
            replace H := Option.bind_eq_some_iff.mp H
            obtain ⟨t196, A120, H⟩ := H
            replace H : (if a0 ≥ 0 then (if (t196 == (decide (a0 < (ji11)))) = true then ((octal_Fits.f kj4 a0 a1).bind fun t197 => (if t197 = true then ((octal_Fits.f kj4 a0 (wrap64 (a1 + 1))).bind fun t198 => (some t198)) else (some true))) else (some false)) else (if (t196 == false) = true then ((octal_Fits.f kj4 a0 a1).bind fun t199 => (if t199 = true then ((octal_Fits.f kj4 a0 (wrap64 (a1 + 1))).bind fun t200 => (some t200)) else (some true))) else (some false))) = some r := H
            have A12 := Aside0.mk A120
            clear A120
            by_cases c13 : a0 ≥ 0
            · rw [if_pos c13] at H
              have c13b0 : decide (0 ≤ a0) = true := decide_eq_true c13
              clear c13
              by_cases c14 : (t196 == (decide (a0 < (ji11)))) = true
              · rw [if_pos c14] at H
                have c14b0 : (t196 == (decide (a0 < (ji11)))) = true := c14
                (try (have c14b1 : decide (t196 = (decide (a0 < (ji11)))) = true := by simpa using c14))
                (try (have c14b2 : (t196 == (decide (a0 < (ji11)))) = true := by simpa using c14))
                clear c14
                replace H := Option.bind_eq_some_iff.mp H
                obtain ⟨t197, A150, H⟩ := H
                replace H : (if t197 = true then ((octal_Fits.f kj4 a0 (wrap64 (a1 + 1))).bind fun t198 => (some t198)) else (some true)) = some r := H
                have A15 := Aside0.mk A150
                clear A150
                by_cases c16 : t197 = true
                · subst c16
                  have H1 : ((octal_Fits.f kj4 a0 (wrap64 (a1 + 1))).bind fun t198 => (some t198)) = some r := by rw [if_pos rfl] at H; exact H
                  clear H
                  have H := H1
                  clear H1
                  replace H := Option.bind_eq_some_iff.mp H
                  obtain ⟨t198, A170, H⟩ := H
                  replace H : (some t198) = some r := H
                  have A17 := Aside0.mk A170
                  clear A170
                  obtain rfl := Option.some.inj H
                  go_wp2_with (first | ((with_reducible refine gate_callee (f := 20) rfl ?_); refine goesL_ (some 20) rfl rfl Try.func20 (by kernel_rfl) rfl #[.int .i64 a0, .int .i64 a1] rfl (by (try simp only [List.map_toArray, List.map_cons, List.map_nil]); first | done | rfl | (simp only [List.length_drop, List.length_take]; rfl)) ?_; (with_reducible refine (octal_Fits.calls kj4 a0 a1 t196 _ A12.out).mono ?_); rintro e w' ⟨rfl, ⟨nd, rfl⟩⟩; refine ⟨_, rfl, ?_⟩) | (go_at_call 20; (with_reducible refine (octal_Fits.calls kj4 a0 a1 true _ A15.out).mono ?_); rintro e w' ⟨rfl, ⟨nd, rfl⟩⟩) | (go_at_call 20; (with_reducible refine (octal_Fits.calls kj4 a0 (wrap64 (a1 + 1)) t198 _ A17.out).mono ?_); rintro e w' ⟨rfl, ⟨nd, rfl⟩⟩))
                  go_ret
                  exact ⟨by first | rfl | (simp [errW_none, errW_some] <;> rfl) | (simp only [← hji9, ← hji11]; first | rfl | (simp [errW_none, errW_some] <;> rfl)) | (simp [*, errW_none, errW_some] <;> rfl), by repeat (first | (with_reducible first | exact HB.out | apply below_alloc | apply pw_below_drewN | apply below_drew1) | exact HB.out)⟩
                · replace c16 := Bool.eq_false_iff.mpr c16
                  subst c16
                  have H1 : (some true) = some r := by rw [if_neg (show ¬ (false = true) by decide)] at H; exact H
                  clear H
                  have H := H1
                  clear H1
                  obtain rfl := Option.some.inj H
                  go_wp2_with (first | ((with_reducible refine gate_callee (f := 20) rfl ?_); refine goesL_ (some 20) rfl rfl Try.func20 (by kernel_rfl) rfl #[.int .i64 a0, .int .i64 a1] rfl (by (try simp only [List.map_toArray, List.map_cons, List.map_nil]); first | done | rfl | (simp only [List.length_drop, List.length_take]; rfl)) ?_; (with_reducible refine (octal_Fits.calls kj4 a0 a1 t196 _ A12.out).mono ?_); rintro e w' ⟨rfl, ⟨nd, rfl⟩⟩; refine ⟨_, rfl, ?_⟩) | (go_at_call 20; (with_reducible refine (octal_Fits.calls kj4 a0 a1 false _ A15.out).mono ?_); rintro e w' ⟨rfl, ⟨nd, rfl⟩⟩))
                  go_ret
                  exact ⟨by first | rfl | (simp [errW_none, errW_some] <;> rfl) | (simp only [← hji9, ← hji11]; first | rfl | (simp [errW_none, errW_some] <;> rfl)) | (simp [*, errW_none, errW_some] <;> rfl), by repeat (first | (with_reducible first | exact HB.out | apply below_alloc | apply pw_below_drewN | apply below_drew1) | exact HB.out)⟩
              · rw [if_neg c14] at H
                have c14b0 : (t196 == (decide (a0 < (ji11)))) = false := by simpa using c14
                (try (have c14b1 : decide (t196 = (decide (a0 < (ji11)))) = false := by simpa using c14))
                (try (have c14b2 : (t196 == (decide (a0 < (ji11)))) = false := by simpa using c14))
                (try (have c14b3 : ¬ (t196 = (decide (a0 < (ji11)))) := by simpa using c14))
                clear c14
                obtain rfl := Option.some.inj H
                go_wp2_with (first | ((with_reducible refine gate_callee (f := 20) rfl ?_); refine goesL_ (some 20) rfl rfl Try.func20 (by kernel_rfl) rfl #[.int .i64 a0, .int .i64 a1] rfl (by (try simp only [List.map_toArray, List.map_cons, List.map_nil]); first | done | rfl | (simp only [List.length_drop, List.length_take]; rfl)) ?_; (with_reducible refine (octal_Fits.calls kj4 a0 a1 t196 _ A12.out).mono ?_); rintro e w' ⟨rfl, ⟨nd, rfl⟩⟩; refine ⟨_, rfl, ?_⟩))
                go_ret
                exact ⟨by first | rfl | (simp [errW_none, errW_some] <;> rfl) | (simp only [← hji9, ← hji11]; first | rfl | (simp [errW_none, errW_some] <;> rfl)) | (simp [*, errW_none, errW_some] <;> rfl), by repeat (first | (with_reducible first | exact HB.out | apply below_alloc | apply pw_below_drewN | apply below_drew1) | exact HB.out)⟩
            · rw [if_neg c13] at H
              have c13b0 : decide (0 ≤ a0) = false := decide_eq_false c13
              clear c13
              by_cases c18 : (t196 == false) = true
              · rw [if_pos c18] at H
                have c18b0 : (t196 == false) = true := c18
                (try (have c18b1 : decide (t196 = false) = true := by simpa using c18))
                (try (have c18b2 : (t196 == false) = true := by simpa using c18))
                clear c18
                replace H := Option.bind_eq_some_iff.mp H
                obtain ⟨t199, A190, H⟩ := H
                replace H : (if t199 = true then ((octal_Fits.f kj4 a0 (wrap64 (a1 + 1))).bind fun t200 => (some t200)) else (some true)) = some r := H
                have A19 := Aside0.mk A190
                clear A190
                by_cases c20 : t199 = true
                · subst c20
                  have H1 : ((octal_Fits.f kj4 a0 (wrap64 (a1 + 1))).bind fun t200 => (some t200)) = some r := by rw [if_pos rfl] at H; exact H
                  clear H
                  have H := H1
                  clear H1
                  replace H := Option.bind_eq_some_iff.mp H
                  obtain ⟨t200, A210, H⟩ := H
                  replace H : (some t200) = some r := H
                  have A21 := Aside0.mk A210
                  clear A210
                  obtain rfl := Option.some.inj H
                  go_wp2_with (first | ((with_reducible refine gate_callee (f := 20) rfl ?_); refine goesL_ (some 20) rfl rfl Try.func20 (by kernel_rfl) rfl #[.int .i64 a0, .int .i64 a1] rfl (by (try simp only [List.map_toArray, List.map_cons, List.map_nil]); first | done | rfl | (simp only [List.length_drop, List.length_take]; rfl)) ?_; (with_reducible refine (octal_Fits.calls kj4 a0 a1 t196 _ A12.out).mono ?_); rintro e w' ⟨rfl, ⟨nd, rfl⟩⟩; refine ⟨_, rfl, ?_⟩) | (go_at_call 20; (with_reducible refine (octal_Fits.calls kj4 a0 a1 true _ A19.out).mono ?_); rintro e w' ⟨rfl, ⟨nd, rfl⟩⟩) | (go_at_call 20; (with_reducible refine (octal_Fits.calls kj4 a0 (wrap64 (a1 + 1)) t200 _ A21.out).mono ?_); rintro e w' ⟨rfl, ⟨nd, rfl⟩⟩))
                  go_ret
                  exact ⟨by first | rfl | (simp [errW_none, errW_some] <;> rfl) | (simp only [← hji9, ← hji11]; first | rfl | (simp [errW_none, errW_some] <;> rfl)) | (simp [*, errW_none, errW_some] <;> rfl), by repeat (first | (with_reducible first | exact HB.out | apply below_alloc | apply pw_below_drewN | apply below_drew1) | exact HB.out)⟩
                · replace c20 := Bool.eq_false_iff.mpr c20
                  subst c20
                  have H1 : (some true) = some r := by rw [if_neg (show ¬ (false = true) by decide)] at H; exact H
                  clear H
                  have H := H1
                  clear H1
                  obtain rfl := Option.some.inj H
                  go_wp2_with (first | ((with_reducible refine gate_callee (f := 20) rfl ?_); refine goesL_ (some 20) rfl rfl Try.func20 (by kernel_rfl) rfl #[.int .i64 a0, .int .i64 a1] rfl (by (try simp only [List.map_toArray, List.map_cons, List.map_nil]); first | done | rfl | (simp only [List.length_drop, List.length_take]; rfl)) ?_; (with_reducible refine (octal_Fits.calls kj4 a0 a1 t196 _ A12.out).mono ?_); rintro e w' ⟨rfl, ⟨nd, rfl⟩⟩; refine ⟨_, rfl, ?_⟩) | (go_at_call 20; (with_reducible refine (octal_Fits.calls kj4 a0 a1 false _ A19.out).mono ?_); rintro e w' ⟨rfl, ⟨nd, rfl⟩⟩))
                  go_ret
                  exact ⟨by first | rfl | (simp [errW_none, errW_some] <;> rfl) | (simp only [← hji9, ← hji11]; first | rfl | (simp [errW_none, errW_some] <;> rfl)) | (simp [*, errW_none, errW_some] <;> rfl), by repeat (first | (with_reducible first | exact HB.out | apply below_alloc | apply pw_below_drewN | apply below_drew1) | exact HB.out)⟩
              · rw [if_neg c18] at H
                have c18b0 : (t196 == false) = false := by simpa using c18
                (try (have c18b1 : decide (t196 = false) = false := by simpa using c18))
                (try (have c18b2 : (t196 == false) = false := by simpa using c18))
                (try (have c18b3 : ¬ (t196 = false) := by simpa using c18))
                clear c18
                obtain rfl := Option.some.inj H
                go_wp2_with (first | ((with_reducible refine gate_callee (f := 20) rfl ?_); refine goesL_ (some 20) rfl rfl Try.func20 (by kernel_rfl) rfl #[.int .i64 a0, .int .i64 a1] rfl (by (try simp only [List.map_toArray, List.map_cons, List.map_nil]); first | done | rfl | (simp only [List.length_drop, List.length_take]; rfl)) ?_; (with_reducible refine (octal_Fits.calls kj4 a0 a1 t196 _ A12.out).mono ?_); rintro e w' ⟨rfl, ⟨nd, rfl⟩⟩; refine ⟨_, rfl, ?_⟩))
                go_ret
                exact ⟨by first | rfl | (simp [errW_none, errW_some] <;> rfl) | (simp only [← hji9, ← hji11]; first | rfl | (simp [errW_none, errW_some] <;> rfl)) | (simp [*, errW_none, errW_some] <;> rfl), by repeat (first | (with_reducible first | exact HB.out | apply below_alloc | apply pw_below_drewN | apply below_drew1) | exact HB.out)⟩
          · rw [if_neg c10] at H
            exact absurd H (by simp)
  · replace c4 := Bool.eq_false_iff.mpr c4
    subst c4
    have H1 : (some false) = some r := by rw [if_neg (show ¬ (false = true) by decide)] at H; exact H
    clear H
    have H := H1
    clear H1
    obtain rfl := Option.some.inj H
    go_enter Try.func7, Try.ntmps7
    go_wp2_with (first | ((with_reducible refine gate_callee (f := 15) rfl ?_); refine goesL_ (some 6) rfl rfl Try.func15 (by kernel_rfl) rfl #[] rfl (by (try simp only [List.map_toArray, List.map_cons, List.map_nil]); first | done | rfl | (simp only [List.length_drop, List.length_take]; rfl)) ?_; (with_reducible refine (pannierlaw02_reads.calls  false _ A3.out).mono ?_); rintro e w22 ⟨rfl, hb⟩; refine ⟨_, rfl, ?_⟩; have n0_ := Aside0.mk (below_step (by repeat (first | (with_reducible first | exact HB.out | apply below_alloc | apply pw_below_drewN | apply below_drew1) | exact HB.out)) hb); clear HB; have HB := n0_; clear n0_; (try clear hb); (try clear hb2); (try clear hk); (try clear hi)))
    go_ret
    exact ⟨by first | rfl | (simp [errW_none, errW_some] <;> rfl) | (simp [*, errW_none, errW_some] <;> rfl), by repeat (first | (with_reducible first | exact HB.out | apply below_alloc | apply pw_below_drewN | apply below_drew1) | exact HB.out)⟩

/-- THE ONE PURE STATEMENT of pannierlaw02_OctalWidth: yours. -/
def pannierlaw02_OctalWidth.Pure : Prop := ∀ (a0 : Int) (a1 : Int), (Lit.int .i64 a0).wf = true → (Lit.int .i64 a1).wf = true → ∃ k, pannierlaw02_OctalWidth.f k a0 a1 = some true
theorem pannierlaw02_OctalWidth.walk (P : pannierlaw02_OctalWidth.Pure) (a0 : Int) (a1 : Int) (w : World) (w0 : (Lit.int .i64 a0).wf = true) (w1 : (Lit.int .i64 a1).wf = true) :
    Calls Try.prog 7 #[.int .i64 a0, .int .i64 a1] w fun e w' => e = .returned (.bool true) ∧ Below w.heap.size w w' := by
  obtain ⟨k, h⟩ := P a0 a1 w0 w1
  refine (pannierlaw02_OctalWidth.calls k a0 a1 true w h).mono ?_
  rintro e w' ⟨rfl, hd⟩
  exact ⟨rfl, hd⟩

end Go.Proofs.Yteeofjlohaeinaa.XA
