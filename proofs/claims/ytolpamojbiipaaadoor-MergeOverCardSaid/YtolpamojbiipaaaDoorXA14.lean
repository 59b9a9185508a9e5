/- joined by xlay.py: XA13, XA14 -/
import Derived.Test.YtolpamojbiipaaaDoorXA0
import Derived.Test.YtolpamojbiipaaaDoorXA3
-- Written by a program of this session (wip/tools/xprint.py) out of the translation's print. Lean checks it.


namespace Go.Proofs.YtolpamojbiipaaaDoor.XA
open Go.RowKit Go.Proofs.YtolpamojbiipaaaDoorW.PrintWords Go.Proofs.YtolpamojbiipaaaDoorW.PrintLast Go.Proofs.YtolpamojbiipaaaDoorW.PrintMore
attribute [local go_sem] max2_int min2_int max_two min_two max_three min_three max_four min_four   -- for this text's walks alone
set_option linter.unusedVariables false
set_option linter.unusedSimpArgs false

/-! ### pannierref13_Find: function 31 -/
def pannierref13_Find.l0 : Nat → ByteArray → Int → List (S73) → Int → Option (Int)
 | 0, _, _, _, _ => none
 | k + 1, x1, x5, x455000, x455001 => if x5 < (x455000.length : Int) then (if 0 ≤ x5 then (if ((rd_T73 x455000 x5).f0).toList = x1.toList then (some x5) else (pannierref13_Find.l0 k x1 (wrap64 (x5 + 1)) x455000 x455001)) else (none)) else (some (-1))
def pannierref13_Find.f (k : Nat) (l0_0 : List (S73)) (a0_1 : Int) (a1 : ByteArray) : Option (Int) := pannierref13_Find.l0 k a1 0 l0_0 a0_1
theorem pannierref13_Find.mono_l : ∀ k, (∀ y0 y1 y2 y3, LeO (pannierref13_Find.l0 k y0 y1 y2 y3) (pannierref13_Find.l0 (k + 1) y0 y1 y2 y3))
 | 0 => fun _ _ _ _ r h => by simp [pannierref13_Find.l0] at h
 | k + 1 => by
  have ih0 := pannierref13_Find.mono_l k
  ·intro y0 y1 y2 y3
   unfold pannierref13_Find.l0
   repeat' first
   | (with_reducible exact ih0 _ _ _ _)
   | (with_reducible exact LeO.refl _)
   | (with_reducible exact LeO.none _)
   | (with_reducible refine LeO.ite ?_ ?_)
   | (with_reducible refine LeO.bind ?_ (fun _ => ?_))
   | exact ih0 _ _ _ _
   | exact LeO.none _
   | refine LeO.ite ?_ ?_
   | refine LeO.bind ?_ (fun _ => ?_)
theorem pannierref13_Find.mono : ∀ a0 a1 a2 k, LeO (pannierref13_Find.f k a0 a1 a2) (pannierref13_Find.f (k + 1) a0 a1 a2) := by
 intro a0 a1 a2 k
 have ih0 := pannierref13_Find.mono_l k
 unfold pannierref13_Find.f
 repeat' first
   | (with_reducible exact ih0 _ _ _ _)
   | (with_reducible exact LeO.refl _)
   | (with_reducible exact LeO.none _)
   | (with_reducible refine LeO.ite ?_ ?_)
   | (with_reducible refine LeO.bind ?_ (fun _ => ?_))
   | exact ih0 _ _ _ _
   | exact LeO.none _
   | refine LeO.ite ?_ ?_
   | refine LeO.bind ?_ (fun _ => ?_)
set_option maxHeartbeats 8000000 in
set_option maxRecDepth 100000 in
theorem pannierref13_Find.calls (k : Nat) (A0_0 : Option Addr) (c0_0 : Nat) (l0_0 : List (S73)) (a0_1 : Int) (a1 : ByteArray) (r : Int) (w : World) (hr0_0 : Kd.C k73 w A0_0 l0_0.length l0_0) (hc0_0 : l0_0.length ≤ c0_0) (h : pannierref13_Find.f k l0_0 a0_1 a1 = some r) :
  Calls Tryd.prog 31 #[.agg #[.slice A0_0 l0_0.length c0_0, .int .i64 a0_1], .string a1] w fun e w' => e = .returned (.int .i64 r) ∧ Below w.heap.size w w' := by
 have hu64 := Tryd.underlying64
 have HR0_0 := Aside0.mk hr0_0
 have HC0_0 := Aside0.mk hc0_0
 clear hr0_0 hc0_0
 have HB := Aside0.mk (Below.refl w.heap.size w)
 have H : (pannierref13_Find.l0 k a1 0 l0_0 a0_1) = some r := h
 clear h
 have H' := Aside0.mk H
 clear H
 go_enter Tryd.func31, Tryd.ntmps31
 go_wp2_with (first | ((with_reducible refine gate_dst (N := 2) rfl ?_); refine box_event ?hg (N := 2) ?hd (cs := #[.slice A0_0 l0_0.length c0_0, .int .i64 a0_1]) (t := 64) ?hr ?_; (case hd => rfl); (case hg => rfl); (case hr => first | (go_simp; done) | (go_simp; rfl)); intro gb454 hg w3 hbox hb; have n0_ := Aside0.mk (below_step (by repeat (first | (with_reducible first | exact HB.out | apply below_alloc | apply pw_below_drewN | apply below_drew1) | exact HB.out)) hb); have n1_ := Aside0.mk (hbox); have n2_ := Aside0.mk ((by rw [hg]; exact (below_size (by repeat (first | (with_reducible first | exact HB.out | apply below_alloc | apply pw_below_drewN | apply below_drew1) | exact HB.out))) : w.heap.size ≤ gb454)); have n3_ := Aside0.mk ((by rw [hg]; exact (below_size (by repeat (first | (with_reducible first | exact HB.out | apply below_alloc | apply pw_below_drewN | apply below_drew1) | exact HB.out))) : w.heap.size ≤ gb454)); clear HB; have HB := n0_; have BK454 := n1_; have GW454 := n2_; have GE454 := n3_; clear n0_ n1_ n2_ n3_; clear hb hbox hg))
 go_loopg [5] k (fun kq v5 w' => ∃ (x5_1 : Int), v5 = .int .i64 x5_1 ∧ Aside0 (pannierref13_Find.l0 kq a1 x5_1 l0_0 a0_1 = some r) ∧ Aside0 (kq ≤ k) ∧ Aside0 (w'.heap[gb454]? = some (.cells #[(.slice A0_0 l0_0.length c0_0), .int .i64 a0_1] 64 (0, 0))) ∧ Aside0 (Below w.heap.size w w'))
 case atStart => exact ⟨(0), (by first | rfl | (simp; done) | (simp [*]; done)), H', ⟨Nat.le_refl _⟩, ⟨by (with_reducible repeat (first | refine blk_drewN ?_ _ | refine blk_drew ?_ | refine blk_alloc ?_ _)); exact BK454.out⟩, ⟨by repeat (first | (with_reducible first | exact HB.out | apply below_alloc | apply pw_below_drewN | apply below_drew1 | refine below_set ?_ GE454.out) | exact HB.out)⟩⟩
 case round =>
  clear H'
  try clear p2
  try clear c3
  obtain ⟨x5_1, rfl, HA, HK1, BK454, HB⟩ := hrel
  cases gk with
  | zero => exact absurd HA.out (by simp [pannierref13_Find.l0])
  | succ k1 =>
   have H := HA.out
   clear HA
   simp only [pannierref13_Find.l0] at H
   by_cases c4 : x5_1 < (l0_0.length : Int)
   ·rw [if_pos c4] at H
    have c4b0 : decide (x5_1 < (l0_0.length : Int)) = true := decide_eq_true c4
    clear c4
    by_cases c5 : 0 ≤ x5_1
    ·rw [if_pos c5] at H
     have c5b0 : decide (0 ≤ x5_1) = true := decide_eq_true c5
     clear c5
     by_cases c6 : ((rd_T73 l0_0 x5_1).f0).toList = a1.toList
     ·rw [if_pos c6] at H
      have c6b0 : (((rd_T73 l0_0 x5_1).f0).toList == a1.toList) = true := beq_iff_eq.mpr c6
      have c6b1 : (((rd_T73 l0_0 x5_1).f0).toList != a1.toList) = false := bne_eq_false_iff_eq.mpr c6
      clear c6
      obtain rfl := Option.some.inj H
      have hcz7_0 : wr.cell? ⟨gb454, 0, none⟩ = some (.slice A0_0 l0_0.length c0_0) := (blk_cell BK454.out 0).trans rfl
      have hcz7_1 : wr.cell? ⟨gb454, 1, none⟩ = some (.int .i64 a0_1) := (blk_cell BK454.out 1).trans rfl
      have hfz7_0 := blk_frozen BK454.out 0
      have hfz7_1 := blk_frozen BK454.out 1
      have p455 : 0 ≤ (x5_1 : Int) := of_decide_eq_true (by first | (with_reducible assumption) | assumption)
      have q455 : x5_1 < (l0_0.length : Int) := of_decide_eq_true (by first | (with_reducible assumption) | assumption)
      obtain ⟨ad455, e455, hx455_0, hx455_1, hx455_2, hx455_3, hx455_4⟩ := at_T73 HR0_0.out x5_1 p455 q455
      cases e455
      replace hx455_0 := (HB.out.cell (World.block_lt_of_cell? w _ hx455_0)).trans hx455_0
      replace hx455_1 := (HB.out.cell (World.block_lt_of_cell? w _ hx455_1)).trans hx455_1
      replace hx455_2 := (HB.out.cell (World.block_lt_of_cell? w _ hx455_2)).trans hx455_2
      replace hx455_3 := (HB.out.cell (World.block_lt_of_cell? w _ hx455_3)).trans hx455_3
      replace hx455_4 := (HB.out.cell (World.block_lt_of_cell? w _ hx455_4)).trans hx455_4
      replace p455 := eq_true p455
      replace q455 := eq_true q455
      go_wp2
      all_goals (go_ret; exact ⟨by first | rfl | (simp [errW_none, errW_some] <;> rfl) | (simp [*, errW_none, errW_some] <;> rfl), by repeat (first | (with_reducible first | exact HB.out | apply below_alloc | apply pw_below_drewN | apply below_drew1 | refine below_set ?_ GE454.out) | exact HB.out)⟩)
     ·rw [if_neg c6] at H
      have c6b0 : (((rd_T73 l0_0 x5_1).f0).toList == a1.toList) = false := beq_eq_false_iff_ne.mpr c6
      have c6b1 : (((rd_T73 l0_0 x5_1).f0).toList != a1.toList) = true := bne_iff_ne.mpr c6
      have H' := Aside0.mk H
      clear H
      have hcz8_0 : wr.cell? ⟨gb454, 0, none⟩ = some (.slice A0_0 l0_0.length c0_0) := (blk_cell BK454.out 0).trans rfl
      have hcz8_1 : wr.cell? ⟨gb454, 1, none⟩ = some (.int .i64 a0_1) := (blk_cell BK454.out 1).trans rfl
      have hfz8_0 := blk_frozen BK454.out 0
      have hfz8_1 := blk_frozen BK454.out 1
      have p455 : 0 ≤ (x5_1 : Int) := of_decide_eq_true (by first | (with_reducible assumption) | assumption)
      have q455 : x5_1 < (l0_0.length : Int) := of_decide_eq_true (by first | (with_reducible assumption) | assumption)
      obtain ⟨ad455, e455, hx455_0, hx455_1, hx455_2, hx455_3, hx455_4⟩ := at_T73 HR0_0.out x5_1 p455 q455
      cases e455
      replace hx455_0 := (HB.out.cell (World.block_lt_of_cell? w _ hx455_0)).trans hx455_0
      replace hx455_1 := (HB.out.cell (World.block_lt_of_cell? w _ hx455_1)).trans hx455_1
      replace hx455_2 := (HB.out.cell (World.block_lt_of_cell? w _ hx455_2)).trans hx455_2
      replace hx455_3 := (HB.out.cell (World.block_lt_of_cell? w _ hx455_3)).trans hx455_3
      replace hx455_4 := (HB.out.cell (World.block_lt_of_cell? w _ hx455_4)).trans hx455_4
      replace p455 := eq_true p455
      replace q455 := eq_true q455
      go_wp2
      go_roundg k1
      case measure => have := HK1.out; omega
      case rel => exact ⟨(wrap64 (x5_1 + 1)), (by first | rfl | (simp; done) | (simp [*]; done)), H', ⟨by have := HK1.out; omega⟩, ⟨by (with_reducible repeat (first | refine blk_drewN ?_ _ | refine blk_drew ?_ | refine blk_alloc ?_ _)); exact BK454.out⟩, ⟨by repeat (first | (with_reducible first | exact HB.out | apply below_alloc | apply pw_below_drewN | apply below_drew1 | refine below_set ?_ GE454.out) | exact HB.out)⟩⟩
    ·rw [if_neg c5] at H
     exact absurd H (by simp)
   ·rw [if_neg c4] at H
    have c4b0 : decide (x5_1 < (l0_0.length : Int)) = false := decide_eq_false c4
    clear c4
    obtain rfl := Option.some.inj H
    have hcz9_0 : wr.cell? ⟨gb454, 0, none⟩ = some (.slice A0_0 l0_0.length c0_0) := (blk_cell BK454.out 0).trans rfl
    have hcz9_1 : wr.cell? ⟨gb454, 1, none⟩ = some (.int .i64 a0_1) := (blk_cell BK454.out 1).trans rfl
    have hfz9_0 := blk_frozen BK454.out 0
    have hfz9_1 := blk_frozen BK454.out 1
    go_wp2
    all_goals (go_ret; exact ⟨by first | rfl | (simp [errW_none, errW_some] <;> rfl) | (simp [*, errW_none, errW_some] <;> rfl), by repeat (first | (with_reducible first | exact HB.out | apply below_alloc | apply pw_below_drewN | apply below_drew1 | refine below_set ?_ GE454.out) | exact HB.out)⟩)

/-! ### pannierref13_with: function 70 -/
def pannierref13_with.f (k : Nat) (l0_0 : List (S73)) (a0_1 : Int) (a1_0 : ByteArray) (a1_1 : Int) (a1_2 : Int) (a1_3 : Bool) (a1_4 : Int) : Option ((List (S73)) × Int) := (some (([] : List (S73)) : List (S73))).bind fun y459 => (if y459.length + l0_0.length < 2932031007402 then ((some (y459 ++ l0_0 : List (S73))).bind fun y462 => ((pannierref13_Find.f k l0_0 a0_1 a1_0).bind fun t465 => (if t465 < 0 then (if y462.length < 2932031007402 then (some ((y462 ++ [(⟨a1_0, a1_1, a1_2, a1_3, a1_4⟩ : S73)]), a0_1)) else (none)) else (if 0 ≤ t465 then (if t465 < (y462.length : Int) then (some ((y462.set (t465 : Int).toNat (⟨a1_0, a1_1, a1_2, a1_3, a1_4⟩ : S73)), a0_1)) else (none)) else (none))))) else (none))
theorem pannierref13_with.mono : ∀ a0 a1 a2 a3 a4 a5 a6 k, LeO (pannierref13_with.f k a0 a1 a2 a3 a4 a5 a6) (pannierref13_with.f (k + 1) a0 a1 a2 a3 a4 a5 a6) := by
 intro a0 a1 a2 a3 a4 a5 a6 k
 unfold pannierref13_with.f
 repeat' first
   | (with_reducible exact pannierref13_Find.mono _ _ _ _)
   | (with_reducible exact LeO.refl _)
   | (with_reducible exact LeO.none _)
   | (with_reducible refine LeO.ite ?_ ?_)
   | (with_reducible refine LeO.bind ?_ (fun _ => ?_))
   | exact pannierref13_Find.mono _ _ _ _
   | exact LeO.none _
   | refine LeO.ite ?_ ?_
   | refine LeO.bind ?_ (fun _ => ?_)
set_option maxHeartbeats 8000000 in
set_option maxRecDepth 100000 in
theorem pannierref13_with.calls (k : Nat) (A0_0 : Option Addr) (c0_0 : Nat) (l0_0 : List (S73)) (a0_1 : Int) (a1_0 : ByteArray) (a1_1 : Int) (a1_2 : Int) (a1_3 : Bool) (a1_4 : Int) (r1 : List (S73)) (r2 : Int) (w : World) (hr0_0 : Kd.C k73 w A0_0 l0_0.length l0_0) (hc0_0 : l0_0.length ≤ c0_0) (h : pannierref13_with.f k l0_0 a0_1 a1_0 a1_1 a1_2 a1_3 a1_4 = some (r1, r2)) :
  Calls Tryd.prog 70 #[.agg #[.slice A0_0 l0_0.length c0_0, .int .i64 a0_1], .agg #[.string a1_0, .int .i64 a1_1, .int .i64 a1_2, .bool a1_3, .int .i64 a1_4]] w fun e w' => ∃ v0_ : Value, e = .returned (.agg #[v0_, .int .i64 r2]) ∧ Kd.R k73 73 w' w.heap.size (fun _ => True) v0_ r1 ∧ Below w.heap.size w w' := by
 have hu64 := Tryd.underlying64
 have hu73 := Tryd.underlying73
 have HR0_0 := Aside0.mk hr0_0
 have HC0_0 := Aside0.mk hc0_0
 clear hr0_0 hc0_0
 have HB := Aside0.mk (Below.refl w.heap.size w)
 have H : ((some (([] : List (S73)) : List (S73))).bind fun y459 => (if y459.length + l0_0.length < 2932031007402 then ((some (y459 ++ l0_0 : List (S73))).bind fun y462 => ((pannierref13_Find.f k l0_0 a0_1 a1_0).bind fun t465 => (if t465 < 0 then (if y462.length < 2932031007402 then (some ((y462 ++ [(⟨a1_0, a1_1, a1_2, a1_3, a1_4⟩ : S73)]), a0_1)) else (none)) else (if 0 ≤ t465 then (if t465 < (y462.length : Int) then (some ((y462.set (t465 : Int).toNat (⟨a1_0, a1_1, a1_2, a1_3, a1_4⟩ : S73)), a0_1)) else (none)) else (none))))) else (none))) = some (r1, r2) := h
 clear h
 obtain ⟨y459, hy459⟩ : ∃ y_ : List (S73), y_ = (([] : List (S73))) := ⟨_, rfl⟩
 replace H : (if y459.length + l0_0.length < 2932031007402 then ((some (y459 ++ l0_0 : List (S73))).bind fun y462 => ((pannierref13_Find.f k l0_0 a0_1 a1_0).bind fun t465 => (if t465 < 0 then (if y462.length < 2932031007402 then (some ((y462 ++ [(⟨a1_0, a1_1, a1_2, a1_3, a1_4⟩ : S73)]), a0_1)) else (none)) else (if 0 ≤ t465 then (if t465 < (y462.length : Int) then (some ((y462.set (t465 : Int).toNat (⟨a1_0, a1_1, a1_2, a1_3, a1_4⟩ : S73)), a0_1)) else (none)) else (none))))) else (none)) = some (r1, r2) := by first | (rw [hy459]; with_reducible exact H) | (have H2_ := (Option.bind_some _ _).symm.trans H; rw [hy459]; with_reducible exact H2_) | (have H2_ := (Option.bind_some _ _).symm.trans H; with_reducible exact H2_) | with_reducible exact H | (rw [hy459]; exact H) | exact H
 have Ny459 := Aside0.mk hy459
 clear hy459
 by_cases c3 : y459.length + l0_0.length < 2932031007402
 ·rw [if_pos c3] at H
  have LMc3 := Aside0.mk c3
  clear c3
  obtain ⟨y462, hy462⟩ : ∃ y_ : List (S73), y_ = (y459 ++ l0_0) := ⟨_, rfl⟩
  replace H : ((pannierref13_Find.f k l0_0 a0_1 a1_0).bind fun t465 => (if t465 < 0 then (if y462.length < 2932031007402 then (some ((y462 ++ [(⟨a1_0, a1_1, a1_2, a1_3, a1_4⟩ : S73)]), a0_1)) else (none)) else (if 0 ≤ t465 then (if t465 < (y462.length : Int) then (some ((y462.set (t465 : Int).toNat (⟨a1_0, a1_1, a1_2, a1_3, a1_4⟩ : S73)), a0_1)) else (none)) else (none)))) = some (r1, r2) := by first | (rw [hy462]; with_reducible exact H) | (have H2_ := (Option.bind_some _ _).symm.trans H; rw [hy462]; with_reducible exact H2_) | (have H2_ := (Option.bind_some _ _).symm.trans H; with_reducible exact H2_) | with_reducible exact H | (rw [hy462]; exact H) | exact H
  have Ny462 := Aside0.mk hy462
  clear hy462
  replace H := Option.bind_eq_some_iff.mp H
  obtain ⟨t465, A40, H⟩ := H
  replace H : (if t465 < 0 then (if y462.length < 2932031007402 then (some ((y462 ++ [(⟨a1_0, a1_1, a1_2, a1_3, a1_4⟩ : S73)]), a0_1)) else (none)) else (if 0 ≤ t465 then (if t465 < (y462.length : Int) then (some ((y462.set (t465 : Int).toNat (⟨a1_0, a1_1, a1_2, a1_3, a1_4⟩ : S73)), a0_1)) else (none)) else (none))) = some (r1, r2) := H
  have A4 := Aside0.mk A40
  clear A40
  by_cases c5 : t465 < 0
  ·rw [if_pos c5] at H
   have c5b0 : decide (t465 < 0) = true := decide_eq_true c5
   clear c5
   by_cases c6 : y462.length < 2932031007402
   ·rw [if_pos c6] at H
    have LMc6 := Aside0.mk c6
    clear c6
    obtain ⟨y466, hy466⟩ : ∃ y_ : List (S73), y_ = (y462 ++ [(⟨a1_0, a1_1, a1_2, a1_3, a1_4⟩ : S73)]) := ⟨_, rfl⟩
    replace H : (some (y466, a0_1)) = some (r1, r2) := by first | (rw [hy466]; with_reducible exact H) | (have H2_ := (Option.bind_some _ _).symm.trans H; rw [hy466]; with_reducible exact H2_) | (have H2_ := (Option.bind_some _ _).symm.trans H; with_reducible exact H2_) | with_reducible exact H | (rw [hy466]; exact H) | exact H
    have Ny466 := Aside0.mk hy466
    clear hy466
    simp only [Option.some.injEq, Prod.mk.injEq] at H
    obtain ⟨rfl, rfl⟩ := H
    go_enter Tryd.func70, Tryd.ntmps70
    go_wp2_with (first | ((with_reducible refine gate_dst (N := 2) rfl ?_); refine box_event ?hg (N := 2) ?hd (cs := #[.slice A0_0 l0_0.length c0_0, .int .i64 a0_1]) (t := 64) ?hr ?_; (case hd => rfl); (case hg => rfl); (case hr => first | (go_simp; done) | (go_simp; rfl)); intro gb456 hg w7 hbox hb; have n0_ := Aside0.mk (below_step (by repeat (first | (with_reducible first | exact HB.out | apply below_alloc | apply pw_below_drewN | apply below_drew1) | exact HB.out)) hb); have n1_ := Aside0.mk (hbox); have n2_ := Aside0.mk ((by rw [hg]; exact (below_size (by repeat (first | (with_reducible first | exact HB.out | apply below_alloc | apply pw_below_drewN | apply below_drew1) | exact HB.out))) : w.heap.size ≤ gb456)); have n3_ := Aside0.mk ((by rw [hg]; exact (below_size (by repeat (first | (with_reducible first | exact HB.out | apply below_alloc | apply pw_below_drewN | apply below_drew1) | exact HB.out))) : w.heap.size ≤ gb456)); clear HB; have HB := n0_; have BK456 := n1_; have GW456 := n2_; have GE456 := n3_; clear n0_ n1_ n2_ n3_; clear hb hbox hg) | ((with_reducible refine gate_dst (N := 3) rfl ?_); refine box_event ?hg (N := 3) ?hd (cs := #[.string a1_0, .int .i64 a1_1, .int .i64 a1_2, .bool a1_3, .int .i64 a1_4]) (t := 73) ?hr ?_; (case hd => rfl); (case hg => rfl); (case hr => first | (go_simp; done) | (go_simp; rfl)); intro gb457 hg w8 hbox hb; have n0_ := Aside0.mk (blk_below (g := gb456) (o := .cells #[.slice A0_0 l0_0.length c0_0, .int .i64 a0_1] 64 (0, 0)) (by (with_reducible repeat (first | refine blk_drewN ?_ _ | refine blk_drew ?_ | refine blk_alloc ?_ _)); exact BK456.out) hb); have n1_ := Aside0.mk (below_step (by repeat (first | (with_reducible first | exact HB.out | apply below_alloc | apply pw_below_drewN | apply below_drew1 | refine below_set ?_ GE456.out) | exact HB.out)) hb); have n2_ := Aside0.mk (hbox); have n3_ := Aside0.mk ((by rw [hg]; exact (below_size (by repeat (first | (with_reducible first | exact HB.out | apply below_alloc | apply pw_below_drewN | apply below_drew1 | refine below_set ?_ GE456.out) | exact HB.out))) : w.heap.size ≤ gb457)); have n4_ := Aside0.mk ((by rw [hg]; exact (below_size (by repeat (first | (with_reducible first | exact HB.out | apply below_alloc | apply pw_below_drewN | apply below_drew1 | refine below_set ?_ GE456.out) | exact HB.out))) : w.heap.size ≤ gb457)); have n5_ := Aside0.mk ((by rw [hg]; exact Nat.ne_of_lt (blk_lt (g := gb456) (o := .cells #[.slice A0_0 l0_0.length c0_0, .int .i64 a0_1] 64 (0, 0)) (by (with_reducible repeat (first | refine blk_drewN ?_ _ | refine blk_drew ?_ | refine blk_alloc ?_ _)); exact BK456.out)) : gb456 ≠ gb457)); have n6_ := Aside0.mk ((by rw [hg]; exact Nat.ne_of_gt (blk_lt (g := gb456) (o := .cells #[.slice A0_0 l0_0.length c0_0, .int .i64 a0_1] 64 (0, 0)) (by (with_reducible repeat (first | refine blk_drewN ?_ _ | refine blk_drew ?_ | refine blk_alloc ?_ _)); exact BK456.out)) : gb457 ≠ gb456)); clear BK456; clear HB; have BK456 := n0_; have HB := n1_; have BK457 := n2_; have GW457 := n3_; have GE457 := n4_; have NB456_457 := n5_; have NB457_456 := n6_; clear n0_ n1_ n2_ n3_ n4_ n5_ n6_; clear hb hbox hg) | ((with_reducible refine gate_dst (N := 4) rfl ?_); refine box_event ?hg (N := 4) ?hd (cs := #[.slice none 0 0, .int .i64 0]) (t := 64) ?hr ?_; (case hd => rfl); (case hg => rfl); (case hr => first | (go_simp; done) | (go_simp; rfl)); intro gb458 hg w9 hbox hb; have n0_ := Aside0.mk (blk_below (g := gb456) (o := .cells #[.slice A0_0 l0_0.length c0_0, .int .i64 a0_1] 64 (0, 0)) (by (with_reducible repeat (first | refine blk_drewN ?_ _ | refine blk_drew ?_ | refine blk_alloc ?_ _)); exact BK456.out) hb); have n1_ := Aside0.mk (blk_below (g := gb457) (o := .cells #[.string a1_0, .int .i64 a1_1, .int .i64 a1_2, .bool a1_3, .int .i64 a1_4] 73 (0, 0)) (by (with_reducible repeat (first | refine blk_drewN ?_ _ | refine blk_drew ?_ | refine blk_alloc ?_ _)); exact BK457.out) hb); have n2_ := Aside0.mk (below_step (by repeat (first | (with_reducible first | exact HB.out | apply below_alloc | apply pw_below_drewN | apply below_drew1 | refine below_set ?_ GE456.out | refine below_set ?_ GE457.out) | exact HB.out)) hb); have n3_ := Aside0.mk (hbox); have n4_ := Aside0.mk ((by rw [hg]; exact (below_size (by repeat (first | (with_reducible first | exact HB.out | apply below_alloc | apply pw_below_drewN | apply below_drew1 | refine below_set ?_ GE456.out | refine below_set ?_ GE457.out) | exact HB.out))) : w.heap.size ≤ gb458)); have n5_ := Aside0.mk ((by rw [hg]; exact (below_size (by repeat (first | (with_reducible first | exact HB.out | apply below_alloc | apply pw_below_drewN | apply below_drew1 | refine below_set ?_ GE456.out | refine below_set ?_ GE457.out) | exact HB.out))) : w.heap.size ≤ gb458)); have n6_ := Aside0.mk ((by rw [hg]; exact Nat.ne_of_lt (blk_lt (g := gb456) (o := .cells #[.slice A0_0 l0_0.length c0_0, .int .i64 a0_1] 64 (0, 0)) (by (with_reducible repeat (first | refine blk_drewN ?_ _ | refine blk_drew ?_ | refine blk_alloc ?_ _)); exact BK456.out)) : gb456 ≠ gb458)); have n7_ := Aside0.mk ((by rw [hg]; exact Nat.ne_of_gt (blk_lt (g := gb456) (o := .cells #[.slice A0_0 l0_0.length c0_0, .int .i64 a0_1] 64 (0, 0)) (by (with_reducible repeat (first | refine blk_drewN ?_ _ | refine blk_drew ?_ | refine blk_alloc ?_ _)); exact BK456.out)) : gb458 ≠ gb456)); have n8_ := Aside0.mk ((by rw [hg]; exact Nat.ne_of_lt (blk_lt (g := gb457) (o := .cells #[.string a1_0, .int .i64 a1_1, .int .i64 a1_2, .bool a1_3, .int .i64 a1_4] 73 (0, 0)) (by (with_reducible repeat (first | refine blk_drewN ?_ _ | refine blk_drew ?_ | refine blk_alloc ?_ _)); exact BK457.out)) : gb457 ≠ gb458)); have n9_ := Aside0.mk ((by rw [hg]; exact Nat.ne_of_gt (blk_lt (g := gb457) (o := .cells #[.string a1_0, .int .i64 a1_1, .int .i64 a1_2, .bool a1_3, .int .i64 a1_4] 73 (0, 0)) (by (with_reducible repeat (first | refine blk_drewN ?_ _ | refine blk_drew ?_ | refine blk_alloc ?_ _)); exact BK457.out)) : gb458 ≠ gb457)); clear BK456; clear BK457; clear HB; have BK456 := n0_; have BK457 := n1_; have HB := n2_; have BK458 := n3_; have GW458 := n4_; have GE458 := n5_; have NB456_458 := n6_; have NB458_456 := n7_; have NB457_458 := n8_; have NB458_457 := n9_; clear n0_ n1_ n2_ n3_ n4_ n5_ n6_ n7_ n8_ n9_; clear hb hbox hg) | ((with_reducible refine gate_dst (N := 7) rfl ?_); refine Kd.R_lit k73 _ 73 ?hg (N := 7) ?hd (xs := ([] : List (S73))) (inner := []) (ok := fun _ => True) (okp := fun _ => True) ?hr ?hp (fun _ hk => hk) trivial (Below.refl _ _) (Nat.le_refl _) (by simp) ?_; (case hd => rfl); (case hg => rfl); (case hr => first | (go_simp; done) | (go_simp; rfl)); (case hp => exact (Reps.none _ _)); intro v460 w10 ho11 hb hg_ hnew_; clear hg_ hnew_; (first | rw [← Ny459.out] at ho11 | (simp only [Int.reduceToNat] at ho11; rw [← Ny459.out] at ho11)); have n0_ := Aside0.mk (Kd.R_lower (Kd.R_newB ho11 (g := gb457) (o := .cells #[.string a1_0, .int .i64 a1_1, .int .i64 a1_2, .bool a1_3, .int .i64 a1_4] 73 (0, 0)) (by (with_reducible repeat (first | refine blk_drewN ?_ _ | refine blk_drew ?_ | refine blk_alloc ?_ _)); exact BK457.out)) (below_size (by repeat (first | (with_reducible first | exact HB.out | apply below_alloc | apply pw_below_drewN | apply below_drew1 | refine below_set ?_ GE456.out | refine below_set ?_ GE457.out | refine below_set ?_ GE458.out) | exact HB.out)))); have n1_ := Aside0.mk (blk_below (g := gb456) (o := .cells #[.slice A0_0 l0_0.length c0_0, .int .i64 a0_1] 64 (0, 0)) (by (with_reducible repeat (first | refine blk_drewN ?_ _ | refine blk_drew ?_ | refine blk_alloc ?_ _)); exact BK456.out) hb); have n2_ := Aside0.mk (blk_below (g := gb457) (o := .cells #[.string a1_0, .int .i64 a1_1, .int .i64 a1_2, .bool a1_3, .int .i64 a1_4] 73 (0, 0)) (by (with_reducible repeat (first | refine blk_drewN ?_ _ | refine blk_drew ?_ | refine blk_alloc ?_ _)); exact BK457.out) hb); have n3_ := Aside0.mk (blk_below (g := gb458) (o := .cells #[.slice none 0 0, .int .i64 0] 64 (0, 0)) (by (with_reducible repeat (first | refine blk_drewN ?_ _ | refine blk_drew ?_ | refine blk_alloc ?_ _)); exact BK458.out) hb); have n4_ := Aside0.mk (below_step (by repeat (first | (with_reducible first | exact HB.out | apply below_alloc | apply pw_below_drewN | apply below_drew1 | refine below_set ?_ GE456.out | refine below_set ?_ GE457.out | refine below_set ?_ GE458.out) | exact HB.out)) hb); clear BK456; clear BK457; clear BK458; clear HB; have HO461 := n0_; have BK456 := n1_; have BK457 := n2_; have BK458 := n3_; have HB := n4_; clear n0_ n1_ n2_ n3_ n4_; clear hb ho11; have hnb12 := NB456_457.out; have hnc12 := NB457_456.out; have hnb13 := NB456_458.out; have hnc13 := NB458_456.out; have hcz14_0 : w10.cell? ⟨gb456, 0, none⟩ = some (.slice A0_0 l0_0.length c0_0) := (blk_cell BK456.out 0).trans rfl; have hcz14_1 : w10.cell? ⟨gb456, 1, none⟩ = some (.int .i64 a0_1) := (blk_cell BK456.out 1).trans rfl; have hfz14_0 := blk_frozen BK456.out 0; have hfz14_1 := blk_frozen BK456.out 1) | ((with_reducible refine gate_builtin (b := .append) (xs := #[.tmp 7, .tmp 9]) rfl ?_); at_builtin; refine Kd.R_append_rows k73 (w0 := w) w.heap.size rfl (.tmp 7) (.tmp 9) 62 73 (.agg #[(.string ⟨#[]⟩), (.int .i64 0), (.int .i64 0), (.bool false), (.int .i64 0)]) 48 rfl Tryd.underlying62 info73 rfl (by decide) (by omega) v460 y459 l0_0 _ _ _ (fun k_ => k_ ≠ gb457) (fun _ => False) rfl rfl ?aO ?aR (fun _ _ h => h) (fun _ h => h.elim) ?aF ?aB ?aS ?aL ?_; (case aR => repeat (first | exact (Kd.C_below HR0_0.out HB.out) | (with_reducible refine Kd.C_alloc ?_ _) | (with_reducible refine Kd.C_drewN ?_ _) | (with_reducible refine Kd.C_drew ?_))); (case aB => exact (by repeat (first | (with_reducible first | exact HB.out | apply below_alloc | apply pw_below_drewN | apply below_drew1 | refine below_set ?_ GE456.out | refine below_set ?_ GE457.out | refine below_set ?_ GE458.out) | exact HB.out))); (case aF => exact (fun k_ hk => Kd.freshB (g := gb457) (o := .cells #[.string a1_0, .int .i64 a1_1, .int .i64 a1_2, .bool a1_3, .int .i64 a1_4] 73 (0, 0)) (by (with_reducible repeat (first | refine blk_drewN ?_ _ | refine blk_drew ?_ | refine blk_alloc ?_ _)); exact BK457.out) k_ hk)); (case aO => exact (by (with_reducible repeat (first | apply Kd.R_alloc | apply Kd.R_drewN | apply Kd.R_drew)); exact Kd.R_mono HO461.out (fun _ hk => hk.2))); (case aS => exact (below_size (by repeat (first | (with_reducible first | exact HB.out | apply below_alloc | apply pw_below_drewN | apply below_drew1 | refine below_set ?_ GE456.out | refine below_set ?_ GE457.out | refine below_set ?_ GE458.out) | exact HB.out)))); (case aL => have := LMc3.out; omega); intro v463 w15 ho hb hg hat; rw [← Ny462.out] at ho; have n0_ := Aside0.mk (blk_grown (g := gb456) (o := .cells #[.slice A0_0 l0_0.length c0_0, .int .i64 a0_1] 64 (0, 0)) (by (with_reducible repeat (first | refine blk_drewN ?_ _ | refine blk_drew ?_ | refine blk_alloc ?_ _)); exact BK456.out) hg (Kd.R_ne HO461.out BK456.out (by decide))); have n1_ := Aside0.mk (blk_grown (g := gb457) (o := .cells #[.string a1_0, .int .i64 a1_1, .int .i64 a1_2, .bool a1_3, .int .i64 a1_4] 73 (0, 0)) (by (with_reducible repeat (first | refine blk_drewN ?_ _ | refine blk_drew ?_ | refine blk_alloc ?_ _)); exact BK457.out) hg (Kd.R_away HO461.out (fun _ hk => hk.2))); have n2_ := Aside0.mk (blk_grown (g := gb458) (o := .cells #[.slice none 0 0, .int .i64 0] 64 (0, 0)) (by (with_reducible repeat (first | refine blk_drewN ?_ _ | refine blk_drew ?_ | refine blk_alloc ?_ _)); exact BK458.out) hg (Kd.R_ne HO461.out BK458.out (by decide))); have n3_ := Aside0.mk (hb); have n4_ := Aside0.mk (ho); clear BK456; clear BK457; clear BK458; clear HB; clear HO461; have BK456 := n0_; have BK457 := n1_; have BK458 := n2_; have HB := n3_; have HO464 := n4_; clear n0_ n1_ n2_ n3_ n4_; clear ho hb hg hat; have hcz16_0 : w15.cell? ⟨gb456, 0, none⟩ = some (.slice A0_0 l0_0.length c0_0) := (blk_cell BK456.out 0).trans rfl; have hcz16_1 : w15.cell? ⟨gb456, 1, none⟩ = some (.int .i64 a0_1) := (blk_cell BK456.out 1).trans rfl; have hfz16_0 := blk_frozen BK456.out 0; have hfz16_1 := blk_frozen BK456.out 1; have hnb17 := NB457_458.out; have hnc17 := NB458_457.out; have hcz18_0 : w15.cell? ⟨gb457, 0, none⟩ = some (.string a1_0) := (blk_cell BK457.out 0).trans rfl; have hcz18_1 : w15.cell? ⟨gb457, 1, none⟩ = some (.int .i64 a1_1) := (blk_cell BK457.out 1).trans rfl; have hcz18_2 : w15.cell? ⟨gb457, 2, none⟩ = some (.int .i64 a1_2) := (blk_cell BK457.out 2).trans rfl; have hcz18_3 : w15.cell? ⟨gb457, 3, none⟩ = some (.bool a1_3) := (blk_cell BK457.out 3).trans rfl; have hcz18_4 : w15.cell? ⟨gb457, 4, none⟩ = some (.int .i64 a1_4) := (blk_cell BK457.out 4).trans rfl; have hfz18_0 := blk_frozen BK457.out 0; have hfz18_1 := blk_frozen BK457.out 1; have hfz18_2 := blk_frozen BK457.out 2; have hfz18_3 := blk_frozen BK457.out 3; have hfz18_4 := blk_frozen BK457.out 4) | ((with_reducible refine gate_callee (f := 31) rfl ?_); refine goesL_ (some 14) rfl rfl Tryd.func31 (by kernel_rfl) rfl #[.agg #[.slice A0_0 l0_0.length c0_0, .int .i64 a0_1], .string a1_0] rfl (by (try simp only [List.map_toArray, List.map_cons, List.map_nil]); first | done | rfl | (simp only [List.length_drop, List.length_take]; rfl)) ?_; (with_reducible refine (pannierref13_Find.calls k _ _ l0_0 a0_1 a1_0 t465 _ ?side1 ?side2 A4.out).mono ?_); (case side1 => repeat (first | exact (Kd.C_below HR0_0.out HB.out) | (with_reducible refine Kd.C_alloc ?_ _) | (with_reducible refine Kd.C_drewN ?_ _) | (with_reducible refine Kd.C_drew ?_))); (case side2 => exact HC0_0.out); rintro e w19 ⟨rfl, hb⟩; refine ⟨_, rfl, ?_⟩; have n0_ := Aside0.mk (Kd.R_below (by (with_reducible repeat (first | apply Kd.R_alloc | apply Kd.R_drewN | apply Kd.R_drew)); exact HO464.out) hb); have n1_ := Aside0.mk (blk_below (g := gb456) (o := .cells #[.slice A0_0 l0_0.length c0_0, .int .i64 a0_1] 64 (0, 0)) (by (with_reducible repeat (first | refine blk_drewN ?_ _ | refine blk_drew ?_ | refine blk_alloc ?_ _)); exact BK456.out) hb); have n2_ := Aside0.mk (blk_below (g := gb457) (o := .cells #[.string a1_0, .int .i64 a1_1, .int .i64 a1_2, .bool a1_3, .int .i64 a1_4] 73 (0, 0)) (by (with_reducible repeat (first | refine blk_drewN ?_ _ | refine blk_drew ?_ | refine blk_alloc ?_ _)); exact BK457.out) hb); have n3_ := Aside0.mk (blk_below (g := gb458) (o := .cells #[.slice none 0 0, .int .i64 0] 64 (0, 0)) (by (with_reducible repeat (first | refine blk_drewN ?_ _ | refine blk_drew ?_ | refine blk_alloc ?_ _)); exact BK458.out) hb); have n4_ := Aside0.mk (below_step (by repeat (first | (with_reducible first | exact HB.out | apply below_alloc | apply pw_below_drewN | apply below_drew1 | refine below_set ?_ GE456.out | refine below_set ?_ GE457.out | refine below_set ?_ GE458.out) | exact HB.out)) hb); clear HO464; clear BK456; clear BK457; clear BK458; clear HB; have HO464 := n0_; have BK456 := n1_; have BK457 := n2_; have BK458 := n3_; have HB := n4_; clear n0_ n1_ n2_ n3_ n4_; (try clear hb); (try clear hb2); (try clear hk); (try clear hi); have hcz20_0 : w19.cell? ⟨gb457, 0, none⟩ = some (.string a1_0) := (blk_cell BK457.out 0).trans rfl; have hcz20_1 : w19.cell? ⟨gb457, 1, none⟩ = some (.int .i64 a1_1) := (blk_cell BK457.out 1).trans rfl; have hcz20_2 : w19.cell? ⟨gb457, 2, none⟩ = some (.int .i64 a1_2) := (blk_cell BK457.out 2).trans rfl; have hcz20_3 : w19.cell? ⟨gb457, 3, none⟩ = some (.bool a1_3) := (blk_cell BK457.out 3).trans rfl; have hcz20_4 : w19.cell? ⟨gb457, 4, none⟩ = some (.int .i64 a1_4) := (blk_cell BK457.out 4).trans rfl; have hfz20_0 := blk_frozen BK457.out 0; have hfz20_1 := blk_frozen BK457.out 1; have hfz20_2 := blk_frozen BK457.out 2; have hfz20_3 := blk_frozen BK457.out 3; have hfz20_4 := blk_frozen BK457.out 4) | ((with_reducible refine gate_builtin (b := .append) (xs := #[.tmp 17, .tmp 19]) rfl ?_); at_builtin; refine Kd.R_append k73 (w0 := w) w.heap.size rfl (.tmp 17) (.tmp 19) 62 73 (.agg #[(.string ⟨#[]⟩), (.int .i64 0), (.int .i64 0), (.bool false), (.int .i64 0)]) 48 rfl Tryd.underlying62 info73 rfl (by decide) (by omega) v463 y462 (⟨a1_0, a1_1, a1_2, a1_3, a1_4⟩ : S73) [.string a1_0, .int .i64 a1_1, .int .i64 a1_2, .bool a1_3, .int .i64 a1_4] (fun k_ => k_ ≠ gb457) (fun _ => False) rfl rfl ?aP (fun _ hk => hk.elim) ?aF ?aO ?aB ?aS ?aL ?_; (case aP => exact k73_mkM _ _ _ (⟨a1_0, a1_1, a1_2, a1_3, a1_4⟩ : S73)); (case aB => exact (by repeat (first | (with_reducible first | exact HB.out | apply below_alloc | apply pw_below_drewN | apply below_drew1 | refine below_set ?_ GE456.out | refine below_set ?_ GE457.out | refine below_set ?_ GE458.out) | exact HB.out))); (case aF => exact (fun k_ hk => Kd.freshB (g := gb457) (o := .cells #[.string a1_0, .int .i64 a1_1, .int .i64 a1_2, .bool a1_3, .int .i64 a1_4] 73 (0, 0)) (by (with_reducible repeat (first | refine blk_drewN ?_ _ | refine blk_drew ?_ | refine blk_alloc ?_ _)); exact BK457.out) k_ hk)); (case aO => exact (by (with_reducible repeat (first | apply Kd.R_alloc | apply Kd.R_drewN | apply Kd.R_drew)); exact HO464.out)); (case aS => exact (below_size (by repeat (first | (with_reducible first | exact HB.out | apply below_alloc | apply pw_below_drewN | apply below_drew1 | refine below_set ?_ GE456.out | refine below_set ?_ GE457.out | refine below_set ?_ GE458.out) | exact HB.out)))); (case aL => have := LMc6.out; omega); intro v467 w21 ho hb hg hat; rw [← Ny466.out] at ho; have n0_ := Aside0.mk (blk_grown (g := gb456) (o := .cells #[.slice A0_0 l0_0.length c0_0, .int .i64 a0_1] 64 (0, 0)) (by (with_reducible repeat (first | refine blk_drewN ?_ _ | refine blk_drew ?_ | refine blk_alloc ?_ _)); exact BK456.out) hg (Kd.R_ne HO464.out BK456.out (by decide))); have n1_ := Aside0.mk (blk_grown (g := gb457) (o := .cells #[.string a1_0, .int .i64 a1_1, .int .i64 a1_2, .bool a1_3, .int .i64 a1_4] 73 (0, 0)) (by (with_reducible repeat (first | refine blk_drewN ?_ _ | refine blk_drew ?_ | refine blk_alloc ?_ _)); exact BK457.out) hg (Kd.R_away HO464.out (fun _ hk => hk))); have n2_ := Aside0.mk (blk_grown (g := gb458) (o := .cells #[.slice none 0 0, .int .i64 0] 64 (0, 0)) (by (with_reducible repeat (first | refine blk_drewN ?_ _ | refine blk_drew ?_ | refine blk_alloc ?_ _)); exact BK458.out) hg (Kd.R_ne HO464.out BK458.out (by decide))); have n3_ := Aside0.mk (hb); have n4_ := Aside0.mk (ho); clear BK456; clear BK457; clear BK458; clear HB; clear HO464; have BK456 := n0_; have BK457 := n1_; have BK458 := n2_; have HB := n3_; have HO468 := n4_; clear n0_ n1_ n2_ n3_ n4_; clear ho hb hg hat; obtain ⟨Ao22, co22, eo22⟩ := Kd.R_slice HO468.out; subst eo22; have hcz23_0 : w21.cell? ⟨gb456, 0, none⟩ = some (.slice A0_0 l0_0.length c0_0) := (blk_cell BK456.out 0).trans rfl; have hcz23_1 : w21.cell? ⟨gb456, 1, none⟩ = some (.int .i64 a0_1) := (blk_cell BK456.out 1).trans rfl; have hfz23_0 := blk_frozen BK456.out 0; have hfz23_1 := blk_frozen BK456.out 1; have hcz24_0 : w21.cell? ⟨gb458, 0, none⟩ = some (.slice none 0 0) := (blk_cell BK458.out 0).trans rfl; have hcz24_1 : w21.cell? ⟨gb458, 1, none⟩ = some (.int .i64 0) := (blk_cell BK458.out 1).trans rfl; have hfz24_0 := blk_frozen BK458.out 0; have hfz24_1 := blk_frozen BK458.out 1))
    refine bodyPost_ret (results_cell_row rfl _ _ gb458 64 #[.slice Ao22 y466.length co22, .int .i64 a0_1] (0, 0) _ rfl (by (with_reducible repeat (first | refine blk_drewN ?_ _ | refine blk_drew ?_ | refine blk_alloc ?_ _)); refine blk_put (cs := #[.slice Ao22 y466.length co22, .int .i64 0]) ?_ 1 _ rfl; (with_reducible repeat (first | refine blk_drewN ?_ _ | refine blk_drew ?_ | refine blk_alloc ?_ _)); refine blk_put (cs := #[.slice none 0 0, .int .i64 0]) ?_ 0 _ rfl; (with_reducible repeat (first | refine blk_drewN ?_ _ | refine blk_drew ?_ | refine blk_alloc ?_ _)); refine blk_far ?_ NB458_456.out _; (with_reducible repeat (first | refine blk_drewN ?_ _ | refine blk_drew ?_ | refine blk_alloc ?_ _)); exact BK458.out) Tryd.underlying64 rfl (by kernel_rfl)) rfl ?_
    exact ⟨_, by first | rfl | (simp [errW_none, errW_some] <;> rfl) | (simp [*, errW_none, errW_some] <;> rfl), by (with_reducible repeat (first | apply Kd.R_alloc | apply Kd.R_drewN | apply Kd.R_drew)); exact Kd.R_mono (Kd.R_far (p := ⟨gb458, 1, none⟩) (Kd.R_far (p := ⟨gb458, 0, none⟩) (Kd.R_far (p := ⟨gb456, 0, none⟩) (Kd.R_types (Kd.R_types HO468.out BK456.out (by decide)) BK458.out (by decide)) (fun _ hk => hk.1.2) (.slice Ao22 y466.length co22)) (fun _ hk => hk.2) (.slice Ao22 y466.length co22)) (fun _ hk => hk.2) (.int .i64 a0_1)) (fun _ hk => trivial), by repeat (first | (with_reducible first | exact HB.out | apply below_alloc | apply pw_below_drewN | apply below_drew1 | refine below_set ?_ GE456.out | refine below_set ?_ GE457.out | refine below_set ?_ GE458.out) | exact HB.out)⟩
   ·rw [if_neg c6] at H
    exact absurd H (by simp)
  ·rw [if_neg c5] at H
   have c5b0 : decide (t465 < 0) = false := decide_eq_false c5
   clear c5
   by_cases c25 : 0 ≤ t465
   ·rw [if_pos c25] at H
    have c25b0 : decide (0 ≤ t465) = true := decide_eq_true c25
    clear c25
    by_cases c26 : t465 < (y462.length : Int)
    ·rw [if_pos c26] at H
     have c26b0 : decide (t465 < (y462.length : Int)) = true := decide_eq_true c26
     clear c26
     obtain ⟨y469, hy469⟩ : ∃ y_ : List (S73), y_ = (y462.set (t465 : Int).toNat (⟨a1_0, a1_1, a1_2, a1_3, a1_4⟩ : S73)) := ⟨_, rfl⟩
     replace H : (some (y469, a0_1)) = some (r1, r2) := by first | (rw [hy469]; with_reducible exact H) | (have H2_ := (Option.bind_some _ _).symm.trans H; rw [hy469]; with_reducible exact H2_) | (have H2_ := (Option.bind_some _ _).symm.trans H; with_reducible exact H2_) | with_reducible exact H | (rw [hy469]; exact H) | exact H
     have Ny469 := Aside0.mk hy469
     clear hy469
     simp only [Option.some.injEq, Prod.mk.injEq] at H
     obtain ⟨rfl, rfl⟩ := H
     go_enter Tryd.func70, Tryd.ntmps70
     go_wp2_with (first | ((with_reducible refine gate_dst (N := 2) rfl ?_); refine box_event ?hg (N := 2) ?hd (cs := #[.slice A0_0 l0_0.length c0_0, .int .i64 a0_1]) (t := 64) ?hr ?_; (case hd => rfl); (case hg => rfl); (case hr => first | (go_simp; done) | (go_simp; rfl)); intro gb456 hg w28 hbox hb; have n0_ := Aside0.mk (below_step (by repeat (first | (with_reducible first | exact HB.out | apply below_alloc | apply pw_below_drewN | apply below_drew1) | exact HB.out)) hb); have n1_ := Aside0.mk (hbox); have n2_ := Aside0.mk ((by rw [hg]; exact (below_size (by repeat (first | (with_reducible first | exact HB.out | apply below_alloc | apply pw_below_drewN | apply below_drew1) | exact HB.out))) : w.heap.size ≤ gb456)); have n3_ := Aside0.mk ((by rw [hg]; exact (below_size (by repeat (first | (with_reducible first | exact HB.out | apply below_alloc | apply pw_below_drewN | apply below_drew1) | exact HB.out))) : w.heap.size ≤ gb456)); clear HB; have HB := n0_; have BK456 := n1_; have GW456 := n2_; have GE456 := n3_; clear n0_ n1_ n2_ n3_; clear hb hbox hg) | ((with_reducible refine gate_dst (N := 3) rfl ?_); refine box_event ?hg (N := 3) ?hd (cs := #[.string a1_0, .int .i64 a1_1, .int .i64 a1_2, .bool a1_3, .int .i64 a1_4]) (t := 73) ?hr ?_; (case hd => rfl); (case hg => rfl); (case hr => first | (go_simp; done) | (go_simp; rfl)); intro gb457 hg w29 hbox hb; have n0_ := Aside0.mk (blk_below (g := gb456) (o := .cells #[.slice A0_0 l0_0.length c0_0, .int .i64 a0_1] 64 (0, 0)) (by (with_reducible repeat (first | refine blk_drewN ?_ _ | refine blk_drew ?_ | refine blk_alloc ?_ _)); exact BK456.out) hb); have n1_ := Aside0.mk (below_step (by repeat (first | (with_reducible first | exact HB.out | apply below_alloc | apply pw_below_drewN | apply below_drew1 | refine below_set ?_ GE456.out) | exact HB.out)) hb); have n2_ := Aside0.mk (hbox); have n3_ := Aside0.mk ((by rw [hg]; exact (below_size (by repeat (first | (with_reducible first | exact HB.out | apply below_alloc | apply pw_below_drewN | apply below_drew1 | refine below_set ?_ GE456.out) | exact HB.out))) : w.heap.size ≤ gb457)); have n4_ := Aside0.mk ((by rw [hg]; exact (below_size (by repeat (first | (with_reducible first | exact HB.out | apply below_alloc | apply pw_below_drewN | apply below_drew1 | refine below_set ?_ GE456.out) | exact HB.out))) : w.heap.size ≤ gb457)); have n5_ := Aside0.mk ((by rw [hg]; exact Nat.ne_of_lt (blk_lt (g := gb456) (o := .cells #[.slice A0_0 l0_0.length c0_0, .int .i64 a0_1] 64 (0, 0)) (by (with_reducible repeat (first | refine blk_drewN ?_ _ | refine blk_drew ?_ | refine blk_alloc ?_ _)); exact BK456.out)) : gb456 ≠ gb457)); have n6_ := Aside0.mk ((by rw [hg]; exact Nat.ne_of_gt (blk_lt (g := gb456) (o := .cells #[.slice A0_0 l0_0.length c0_0, .int .i64 a0_1] 64 (0, 0)) (by (with_reducible repeat (first | refine blk_drewN ?_ _ | refine blk_drew ?_ | refine blk_alloc ?_ _)); exact BK456.out)) : gb457 ≠ gb456)); clear BK456; clear HB; have BK456 := n0_; have HB := n1_; have BK457 := n2_; have GW457 := n3_; have GE457 := n4_; have NB456_457 := n5_; have NB457_456 := n6_; clear n0_ n1_ n2_ n3_ n4_ n5_ n6_; clear hb hbox hg) | ((with_reducible refine gate_dst (N := 4) rfl ?_); refine box_event ?hg (N := 4) ?hd (cs := #[.slice none 0 0, .int .i64 0]) (t := 64) ?hr ?_; (case hd => rfl); (case hg => rfl); (case hr => first | (go_simp; done) | (go_simp; rfl)); intro gb458 hg w30 hbox hb; have n0_ := Aside0.mk (blk_below (g := gb456) (o := .cells #[.slice A0_0 l0_0.length c0_0, .int .i64 a0_1] 64 (0, 0)) (by (with_reducible repeat (first | refine blk_drewN ?_ _ | refine blk_drew ?_ | refine blk_alloc ?_ _)); exact BK456.out) hb); have n1_ := Aside0.mk (blk_below (g := gb457) (o := .cells #[.string a1_0, .int .i64 a1_1, .int .i64 a1_2, .bool a1_3, .int .i64 a1_4] 73 (0, 0)) (by (with_reducible repeat (first | refine blk_drewN ?_ _ | refine blk_drew ?_ | refine blk_alloc ?_ _)); exact BK457.out) hb); have n2_ := Aside0.mk (below_step (by repeat (first | (with_reducible first | exact HB.out | apply below_alloc | apply pw_below_drewN | apply below_drew1 | refine below_set ?_ GE456.out | refine below_set ?_ GE457.out) | exact HB.out)) hb); have n3_ := Aside0.mk (hbox); have n4_ := Aside0.mk ((by rw [hg]; exact (below_size (by repeat (first | (with_reducible first | exact HB.out | apply below_alloc | apply pw_below_drewN | apply below_drew1 | refine below_set ?_ GE456.out | refine below_set ?_ GE457.out) | exact HB.out))) : w.heap.size ≤ gb458)); have n5_ := Aside0.mk ((by rw [hg]; exact (below_size (by repeat (first | (with_reducible first | exact HB.out | apply below_alloc | apply pw_below_drewN | apply below_drew1 | refine below_set ?_ GE456.out | refine below_set ?_ GE457.out) | exact HB.out))) : w.heap.size ≤ gb458)); have n6_ := Aside0.mk ((by rw [hg]; exact Nat.ne_of_lt (blk_lt (g := gb456) (o := .cells #[.slice A0_0 l0_0.length c0_0, .int .i64 a0_1] 64 (0, 0)) (by (with_reducible repeat (first | refine blk_drewN ?_ _ | refine blk_drew ?_ | refine blk_alloc ?_ _)); exact BK456.out)) : gb456 ≠ gb458)); have n7_ := Aside0.mk ((by rw [hg]; exact Nat.ne_of_gt (blk_lt (g := gb456) (o := .cells #[.slice A0_0 l0_0.length c0_0, .int .i64 a0_1] 64 (0, 0)) (by (with_reducible repeat (first | refine blk_drewN ?_ _ | refine blk_drew ?_ | refine blk_alloc ?_ _)); exact BK456.out)) : gb458 ≠ gb456)); have n8_ := Aside0.mk ((by rw [hg]; exact Nat.ne_of_lt (blk_lt (g := gb457) (o := .cells #[.string a1_0, .int .i64 a1_1, .int .i64 a1_2, .bool a1_3, .int .i64 a1_4] 73 (0, 0)) (by (with_reducible repeat (first | refine blk_drewN ?_ _ | refine blk_drew ?_ | refine blk_alloc ?_ _)); exact BK457.out)) : gb457 ≠ gb458)); have n9_ := Aside0.mk ((by rw [hg]; exact Nat.ne_of_gt (blk_lt (g := gb457) (o := .cells #[.string a1_0, .int .i64 a1_1, .int .i64 a1_2, .bool a1_3, .int .i64 a1_4] 73 (0, 0)) (by (with_reducible repeat (first | refine blk_drewN ?_ _ | refine blk_drew ?_ | refine blk_alloc ?_ _)); exact BK457.out)) : gb458 ≠ gb457)); clear BK456; clear BK457; clear HB; have BK456 := n0_; have BK457 := n1_; have HB := n2_; have BK458 := n3_; have GW458 := n4_; have GE458 := n5_; have NB456_458 := n6_; have NB458_456 := n7_; have NB457_458 := n8_; have NB458_457 := n9_; clear n0_ n1_ n2_ n3_ n4_ n5_ n6_ n7_ n8_ n9_; clear hb hbox hg) | ((with_reducible refine gate_dst (N := 7) rfl ?_); refine Kd.R_lit k73 _ 73 ?hg (N := 7) ?hd (xs := ([] : List (S73))) (inner := []) (ok := fun _ => True) (okp := fun _ => True) ?hr ?hp (fun _ hk => hk) trivial (Below.refl _ _) (Nat.le_refl _) (by simp) ?_; (case hd => rfl); (case hg => rfl); (case hr => first | (go_simp; done) | (go_simp; rfl)); (case hp => exact (Reps.none _ _)); intro v460 w31 ho32 hb hg_ hnew_; clear hg_ hnew_; (first | rw [← Ny459.out] at ho32 | (simp only [Int.reduceToNat] at ho32; rw [← Ny459.out] at ho32)); have n0_ := Aside0.mk (Kd.R_lower (Kd.R_newB ho32 (g := gb457) (o := .cells #[.string a1_0, .int .i64 a1_1, .int .i64 a1_2, .bool a1_3, .int .i64 a1_4] 73 (0, 0)) (by (with_reducible repeat (first | refine blk_drewN ?_ _ | refine blk_drew ?_ | refine blk_alloc ?_ _)); exact BK457.out)) (below_size (by repeat (first | (with_reducible first | exact HB.out | apply below_alloc | apply pw_below_drewN | apply below_drew1 | refine below_set ?_ GE456.out | refine below_set ?_ GE457.out | refine below_set ?_ GE458.out) | exact HB.out)))); have n1_ := Aside0.mk (blk_below (g := gb456) (o := .cells #[.slice A0_0 l0_0.length c0_0, .int .i64 a0_1] 64 (0, 0)) (by (with_reducible repeat (first | refine blk_drewN ?_ _ | refine blk_drew ?_ | refine blk_alloc ?_ _)); exact BK456.out) hb); have n2_ := Aside0.mk (blk_below (g := gb457) (o := .cells #[.string a1_0, .int .i64 a1_1, .int .i64 a1_2, .bool a1_3, .int .i64 a1_4] 73 (0, 0)) (by (with_reducible repeat (first | refine blk_drewN ?_ _ | refine blk_drew ?_ | refine blk_alloc ?_ _)); exact BK457.out) hb); have n3_ := Aside0.mk (blk_below (g := gb458) (o := .cells #[.slice none 0 0, .int .i64 0] 64 (0, 0)) (by (with_reducible repeat (first | refine blk_drewN ?_ _ | refine blk_drew ?_ | refine blk_alloc ?_ _)); exact BK458.out) hb); have n4_ := Aside0.mk (below_step (by repeat (first | (with_reducible first | exact HB.out | apply below_alloc | apply pw_below_drewN | apply below_drew1 | refine below_set ?_ GE456.out | refine below_set ?_ GE457.out | refine below_set ?_ GE458.out) | exact HB.out)) hb); clear BK456; clear BK457; clear BK458; clear HB; have HO461 := n0_; have BK456 := n1_; have BK457 := n2_; have BK458 := n3_; have HB := n4_; clear n0_ n1_ n2_ n3_ n4_; clear hb ho32; have hnb33 := NB456_457.out; have hnc33 := NB457_456.out; have hnb34 := NB456_458.out; have hnc34 := NB458_456.out; have hcz35_0 : w31.cell? ⟨gb456, 0, none⟩ = some (.slice A0_0 l0_0.length c0_0) := (blk_cell BK456.out 0).trans rfl; have hcz35_1 : w31.cell? ⟨gb456, 1, none⟩ = some (.int .i64 a0_1) := (blk_cell BK456.out 1).trans rfl; have hfz35_0 := blk_frozen BK456.out 0; have hfz35_1 := blk_frozen BK456.out 1) | ((with_reducible refine gate_builtin (b := .append) (xs := #[.tmp 7, .tmp 9]) rfl ?_); at_builtin; refine Kd.R_append_rows k73 (w0 := w) w.heap.size rfl (.tmp 7) (.tmp 9) 62 73 (.agg #[(.string ⟨#[]⟩), (.int .i64 0), (.int .i64 0), (.bool false), (.int .i64 0)]) 48 rfl Tryd.underlying62 info73 rfl (by decide) (by omega) v460 y459 l0_0 _ _ _ (fun k_ => k_ ≠ gb457) (fun _ => False) rfl rfl ?aO ?aR (fun _ _ h => h) (fun _ h => h.elim) ?aF ?aB ?aS ?aL ?_; (case aR => repeat (first | exact (Kd.C_below HR0_0.out HB.out) | (with_reducible refine Kd.C_alloc ?_ _) | (with_reducible refine Kd.C_drewN ?_ _) | (with_reducible refine Kd.C_drew ?_))); (case aB => exact (by repeat (first | (with_reducible first | exact HB.out | apply below_alloc | apply pw_below_drewN | apply below_drew1 | refine below_set ?_ GE456.out | refine below_set ?_ GE457.out | refine below_set ?_ GE458.out) | exact HB.out))); (case aF => exact (fun k_ hk => Kd.freshB (g := gb457) (o := .cells #[.string a1_0, .int .i64 a1_1, .int .i64 a1_2, .bool a1_3, .int .i64 a1_4] 73 (0, 0)) (by (with_reducible repeat (first | refine blk_drewN ?_ _ | refine blk_drew ?_ | refine blk_alloc ?_ _)); exact BK457.out) k_ hk)); (case aO => exact (by (with_reducible repeat (first | apply Kd.R_alloc | apply Kd.R_drewN | apply Kd.R_drew)); exact Kd.R_mono HO461.out (fun _ hk => hk.2))); (case aS => exact (below_size (by repeat (first | (with_reducible first | exact HB.out | apply below_alloc | apply pw_below_drewN | apply below_drew1 | refine below_set ?_ GE456.out | refine below_set ?_ GE457.out | refine below_set ?_ GE458.out) | exact HB.out)))); (case aL => have := LMc3.out; omega); intro v463 w36 ho hb hg hat; rw [← Ny462.out] at ho; have n0_ := Aside0.mk (blk_grown (g := gb456) (o := .cells #[.slice A0_0 l0_0.length c0_0, .int .i64 a0_1] 64 (0, 0)) (by (with_reducible repeat (first | refine blk_drewN ?_ _ | refine blk_drew ?_ | refine blk_alloc ?_ _)); exact BK456.out) hg (Kd.R_ne HO461.out BK456.out (by decide))); have n1_ := Aside0.mk (blk_grown (g := gb457) (o := .cells #[.string a1_0, .int .i64 a1_1, .int .i64 a1_2, .bool a1_3, .int .i64 a1_4] 73 (0, 0)) (by (with_reducible repeat (first | refine blk_drewN ?_ _ | refine blk_drew ?_ | refine blk_alloc ?_ _)); exact BK457.out) hg (Kd.R_away HO461.out (fun _ hk => hk.2))); have n2_ := Aside0.mk (blk_grown (g := gb458) (o := .cells #[.slice none 0 0, .int .i64 0] 64 (0, 0)) (by (with_reducible repeat (first | refine blk_drewN ?_ _ | refine blk_drew ?_ | refine blk_alloc ?_ _)); exact BK458.out) hg (Kd.R_ne HO461.out BK458.out (by decide))); have n3_ := Aside0.mk (hb); have n4_ := Aside0.mk (ho); clear BK456; clear BK457; clear BK458; clear HB; clear HO461; have BK456 := n0_; have BK457 := n1_; have BK458 := n2_; have HB := n3_; have HO464 := n4_; clear n0_ n1_ n2_ n3_ n4_; clear ho hb hg hat; have hcz37_0 : w36.cell? ⟨gb456, 0, none⟩ = some (.slice A0_0 l0_0.length c0_0) := (blk_cell BK456.out 0).trans rfl; have hcz37_1 : w36.cell? ⟨gb456, 1, none⟩ = some (.int .i64 a0_1) := (blk_cell BK456.out 1).trans rfl; have hfz37_0 := blk_frozen BK456.out 0; have hfz37_1 := blk_frozen BK456.out 1; have hnb38 := NB457_458.out; have hnc38 := NB458_457.out; have hcz39_0 : w36.cell? ⟨gb457, 0, none⟩ = some (.string a1_0) := (blk_cell BK457.out 0).trans rfl; have hcz39_1 : w36.cell? ⟨gb457, 1, none⟩ = some (.int .i64 a1_1) := (blk_cell BK457.out 1).trans rfl; have hcz39_2 : w36.cell? ⟨gb457, 2, none⟩ = some (.int .i64 a1_2) := (blk_cell BK457.out 2).trans rfl; have hcz39_3 : w36.cell? ⟨gb457, 3, none⟩ = some (.bool a1_3) := (blk_cell BK457.out 3).trans rfl; have hcz39_4 : w36.cell? ⟨gb457, 4, none⟩ = some (.int .i64 a1_4) := (blk_cell BK457.out 4).trans rfl; have hfz39_0 := blk_frozen BK457.out 0; have hfz39_1 := blk_frozen BK457.out 1; have hfz39_2 := blk_frozen BK457.out 2; have hfz39_3 := blk_frozen BK457.out 3; have hfz39_4 := blk_frozen BK457.out 4) | ((with_reducible refine gate_callee (f := 31) rfl ?_); refine goesL_ (some 14) rfl rfl Tryd.func31 (by kernel_rfl) rfl #[.agg #[.slice A0_0 l0_0.length c0_0, .int .i64 a0_1], .string a1_0] rfl (by (try simp only [List.map_toArray, List.map_cons, List.map_nil]); first | done | rfl | (simp only [List.length_drop, List.length_take]; rfl)) ?_; (with_reducible refine (pannierref13_Find.calls k _ _ l0_0 a0_1 a1_0 t465 _ ?side1 ?side2 A4.out).mono ?_); (case side1 => repeat (first | exact (Kd.C_below HR0_0.out HB.out) | (with_reducible refine Kd.C_alloc ?_ _) | (with_reducible refine Kd.C_drewN ?_ _) | (with_reducible refine Kd.C_drew ?_))); (case side2 => exact HC0_0.out); rintro e w40 ⟨rfl, hb⟩; refine ⟨_, rfl, ?_⟩; have n0_ := Aside0.mk (Kd.R_below (by (with_reducible repeat (first | apply Kd.R_alloc | apply Kd.R_drewN | apply Kd.R_drew)); exact HO464.out) hb); have n1_ := Aside0.mk (blk_below (g := gb456) (o := .cells #[.slice A0_0 l0_0.length c0_0, .int .i64 a0_1] 64 (0, 0)) (by (with_reducible repeat (first | refine blk_drewN ?_ _ | refine blk_drew ?_ | refine blk_alloc ?_ _)); exact BK456.out) hb); have n2_ := Aside0.mk (blk_below (g := gb457) (o := .cells #[.string a1_0, .int .i64 a1_1, .int .i64 a1_2, .bool a1_3, .int .i64 a1_4] 73 (0, 0)) (by (with_reducible repeat (first | refine blk_drewN ?_ _ | refine blk_drew ?_ | refine blk_alloc ?_ _)); exact BK457.out) hb); have n3_ := Aside0.mk (blk_below (g := gb458) (o := .cells #[.slice none 0 0, .int .i64 0] 64 (0, 0)) (by (with_reducible repeat (first | refine blk_drewN ?_ _ | refine blk_drew ?_ | refine blk_alloc ?_ _)); exact BK458.out) hb); have n4_ := Aside0.mk (below_step (by repeat (first | (with_reducible first | exact HB.out | apply below_alloc | apply pw_below_drewN | apply below_drew1 | refine below_set ?_ GE456.out | refine below_set ?_ GE457.out | refine below_set ?_ GE458.out) | exact HB.out)) hb); clear HO464; clear BK456; clear BK457; clear BK458; clear HB; have HO464 := n0_; have BK456 := n1_; have BK457 := n2_; have BK458 := n3_; have HB := n4_; clear n0_ n1_ n2_ n3_ n4_; (try clear hb); (try clear hb2); (try clear hk); (try clear hi); have hcz41_0 : w40.cell? ⟨gb457, 0, none⟩ = some (.string a1_0) := (blk_cell BK457.out 0).trans rfl; have hcz41_1 : w40.cell? ⟨gb457, 1, none⟩ = some (.int .i64 a1_1) := (blk_cell BK457.out 1).trans rfl; have hcz41_2 : w40.cell? ⟨gb457, 2, none⟩ = some (.int .i64 a1_2) := (blk_cell BK457.out 2).trans rfl; have hcz41_3 : w40.cell? ⟨gb457, 3, none⟩ = some (.bool a1_3) := (blk_cell BK457.out 3).trans rfl; have hcz41_4 : w40.cell? ⟨gb457, 4, none⟩ = some (.int .i64 a1_4) := (blk_cell BK457.out 4).trans rfl; have hfz41_0 := blk_frozen BK457.out 0; have hfz41_1 := blk_frozen BK457.out 1; have hfz41_2 := blk_frozen BK457.out 2; have hfz41_3 := blk_frozen BK457.out 3; have hfz41_4 := blk_frozen BK457.out 4; have p27 : 0 ≤ (t465 : Int) := of_decide_eq_true (by first | (with_reducible assumption) | assumption); have q27 : (t465 : Int) < ((y462.length : Int) : Int) := of_decide_eq_true (by first | (with_reducible assumption) | assumption); obtain ⟨go27, co27, eo27, gb27, gl27, cl27, HG27⟩ := Kd.R_form HO464.out (by omega); (first | cases eo27 | (injection eo27 with ea_ en_ ec_; (first | subst ea_ | (injection ea_ with ea_; subst ea_)); subst ec_; clear en_)); have GB27 := Aside0.mk gb27; have GG27 := Aside0.mk HG27; clear gb27 gl27 HG27; obtain ⟨ce27, hcl27, hM27, hcc27, hfr27⟩ := Kd.R_elem HO464.out z73 (t465 : Int) p27 q27; obtain rfl := k73_openM hM27; have hx27_0 : w40.cell? ⟨go27, (t465 : Int).toNat * 5, none⟩ = some (.string ((rd_T73 y462 t465).f0)) := hcc27 0 _ rfl; have hx27_1 : w40.cell? ⟨go27, (t465 : Int).toNat * 5 + 1, none⟩ = some (.int .i64 ((rd_T73 y462 t465).f1)) := hcc27 1 _ rfl; have hx27_2 : w40.cell? ⟨go27, (t465 : Int).toNat * 5 + 2, none⟩ = some (.int .i64 ((rd_T73 y462 t465).f2)) := hcc27 2 _ rfl; have hx27_3 : w40.cell? ⟨go27, (t465 : Int).toNat * 5 + 3, none⟩ = some (.bool ((rd_T73 y462 t465).f3)) := hcc27 3 _ rfl; have hx27_4 : w40.cell? ⟨go27, (t465 : Int).toNat * 5 + 4, none⟩ = some (.int .i64 ((rd_T73 y462 t465).f4)) := hcc27 4 _ rfl; have hf27_0 : w40.frozen? ⟨go27, (t465 : Int).toNat * 5, none⟩ = false := hfr27 0; have hf27_1 : w40.frozen? ⟨go27, (t465 : Int).toNat * 5 + 1, none⟩ = false := hfr27 1; have hf27_2 : w40.frozen? ⟨go27, (t465 : Int).toNat * 5 + 2, none⟩ = false := hfr27 2; have hf27_3 : w40.frozen? ⟨go27, (t465 : Int).toNat * 5 + 3, none⟩ = false := hfr27 3; have hf27_4 : w40.frozen? ⟨go27, (t465 : Int).toNat * 5 + 4, none⟩ = false := hfr27 4; clear hcl27 hcc27 hfr27 hM27; replace p27 := eq_true p27; replace q27 := eq_true q27; have HX42 := Aside0.mk (show Kd.R k73 73 w40 w.heap.size (fun k_ => k_ ≠ gb457) (.slice (some ⟨go27, 0, none⟩) y462.length co27) y462 from (by (with_reducible repeat (first | apply Kd.R_alloc | apply Kd.R_drewN | apply Kd.R_drew)); exact HO464.out)); obtain ⟨ce42, hcl42, hM42, hcc42, hfr42⟩ := Kd.R_elem HX42.out z73 (t465 : Int) (of_decide_eq_true (by first | (with_reducible assumption) | assumption)) (by have h_ : (t465 : Int) < ((y462.length : Int) : Int) := of_decide_eq_true (by first | (with_reducible assumption) | assumption); first | exact h_ | (have e_ := (Kd.R_reads' HO464.out).1; omega) | simpa using h_); obtain rfl := k73_openM hM42; have HP42 := Kd.R_seg HX42.out (t465 : Int) (of_decide_eq_true (by first | (with_reducible assumption) | assumption)) (by have h_ : (t465 : Int) < ((y462.length : Int) : Int) := of_decide_eq_true (by first | (with_reducible assumption) | assumption); first | exact h_ | (have e_ := (Kd.R_reads' HO464.out).1; omega) | simpa using h_) (seg := [.string a1_0, .int .i64 a1_1, .int .i64 a1_2, .bool a1_3, .int .i64 a1_4]) (j := 0) hcl42 hcc42 (show 5 ≤ 5 from by decide) (x' := (⟨a1_0, a1_1, a1_2, a1_3, a1_4⟩ : S73)) (k73_mkM _ _ _ (⟨a1_0, a1_1, a1_2, a1_3, a1_4⟩ : S73) ) (fun _ hk => hk); have hx42_0 := hcc42 0 _ rfl; (try simp only [show (k73).sz = 5 from rfl, Nat.mul_one, Nat.add_zero] at hx42_0); have hf42_0 := hfr42 0; (try simp only [show (k73).sz = 5 from rfl, Nat.mul_one, Nat.add_zero] at hf42_0); have hx42_1 := hcc42 1 _ rfl; (try simp only [show (k73).sz = 5 from rfl, Nat.mul_one, Nat.add_zero] at hx42_1); have hf42_1 := hfr42 1; (try simp only [show (k73).sz = 5 from rfl, Nat.mul_one, Nat.add_zero] at hf42_1); have hx42_2 := hcc42 2 _ rfl; (try simp only [show (k73).sz = 5 from rfl, Nat.mul_one, Nat.add_zero] at hx42_2); have hf42_2 := hfr42 2; (try simp only [show (k73).sz = 5 from rfl, Nat.mul_one, Nat.add_zero] at hf42_2); have hx42_3 := hcc42 3 _ rfl; (try simp only [show (k73).sz = 5 from rfl, Nat.mul_one, Nat.add_zero] at hx42_3); have hf42_3 := hfr42 3; (try simp only [show (k73).sz = 5 from rfl, Nat.mul_one, Nat.add_zero] at hf42_3); have hx42_4 := hcc42 4 _ rfl; (try simp only [show (k73).sz = 5 from rfl, Nat.mul_one, Nat.add_zero] at hx42_4); have hf42_4 := hfr42 4; (try simp only [show (k73).sz = 5 from rfl, Nat.mul_one, Nat.add_zero] at hf42_4); clear hcl42 hcc42 hfr42 hM42) | ((with_reducible refine gate_store (t := 73) (p := 24) rfl ?_); refine store_event (t := 73) (p := 24) (v := ?vo_w43) (w1 := (((((w40.setCell ⟨go27, (t465 : Int).toNat * 5, none⟩ (.string a1_0)).setCell ⟨go27, (t465 : Int).toNat * 5 + 1, none⟩ (.int .i64 a1_1)).setCell ⟨go27, (t465 : Int).toNat * 5 + 2, none⟩ (.int .i64 a1_2)).setCell ⟨go27, (t465 : Int).toNat * 5 + 3, none⟩ (.bool a1_3)).setCell ⟨go27, (t465 : Int).toNat * 5 + 4, none⟩ (.int .i64 a1_4))) ?hg ?ho ?hn ?hr ?_; (case ho => rfl); (case hg => rfl); (case hn => rfl); (case hr => first | (go_simp; done) | (go_simp; rfl)); intro w43 hw; have hg : w40.grownBy w43 (some go27) := (by rw [hw]; exact HP42.2); have hp_ : Kd.R k73 73 w43 w.heap.size (fun k_ => k_ ≠ gb457) (.slice (some ⟨go27, 0, none⟩) y462.length co27) y469 := (by rw [hw, Ny469.out]; exact HP42.1); clear HP42; have n0_ := Aside0.mk (blk_grown (g := gb456) (o := .cells #[.slice A0_0 l0_0.length c0_0, .int .i64 a0_1] 64 (0, 0)) (by (with_reducible repeat (first | refine blk_drewN ?_ _ | refine blk_drew ?_ | refine blk_alloc ?_ _)); exact BK456.out) hg (Kd.R_ne HO464.out BK456.out (by decide))); have n1_ := Aside0.mk (blk_grown (g := gb457) (o := .cells #[.string a1_0, .int .i64 a1_1, .int .i64 a1_2, .bool a1_3, .int .i64 a1_4] 73 (0, 0)) (by (with_reducible repeat (first | refine blk_drewN ?_ _ | refine blk_drew ?_ | refine blk_alloc ?_ _)); exact BK457.out) hg (Kd.R_away HO464.out (fun _ hk => hk))); have n2_ := Aside0.mk (blk_grown (g := gb458) (o := .cells #[.slice none 0 0, .int .i64 0] 64 (0, 0)) (by (with_reducible repeat (first | refine blk_drewN ?_ _ | refine blk_drew ?_ | refine blk_alloc ?_ _)); exact BK458.out) hg (Kd.R_ne HO464.out BK458.out (by decide))); have n3_ := Aside0.mk (hp_); have n4_ := Aside0.mk ((by rw [hw]; exact below_set (below_set (below_set (below_set (below_set (HB.out) GB27.out) GB27.out) GB27.out) GB27.out) GB27.out : Below w.heap.size w w43)); clear BK456; clear BK457; clear BK458; clear HO464; clear HB; have BK456 := n0_; have BK457 := n1_; have BK458 := n2_; have HO464 := n3_; have HB := n4_; clear n0_ n1_ n2_ n3_ n4_; clear hg hw hp_; have hcz44_0 : w43.cell? ⟨gb456, 0, none⟩ = some (.slice A0_0 l0_0.length c0_0) := (blk_cell BK456.out 0).trans rfl; have hcz44_1 : w43.cell? ⟨gb456, 1, none⟩ = some (.int .i64 a0_1) := (blk_cell BK456.out 1).trans rfl; have hfz44_0 := blk_frozen BK456.out 0; have hfz44_1 := blk_frozen BK456.out 1; have hcz45_0 : w43.cell? ⟨gb458, 0, none⟩ = some (.slice none 0 0) := (blk_cell BK458.out 0).trans rfl; have hcz45_1 : w43.cell? ⟨gb458, 1, none⟩ = some (.int .i64 0) := (blk_cell BK458.out 1).trans rfl; have hfz45_0 := blk_frozen BK458.out 0; have hfz45_1 := blk_frozen BK458.out 1))
     refine bodyPost_ret (results_cell_row rfl _ _ gb458 64 #[.slice (some ⟨go27, 0, none⟩) y462.length co27, .int .i64 a0_1] (0, 0) _ rfl (by (with_reducible repeat (first | refine blk_drewN ?_ _ | refine blk_drew ?_ | refine blk_alloc ?_ _)); refine blk_put (cs := #[.slice (some ⟨go27, 0, none⟩) y462.length co27, .int .i64 0]) ?_ 1 _ rfl; (with_reducible repeat (first | refine blk_drewN ?_ _ | refine blk_drew ?_ | refine blk_alloc ?_ _)); refine blk_put (cs := #[.slice none 0 0, .int .i64 0]) ?_ 0 _ rfl; (with_reducible repeat (first | refine blk_drewN ?_ _ | refine blk_drew ?_ | refine blk_alloc ?_ _)); refine blk_far ?_ NB458_456.out _; (with_reducible repeat (first | refine blk_drewN ?_ _ | refine blk_drew ?_ | refine blk_alloc ?_ _)); exact BK458.out) Tryd.underlying64 rfl (by kernel_rfl)) rfl ?_
     exact ⟨_, by first | rfl | (simp [errW_none, errW_some] <;> rfl) | (simp [*, errW_none, errW_some] <;> rfl), by (with_reducible repeat (first | apply Kd.R_alloc | apply Kd.R_drewN | apply Kd.R_drew)); exact Kd.R_mono (Kd.R_far (p := ⟨gb458, 1, none⟩) (Kd.R_far (p := ⟨gb458, 0, none⟩) (Kd.R_far (p := ⟨gb456, 0, none⟩) (Kd.R_types (Kd.R_types HO464.out BK456.out (by decide)) BK458.out (by decide)) (fun _ hk => hk.1.2) (.slice (some ⟨go27, 0, none⟩) y462.length co27)) (fun _ hk => hk.2) (.slice (some ⟨go27, 0, none⟩) y462.length co27)) (fun _ hk => hk.2) (.int .i64 a0_1)) (fun _ hk => trivial), by repeat (first | (with_reducible first | exact HB.out | apply below_alloc | apply pw_below_drewN | apply below_drew1 | refine below_set ?_ GE456.out | refine below_set ?_ GE457.out | refine below_set ?_ GE458.out) | exact HB.out)⟩
    ·rw [if_neg c26] at H
     exact absurd H (by simp)
   ·rw [if_neg c25] at H
    exact absurd H (by simp)
 ·rw [if_neg c3] at H
  exact absurd H (by simp)

/-! ### pannierref10_Join: function 83 -/
def pannierref10_Join.l0 : Nat → List ByteArray → ByteArray → Int → Option (ByteArray)
 | 0, _, _, _ => none
 | k + 1, x0, x3, x4 => if x4 < (x0.length : Int) then (if x4 > 0 then (if x3.size + 1 ≤ 9223372036854775807 then (if 0 ≤ x4 then (if (x3 ++ (⟨#[47]⟩ : ByteArray)).size + (rdOf ByteArray.empty x0 x4).size ≤ 9223372036854775807 then (pannierref10_Join.l0 k x0 ((x3 ++ (⟨#[47]⟩ : ByteArray)) ++ (rdOf ByteArray.empty x0 x4)) (wrap64 (x4 + 1))) else (none)) else (none)) else (none)) else (if 0 ≤ x4 then (if x3.size + (rdOf ByteArray.empty x0 x4).size ≤ 9223372036854775807 then (pannierref10_Join.l0 k x0 (x3 ++ (rdOf ByteArray.empty x0 x4)) (wrap64 (x4 + 1))) else (none)) else (none))) else (some x3)
def pannierref10_Join.f (k : Nat) (l0 : List ByteArray) : Option (ByteArray) := pannierref10_Join.l0 k l0 (⟨#[]⟩ : ByteArray) 0
theorem pannierref10_Join.mono_l : ∀ k, (∀ y0 y1 y2, LeO (pannierref10_Join.l0 k y0 y1 y2) (pannierref10_Join.l0 (k + 1) y0 y1 y2))
 | 0 => fun _ _ _ r h => by simp [pannierref10_Join.l0] at h
 | k + 1 => by
  have ih0 := pannierref10_Join.mono_l k
  ·intro y0 y1 y2
   unfold pannierref10_Join.l0
   repeat' first
   | (with_reducible exact ih0 _ _ _)
   | (with_reducible exact LeO.refl _)
   | (with_reducible exact LeO.none _)
   | (with_reducible refine LeO.ite ?_ ?_)
   | (with_reducible refine LeO.bind ?_ (fun _ => ?_))
   | exact ih0 _ _ _
   | exact LeO.none _
   | refine LeO.ite ?_ ?_
   | refine LeO.bind ?_ (fun _ => ?_)
theorem pannierref10_Join.mono : ∀ a0 k, LeO (pannierref10_Join.f k a0) (pannierref10_Join.f (k + 1) a0) := by
 intro a0 k
 have ih0 := pannierref10_Join.mono_l k
 unfold pannierref10_Join.f
 repeat' first
   | (with_reducible exact ih0 _ _ _)
   | (with_reducible exact LeO.refl _)
   | (with_reducible exact LeO.none _)
   | (with_reducible refine LeO.ite ?_ ?_)
   | (with_reducible refine LeO.bind ?_ (fun _ => ?_))
   | exact ih0 _ _ _
   | exact LeO.none _
   | refine LeO.ite ?_ ?_
   | refine LeO.bind ?_ (fun _ => ?_)
set_option maxHeartbeats 8000000 in
set_option maxRecDepth 100000 in
theorem pannierref10_Join.calls (k : Nat) (A0 : Option Addr) (c0 : Nat) (l0 : List ByteArray) (r : ByteArray) (w : World) (hr0 : Kd.C Kd.string w A0 l0.length l0) (hc0 : l0.length ≤ c0) (h : pannierref10_Join.f k l0 = some r) :
  Calls Tryd.prog 83 #[.slice A0 l0.length c0] w fun e w' => e = .returned (.string r) ∧ Drawn0 w w' := by
 have HR0 := Aside0.mk hr0
 have HC0 := Aside0.mk hc0
 clear hr0 hc0
 have H : (pannierref10_Join.l0 k l0 (⟨#[]⟩ : ByteArray) 0) = some r := h
 clear h
 have H' := Aside0.mk H
 clear H
 go_enter Tryd.func83, Tryd.ntmps83
 go_wp2
 go_loopg [3, 4] k (fun kq v3 v4 w' => ∃ (x3_1 : ByteArray) (x4_1 : Int), v3 = .string x3_1 ∧ v4 = .int .i64 x4_1 ∧ Aside0 (pannierref10_Join.l0 kq l0 x3_1 x4_1 = some r) ∧ Aside0 (kq ≤ k) ∧ Drawn0 w w')
 case atStart => exact ⟨((⟨#[]⟩ : ByteArray)), (0), (by first | rfl | (simp; done) | (simp [*]; done)), (by first | rfl | (simp; done) | (simp [*]; done)), H', ⟨Nat.le_refl _⟩, by repeat (first | exact Drawn0.refl _ | apply Drawn0.step)⟩
 case round =>
  clear H'
  obtain ⟨x3_1, x4_1, rfl, rfl, HA, HK1, ⟨m1, rfl⟩⟩ := hrel
  cases gk with
  | zero => exact absurd HA.out (by simp [pannierref10_Join.l0])
  | succ k1 =>
   have H := HA.out
   clear HA
   simp only [pannierref10_Join.l0] at H
   by_cases c2 : x4_1 < (l0.length : Int)
   ·rw [if_pos c2] at H
    have c2b0 : decide (x4_1 < (l0.length : Int)) = true := decide_eq_true c2
    clear c2
    by_cases c3 : x4_1 > 0
    ·rw [if_pos c3] at H
     have c3b0 : decide (0 < x4_1) = true := decide_eq_true c3
     clear c3
     by_cases c4 : x3_1.size + 1 ≤ 9223372036854775807
     ·rw [if_pos c4] at H
      have c4b0 := eq_true c4
      have c4b1 : decide (x3_1.size + 1 ≤ 9223372036854775807) = true := decide_eq_true c4
      try have c4b2 : (9223372036854775807 < x3_1.size + 1) = False := eq_false (Nat.not_lt.2 c4)
      by_cases c5 : 0 ≤ x4_1
      ·rw [if_pos c5] at H
       have c5b0 : decide (0 ≤ x4_1) = true := decide_eq_true c5
       clear c5
       by_cases c6 : (x3_1 ++ (⟨#[47]⟩ : ByteArray)).size + (rdOf ByteArray.empty l0 x4_1).size ≤ 9223372036854775807
       ·rw [if_pos c6] at H
        have c6b0 := eq_true c6
        have c6b1 : decide ((x3_1 ++ (⟨#[47]⟩ : ByteArray)).size + (rdOf ByteArray.empty l0 x4_1).size ≤ 9223372036854775807) = true := decide_eq_true c6
        try have c6b2 : (9223372036854775807 < (x3_1 ++ (⟨#[47]⟩ : ByteArray)).size + (rdOf ByteArray.empty l0 x4_1).size) = False := eq_false (Nat.not_lt.2 c6)
        have H' := Aside0.mk H
        clear H
        have p470 : 0 ≤ (x4_1 : Int) := of_decide_eq_true (by first | (with_reducible assumption) | assumption)
        have q470 : x4_1 < (l0.length : Int) := of_decide_eq_true (by first | (with_reducible assumption) | assumption)
        obtain ⟨ad470, e470, hx470_0⟩ := Kd.at_string HR0.out x4_1 p470 q470
        cases e470
        replace p470 := eq_true p470
        replace q470 := eq_true q470
        go_wp2
        go_roundg k1
        case measure => have := HK1.out; omega
        case rel => exact ⟨((x3_1 ++ (⟨#[47]⟩ : ByteArray)) ++ (rdOf ByteArray.empty l0 x4_1)), (wrap64 (x4_1 + 1)), (by first | rfl | (simp; done) | (simp [*]; done)), (by first | rfl | (simp; done) | (simp [*]; done)), H', ⟨by have := HK1.out; omega⟩, by repeat (first | exact Drawn0.refl _ | apply Drawn0.step)⟩
       ·rw [if_neg c6] at H
        exact absurd H (by simp)
      ·rw [if_neg c5] at H
       exact absurd H (by simp)
     ·rw [if_neg c4] at H
      exact absurd H (by simp)
    ·rw [if_neg c3] at H
     have c3b0 : decide (0 < x4_1) = false := decide_eq_false c3
     clear c3
     by_cases c7 : 0 ≤ x4_1
     ·rw [if_pos c7] at H
      have c7b0 : decide (0 ≤ x4_1) = true := decide_eq_true c7
      clear c7
      by_cases c8 : x3_1.size + (rdOf ByteArray.empty l0 x4_1).size ≤ 9223372036854775807
      ·rw [if_pos c8] at H
       have c8b0 := eq_true c8
       have c8b1 : decide (x3_1.size + (rdOf ByteArray.empty l0 x4_1).size ≤ 9223372036854775807) = true := decide_eq_true c8
       try have c8b2 : (9223372036854775807 < x3_1.size + (rdOf ByteArray.empty l0 x4_1).size) = False := eq_false (Nat.not_lt.2 c8)
       have H' := Aside0.mk H
       clear H
       have p471 : 0 ≤ (x4_1 : Int) := of_decide_eq_true (by first | (with_reducible assumption) | assumption)
       have q471 : x4_1 < (l0.length : Int) := of_decide_eq_true (by first | (with_reducible assumption) | assumption)
       obtain ⟨ad471, e471, hx471_0⟩ := Kd.at_string HR0.out x4_1 p471 q471
       cases e471
       replace p471 := eq_true p471
       replace q471 := eq_true q471
       go_wp2
       go_roundg k1
       case measure => have := HK1.out; omega
       case rel => exact ⟨(x3_1 ++ (rdOf ByteArray.empty l0 x4_1)), (wrap64 (x4_1 + 1)), (by first | rfl | (simp; done) | (simp [*]; done)), (by first | rfl | (simp; done) | (simp [*]; done)), H', ⟨by have := HK1.out; omega⟩, by repeat (first | exact Drawn0.refl _ | apply Drawn0.step)⟩
      ·rw [if_neg c8] at H
       exact absurd H (by simp)
     ·rw [if_neg c7] at H
      exact absurd H (by simp)
   ·rw [if_neg c2] at H
    have c2b0 : decide (x4_1 < (l0.length : Int)) = false := decide_eq_false c2
    clear c2
    obtain rfl := Option.some.inj H
    go_wp2
    all_goals (go_ret; exact ⟨by first | rfl | (simp; done) | (simp [*]; done), by repeat (first | exact Drawn0.refl _ | apply Drawn0.step)⟩)

/-! ### pannierref13_parents: function 69 -/
mutual
def pannierref13_parents.l0 : Nat → List ByteArray → Int → List (S73) → Int → Option ((List (S73)) × Int × Int)
 | 0, _, _, _, _ => none
 | k + 1, x6, x7, x473000, x473001 => if x7 < (x6.length : Int) then (if 0 ≤ x7 then (if x7 ≤ (x6.length : Int) then ((pannierref10_Join.f k (x6.take (x7 : Int).toNat)).bind fun t481 => ((pannierref13_Find.f k x473000 x473001 t481).bind fun t482 => (if t482 ≥ 0 then (if 0 ≤ t482 then (if t482 < (x473000.length : Int) then (pannierref13_parents.j1 k x6 x7 t481 t482 (((rd_T73 x473000 t482).f1) != 4) x473000 x473001) else (none)) else (none)) else (pannierref13_parents.j1 k x6 x7 t481 t482 false x473000 x473001)))) else (none)) else (none)) else (some (x473000, x473001, 0))
def pannierref13_parents.j1 : Nat → List ByteArray → Int → ByteArray → Int → Bool → List (S73) → Int → Option ((List (S73)) × Int × Int)
 | 0, _, _, _, _, _, _, _ => none
 | k + 1, x6, x7, x8, x9, x35, x473000, x473001 => if x35 = true then (some (x473000, x473001, 130)) else (if x9 < 0 then ((pannierref13_with.f k x473000 x473001 x8 4 0 true x473001).bind fun bt484 => (pannierref13_parents.l0 k x6 (wrap64 (x7 + 1)) bt484.1 (wrap64 (bt484.2 + 1)))) else (pannierref13_parents.l0 k x6 (wrap64 (x7 + 1)) x473000 x473001))
end
def pannierref13_parents.f (k : Nat) (l0_0 : List (S73)) (a0_1 : Int) (a1 : ByteArray) : Option ((List (S73)) × Int × Int) := (pannierref10_Split.f k a1).bind fun t474 => (pannierref13_parents.l0 k t474 1 l0_0 a0_1)
theorem pannierref13_parents.mono_l : ∀ k, (∀ y0 y1 y2 y3, LeO (pannierref13_parents.l0 k y0 y1 y2 y3) (pannierref13_parents.l0 (k + 1) y0 y1 y2 y3)) ∧ (∀ y0 y1 y2 y3 y4 y5 y6, LeO (pannierref13_parents.j1 k y0 y1 y2 y3 y4 y5 y6) (pannierref13_parents.j1 (k + 1) y0 y1 y2 y3 y4 y5 y6))
 | 0 => ⟨fun _ _ _ _ r h => by simp [pannierref13_parents.l0] at h, fun _ _ _ _ _ _ _ r h => by simp [pannierref13_parents.j1] at h⟩
 | k + 1 => by
  obtain ⟨ih0, ih1⟩ := pannierref13_parents.mono_l k
  refine ⟨?_, ?_⟩
  ·intro y0 y1 y2 y3
   unfold pannierref13_parents.l0
   repeat' first
   | (with_reducible exact ih0 _ _ _ _)
   | (with_reducible exact ih1 _ _ _ _ _ _ _)
   | (with_reducible exact pannierref10_Join.mono _ _)
   | (with_reducible exact pannierref10_Split.mono _ _)
   | (with_reducible exact pannierref13_Find.mono _ _ _ _)
   | (with_reducible exact pannierref13_with.mono _ _ _ _ _ _ _ _)
   | (with_reducible exact LeO.refl _)
   | (with_reducible exact LeO.none _)
   | (with_reducible refine LeO.ite ?_ ?_)
   | (with_reducible refine LeO.bind ?_ (fun _ => ?_))
   | exact ih0 _ _ _ _
   | exact ih1 _ _ _ _ _ _ _
   | exact pannierref10_Join.mono _ _
   | exact pannierref10_Split.mono _ _
   | exact pannierref13_Find.mono _ _ _ _
   | exact pannierref13_with.mono _ _ _ _ _ _ _ _
   | exact LeO.none _
   | refine LeO.ite ?_ ?_
   | refine LeO.bind ?_ (fun _ => ?_)
  ·intro y0 y1 y2 y3 y4 y5 y6
   unfold pannierref13_parents.j1
   repeat' first
   | (with_reducible exact ih0 _ _ _ _)
   | (with_reducible exact ih1 _ _ _ _ _ _ _)
   | (with_reducible exact pannierref10_Join.mono _ _)
   | (with_reducible exact pannierref10_Split.mono _ _)
   | (with_reducible exact pannierref13_Find.mono _ _ _ _)
   | (with_reducible exact pannierref13_with.mono _ _ _ _ _ _ _ _)
   | (with_reducible exact LeO.refl _)
   | (with_reducible exact LeO.none _)
   | (with_reducible refine LeO.ite ?_ ?_)
   | (with_reducible refine LeO.bind ?_ (fun _ => ?_))
   | exact ih0 _ _ _ _
   | exact ih1 _ _ _ _ _ _ _
   | exact pannierref10_Join.mono _ _
   | exact pannierref10_Split.mono _ _
   | exact pannierref13_Find.mono _ _ _ _
   | exact pannierref13_with.mono _ _ _ _ _ _ _ _
   | exact LeO.none _
   | refine LeO.ite ?_ ?_
   | refine LeO.bind ?_ (fun _ => ?_)
theorem pannierref13_parents.mono : ∀ a0 a1 a2 k, LeO (pannierref13_parents.f k a0 a1 a2) (pannierref13_parents.f (k + 1) a0 a1 a2) := by
 intro a0 a1 a2 k
 obtain ⟨ih0, ih1⟩ := pannierref13_parents.mono_l k
 unfold pannierref13_parents.f
 repeat' first
   | (with_reducible exact ih0 _ _ _ _)
   | (with_reducible exact ih1 _ _ _ _ _ _ _)
   | (with_reducible exact pannierref10_Join.mono _ _)
   | (with_reducible exact pannierref10_Split.mono _ _)
   | (with_reducible exact pannierref13_Find.mono _ _ _ _)
   | (with_reducible exact pannierref13_with.mono _ _ _ _ _ _ _ _)
   | (with_reducible exact LeO.refl _)
   | (with_reducible exact LeO.none _)
   | (with_reducible refine LeO.ite ?_ ?_)
   | (with_reducible refine LeO.bind ?_ (fun _ => ?_))
   | exact ih0 _ _ _ _
   | exact ih1 _ _ _ _ _ _ _
   | exact pannierref10_Join.mono _ _
   | exact pannierref10_Split.mono _ _
   | exact pannierref13_Find.mono _ _ _ _
   | exact pannierref13_with.mono _ _ _ _ _ _ _ _
   | exact LeO.none _
   | refine LeO.ite ?_ ?_
   | refine LeO.bind ?_ (fun _ => ?_)
set_option maxHeartbeats 8000000 in
set_option maxRecDepth 100000 in
theorem pannierref13_parents.calls (k : Nat) (P0_0_ : Nat → Prop) (A0_0 : Option Addr) (c0_0 : Nat) (l0_0 : List (S73)) (a0_1 : Int) (a1 : ByteArray) (r1 : List (S73)) (r2 : Int) (r3 : Int) (w : World) (hs0_0 : Kd.V k73 73 w w.heap.size (fun k_ => P0_0_ k_) (.slice A0_0 l0_0.length c0_0) l0_0) (h : pannierref13_parents.f k l0_0 a0_1 a1 = some (r1, r2, r3)) :
  Calls Tryd.prog 69 #[.agg #[.slice A0_0 l0_0.length c0_0, .int .i64 a0_1], .string a1] w fun e w' => ∃ v0_ : Value, e = .returned (.tuple #[.agg #[v0_, .int .i64 r2], .int .i64 r3]) ∧ Kd.V k73 73 w' w.heap.size (fun k_ => (P0_0_ k_ ∨ w.heap.size ≤ k_)) v0_ r1 ∧ Below w.heap.size w w' := by
 have hu64 := Tryd.underlying64
 have hu73 := Tryd.underlying73
 have HO0_0 := Aside0.mk (show Kd.V k73 73 w w.heap.size (fun k_ => (P0_0_ k_ ∨ w.heap.size ≤ k_)) (.slice A0_0 l0_0.length c0_0) l0_0 from Kd.V_mono hs0_0 (fun k_ hk => .inl hk))
 have HB := Aside0.mk (Below.refl w.heap.size w)
 have H : ((pannierref10_Split.f k a1).bind fun t474 => (pannierref13_parents.l0 k t474 1 l0_0 a0_1)) = some (r1, r2, r3) := h
 clear h
 replace H := Option.bind_eq_some_iff.mp H
 obtain ⟨t474, A30, H⟩ := H
 replace H : (pannierref13_parents.l0 k t474 1 l0_0 a0_1) = some (r1, r2, r3) := H
 have A3 := Aside0.mk A30
 clear A30
 have H' := Aside0.mk H
 clear H
 go_enter Tryd.func69, Tryd.ntmps69
 go_wp2_with (first | ((with_reducible refine gate_dst (N := 2) rfl ?_); refine box_event ?hg (N := 2) ?hd (cs := #[.slice A0_0 l0_0.length c0_0, .int .i64 a0_1]) (t := 64) ?hr ?_; (case hd => rfl); (case hg => rfl); (case hr => first | (go_simp; done) | (go_simp; rfl)); intro gb472 hg w4 hbox hb; have n0_ := Aside0.mk (Kd.V_below (Kd.V_elderB (by (with_reducible repeat (first | apply Kd.V_alloc | apply Kd.V_drewN | apply Kd.V_drew)); exact HO0_0.out) gb472 (Nat.le_of_eq hg.symm)) hb); have n1_ := Aside0.mk (below_step (by repeat (first | (with_reducible first | exact HB.out | apply below_alloc | apply pw_below_drewN | apply below_drew1) | exact HB.out)) hb); have n2_ := Aside0.mk (hbox); have n3_ := Aside0.mk ((by rw [hg]; exact (below_size (by repeat (first | (with_reducible first | exact HB.out | apply below_alloc | apply pw_below_drewN | apply below_drew1) | exact HB.out))) : w.heap.size ≤ gb472)); have n4_ := Aside0.mk ((by rw [hg]; exact (below_size (by repeat (first | (with_reducible first | exact HB.out | apply below_alloc | apply pw_below_drewN | apply below_drew1) | exact HB.out))) : w.heap.size ≤ gb472)); clear HO0_0; clear HB; have HO0_0 := n0_; have HB := n1_; have BK472 := n2_; have GW472 := n3_; have GE472 := n4_; clear n0_ n1_ n2_ n3_ n4_; clear hb hbox hg) | ((with_reducible refine gate_dst (N := 4) rfl ?_); refine box_event ?hg (N := 4) ?hd (cs := #[.slice none 0 0, .int .i64 0]) (t := 64) ?hr ?_; (case hd => rfl); (case hg => rfl); (case hr => first | (go_simp; done) | (go_simp; rfl)); intro gb473 hg w5 hbox hb; have n0_ := Aside0.mk (Kd.V_below (Kd.V_elderB (by (with_reducible repeat (first | apply Kd.V_alloc | apply Kd.V_drewN | apply Kd.V_drew)); exact HO0_0.out) gb473 (Nat.le_of_eq hg.symm)) hb); have n1_ := Aside0.mk (blk_below (g := gb472) (o := .cells #[.slice A0_0 l0_0.length c0_0, .int .i64 a0_1] 64 (0, 0)) (by (with_reducible repeat (first | refine blk_drewN ?_ _ | refine blk_drew ?_ | refine blk_alloc ?_ _)); exact BK472.out) hb); have n2_ := Aside0.mk (below_step (by repeat (first | (with_reducible first | exact HB.out | apply below_alloc | apply pw_below_drewN | apply below_drew1 | refine below_set ?_ GE472.out) | exact HB.out)) hb); have n3_ := Aside0.mk (hbox); have n4_ := Aside0.mk ((by rw [hg]; exact (below_size (by repeat (first | (with_reducible first | exact HB.out | apply below_alloc | apply pw_below_drewN | apply below_drew1 | refine below_set ?_ GE472.out) | exact HB.out))) : w.heap.size ≤ gb473)); have n5_ := Aside0.mk ((by rw [hg]; exact (below_size (by repeat (first | (with_reducible first | exact HB.out | apply below_alloc | apply pw_below_drewN | apply below_drew1 | refine below_set ?_ GE472.out) | exact HB.out))) : w.heap.size ≤ gb473)); have n6_ := Aside0.mk ((by rw [hg]; exact Nat.ne_of_lt (blk_lt (g := gb472) (o := .cells #[.slice A0_0 l0_0.length c0_0, .int .i64 a0_1] 64 (0, 0)) (by (with_reducible repeat (first | refine blk_drewN ?_ _ | refine blk_drew ?_ | refine blk_alloc ?_ _)); exact BK472.out)) : gb472 ≠ gb473)); have n7_ := Aside0.mk ((by rw [hg]; exact Nat.ne_of_gt (blk_lt (g := gb472) (o := .cells #[.slice A0_0 l0_0.length c0_0, .int .i64 a0_1] 64 (0, 0)) (by (with_reducible repeat (first | refine blk_drewN ?_ _ | refine blk_drew ?_ | refine blk_alloc ?_ _)); exact BK472.out)) : gb473 ≠ gb472)); clear HO0_0; clear BK472; clear HB; have HO0_0 := n0_; have BK472 := n1_; have HB := n2_; have BK473 := n3_; have GW473 := n4_; have GE473 := n5_; have NB472_473 := n6_; have NB473_472 := n7_; clear n0_ n1_ n2_ n3_ n4_ n5_ n6_ n7_; clear hb hbox hg) | ((with_reducible refine gate_callee (f := 21) rfl ?_); refine goesL_ (some 11) rfl rfl Tryd.func21 (by kernel_rfl) rfl #[.string a1] rfl (by (try simp only [List.map_toArray, List.map_cons, List.map_nil]); first | done | rfl | (simp only [List.length_drop, List.length_take]; rfl)) ?_; (with_reducible refine (pannierref10_Split.calls k a1 t474 _ A3.out).mono ?_); rintro e w6 ⟨v475, rfl, ho0, hb⟩; refine ⟨_, rfl, ?_⟩; have n0_ := Aside0.mk (Kd.V_elder' (by (with_reducible repeat (first | apply Kd.V_alloc | apply Kd.V_drewN | apply Kd.V_drew)); exact HO0_0.out) (Kd.R_base ho0) hb); have n1_ := Aside0.mk (Kd.R_lower (Kd.R_newM (M := fun k_ => (w.heap.size ≤ k_)) ho0 (below_size (by repeat (first | (with_reducible first | exact HB.out | apply below_alloc | apply pw_below_drewN | apply below_drew1 | refine below_set ?_ GE472.out | refine below_set ?_ GE473.out) | exact HB.out))) (fun k_ h_ => h_)) (below_size (by repeat (first | (with_reducible first | exact HB.out | apply below_alloc | apply pw_below_drewN | apply below_drew1 | refine below_set ?_ GE472.out | refine below_set ?_ GE473.out) | exact HB.out)))); have n2_ := Aside0.mk (blk_below (g := gb472) (o := .cells #[.slice A0_0 l0_0.length c0_0, .int .i64 a0_1] 64 (0, 0)) (by (with_reducible repeat (first | refine blk_drewN ?_ _ | refine blk_drew ?_ | refine blk_alloc ?_ _)); exact BK472.out) hb); have n3_ := Aside0.mk (blk_below (g := gb473) (o := .cells #[.slice none 0 0, .int .i64 0] 64 (0, 0)) (by (with_reducible repeat (first | refine blk_drewN ?_ _ | refine blk_drew ?_ | refine blk_alloc ?_ _)); exact BK473.out) hb); have n4_ := Aside0.mk (below_step (by repeat (first | (with_reducible first | exact HB.out | apply below_alloc | apply pw_below_drewN | apply below_drew1 | refine below_set ?_ GE472.out | refine below_set ?_ GE473.out) | exact HB.out)) hb); clear HO0_0; clear BK472; clear BK473; clear HB; have HO0_0 := n0_; have HO476 := n1_; have BK472 := n2_; have BK473 := n3_; have HB := n4_; clear n0_ n1_ n2_ n3_ n4_; (try clear hb); (try clear hb2); (try clear hk); (try clear hi); (try clear ho0)))
 go_loopg [7] k (fun kq v7 w' => ∃ (x7_1 : Int) (x473000_1 : List (S73)) (x473001_1 : Int) (x474001_1 : Int) (u473000 : Value), v7 = .int .i64 x7_1 ∧ Aside0 (pannierref13_parents.l0 kq t474 x7_1 x473000_1 x473001_1 = some (r1, r2, r3)) ∧ Aside0 (kq ≤ k) ∧ Aside0 (Kd.R Kd.string 9 w' w.heap.size (fun k_ => (w.heap.size ≤ k_)) v475 t474) ∧ Aside0 (Kd.V k73 73 w' w.heap.size (fun k_ => (P0_0_ k_ ∨ w.heap.size ≤ k_) ∧ some k_ ≠ (v475 : Value).ownBlock ∧ k_ ≠ gb472 ∧ k_ ≠ gb473) u473000 x473000_1) ∧ Aside0 (w'.heap[gb472]? = some (.cells #[u473000, .int .i64 x473001_1] 64 (0, 0))) ∧ Aside0 (w'.heap[gb473]? = some (.cells #[(.slice none 0 0), .int .i64 x474001_1] 64 (0, 0))) ∧ Aside0 (Below w.heap.size w w'))
 case atStart => exact ⟨(1), (l0_0), (a0_1), (0), (.slice A0_0 l0_0.length c0_0), (by first | rfl | (simp; done) | (simp [*]; done)), H', ⟨Nat.le_refl _⟩, ⟨by (with_reducible repeat (first | apply Kd.R_alloc | apply Kd.R_drewN | apply Kd.R_drew)); exact Kd.R_mono HO476.out (fun _ hk => hk.1)⟩, ⟨by (with_reducible repeat (first | apply Kd.V_alloc | apply Kd.V_drewN | apply Kd.V_drew)); exact Kd.V_mono HO0_0.out (fun _ hk => ⟨hk.1.1.1, ⟨hk.2, ⟨hk.1.1.2, hk.1.2⟩⟩⟩)⟩, ⟨by (with_reducible repeat (first | refine blk_drewN ?_ _ | refine blk_drew ?_ | refine blk_alloc ?_ _)); exact BK472.out⟩, ⟨by (with_reducible repeat (first | refine blk_drewN ?_ _ | refine blk_drew ?_ | refine blk_alloc ?_ _)); exact BK473.out⟩, ⟨by repeat (first | (with_reducible first | exact HB.out | apply below_alloc | apply pw_below_drewN | apply below_drew1 | refine below_set ?_ GE472.out | refine below_set ?_ GE473.out) | exact HB.out)⟩⟩
 case round =>
  clear H'
  try clear c2
  try clear p2
  try clear c6
  obtain ⟨x7_1, x473000_1, x473001_1, x474001_1, u473000, rfl, HA, HK1, HO_6, HO_473000, BK472, BK473, HB⟩ := hrel
  cases gk with
  | zero => exact absurd HA.out (by simp [pannierref13_parents.l0])
  | succ k1 =>
   have H := HA.out
   clear HA
   simp only [pannierref13_parents.l0] at H
   by_cases c7 : x7_1 < (t474.length : Int)
   ·rw [if_pos c7] at H
    have c7b0 : decide (x7_1 < (t474.length : Int)) = true := decide_eq_true c7
    clear c7
    by_cases c8 : 0 ≤ x7_1
    ·rw [if_pos c8] at H
     have c8b0 := eq_true c8
     have c8b1 : decide (0 ≤ x7_1) = true := decide_eq_true c8
     clear c8
     by_cases c9 : x7_1 ≤ (t474.length : Int)
     ·rw [if_pos c9] at H
      have c9b0 := eq_true c9
      have c9b1 : decide (x7_1 ≤ (t474.length : Int)) = true := decide_eq_true c9
      clear c9
      obtain ⟨y477, hy477⟩ : ∃ y_ : List ByteArray, y_ = (t474.take (x7_1 : Int).toNat) := ⟨_, rfl⟩
      replace H : ((pannierref10_Join.f k1 y477).bind fun t481 => ((pannierref13_Find.f k1 x473000_1 x473001_1 t481).bind fun t482 => (if t482 ≥ 0 then (if 0 ≤ t482 then (if t482 < (x473000_1.length : Int) then (pannierref13_parents.j1 k1 t474 x7_1 t481 t482 (((rd_T73 x473000_1 t482).f1) != 4) x473000_1 x473001_1) else (none)) else (none)) else (pannierref13_parents.j1 k1 t474 x7_1 t481 t482 false x473000_1 x473001_1)))) = some (r1, r2, r3) := by first | (rw [hy477]; with_reducible exact H) | (have H2_ := (Option.bind_some _ _).symm.trans H; rw [hy477]; with_reducible exact H2_) | (have H2_ := (Option.bind_some _ _).symm.trans H; with_reducible exact H2_) | with_reducible exact H | (rw [hy477]; exact H) | exact H
      have Ny477 := Aside0.mk hy477
      clear hy477
      replace H := Option.bind_eq_some_iff.mp H
      obtain ⟨t481, A100, H⟩ := H
      replace H : ((pannierref13_Find.f k1 x473000_1 x473001_1 t481).bind fun t482 => (if t482 ≥ 0 then (if 0 ≤ t482 then (if t482 < (x473000_1.length : Int) then (pannierref13_parents.j1 k1 t474 x7_1 t481 t482 (((rd_T73 x473000_1 t482).f1) != 4) x473000_1 x473001_1) else (none)) else (none)) else (pannierref13_parents.j1 k1 t474 x7_1 t481 t482 false x473000_1 x473001_1))) = some (r1, r2, r3) := H
      have A10 := Aside0.mk A100
      clear A100
      replace H := Option.bind_eq_some_iff.mp H
      obtain ⟨t482, A110, H⟩ := H
      replace H : (if t482 ≥ 0 then (if 0 ≤ t482 then (if t482 < (x473000_1.length : Int) then (pannierref13_parents.j1 k1 t474 x7_1 t481 t482 (((rd_T73 x473000_1 t482).f1) != 4) x473000_1 x473001_1) else (none)) else (none)) else (pannierref13_parents.j1 k1 t474 x7_1 t481 t482 false x473000_1 x473001_1)) = some (r1, r2, r3) := H
      have A11 := Aside0.mk A110
      clear A110
      have HC12 := Aside0.mk H
      clear H
      obtain ⟨Ao13, co13, eo13⟩ := Kd.R_slice HO_6.out
      subst eo13
      have q14 : (x7_1 : Int) ≤ ((t474.length : Int) : Int) := of_decide_eq_true (by first | (with_reducible assumption) | assumption)
      obtain ⟨i014, hi014, _, hsz14, _⟩ := info_parts info9
      have hroom14 : t474.length ≤ co13 := (Kd.R_reads' HO_6.out).2.1
      have hC14 : Kd.C Kd.string _ Ao13 t474.length t474 := (Kd.R_reads' HO_6.out).2.2
      have hcut14 := cut_to (P := Tryd.prog) 45 9 .i64 Tryd.underlying45 hi014 Ao13 t474.length co13 x7_1 (of_decide_eq_true (by first | (with_reducible assumption) | assumption)) q14 hroom14
      have hr14 := Kd.C_take (m := (x7_1 : Int).toNat) hC14 (by omega)
      have hy14 : y477.length = (x7_1 : Int).toNat := (by rw [Ny477.out, List.length_take]; omega)
      rw [← Ny477.out] at hr14
      rw [← hy14] at hcut14
      have HR480 := Aside0.mk hr14
      have HC480 := Aside0.mk (show y477.length ≤ co13 from by omega)
      clear hr14 hC14 hroom14 hi014 hsz14
      have KY14 := Aside0.mk hy14
      clear hy14
      have KL14 := Aside0.mk (show (x7_1 : Int).toNat ≤ t474.length from by omega)
      replace q14 := eq_true q14
      go_upto_region 7 with (first | ((with_reducible refine gate_callee (f := 83) rfl ?_); refine goesL_ (some 21) rfl rfl Tryd.func83 (by kernel_rfl) rfl #[.slice Ao13 y477.length co13] rfl (by (try simp only [List.map_toArray, List.map_cons, List.map_nil]); first | done | rfl | (simp only [List.length_drop, List.length_take]; rfl)) ?_; (with_reducible refine (pannierref10_Join.calls k1 _ _ y477 t481 _ ?side1 ?side2 A10.out).mono ?_); (case side1 => repeat (first | exact (by repeat (first | (with_reducible exact HR480.out) | (with_reducible refine Kd.C_alloc ?_ _) | (with_reducible refine Kd.C_drewN ?_ _) | (with_reducible refine Kd.C_drew ?_) | exact HR480.out)) | (with_reducible refine Kd.C_alloc ?_ _) | (with_reducible refine Kd.C_drewN ?_ _) | (with_reducible refine Kd.C_drew ?_))); (case side2 => exact HC480.out); rintro e w' ⟨rfl, ⟨nd, rfl⟩⟩; refine ⟨_, rfl, ?_⟩; have hnb15 := NB472_473.out; have hnc15 := NB473_472.out; have hcz16_0 : wr.cell? ⟨gb472, 0, none⟩ = some (u473000) := (blk_cell BK472.out 0).trans rfl; have hcz16_1 : wr.cell? ⟨gb472, 1, none⟩ = some (.int .i64 x473001_1) := (blk_cell BK472.out 1).trans rfl; have hfz16_0 := blk_frozen BK472.out 0; have hfz16_1 := blk_frozen BK472.out 1; obtain ⟨Ao17, co17, eo17⟩ := Kd.V_slice HO_473000.out; subst eo17) | ((with_reducible refine gate_callee (f := 31) rfl ?_); refine goesL_ (some 24) rfl rfl Tryd.func31 (by kernel_rfl) rfl #[.agg #[.slice Ao17 x473000_1.length co17, .int .i64 x473001_1], .string t481] rfl (by (try simp only [List.map_toArray, List.map_cons, List.map_nil]); first | done | rfl | (simp only [List.length_drop, List.length_take]; rfl)) ?_; (with_reducible refine (pannierref13_Find.calls k1 _ _ x473000_1 x473001_1 t481 t482 _ ?side1 ?side2 A11.out).mono ?_); (case side1 => repeat (first | exact (Kd.V_reads' HO_473000.out).2.2 | (with_reducible refine Kd.C_alloc ?_ _) | (with_reducible refine Kd.C_drewN ?_ _) | (with_reducible refine Kd.C_drew ?_))); (case side2 => exact (Kd.V_reads' HO_473000.out).2.1); rintro e w18 ⟨rfl, hb⟩; refine ⟨_, rfl, ?_⟩; have n0_ := Aside0.mk (Kd.R_below (by (with_reducible repeat (first | apply Kd.R_alloc | apply Kd.R_drewN | apply Kd.R_drew)); exact HO_6.out) hb); have n1_ := Aside0.mk (Kd.V_below (by (with_reducible repeat (first | apply Kd.V_alloc | apply Kd.V_drewN | apply Kd.V_drew)); exact HO_473000.out) hb); have n2_ := Aside0.mk (blk_below (g := gb472) (o := .cells #[.slice Ao17 x473000_1.length co17, .int .i64 x473001_1] 64 (0, 0)) (by (with_reducible repeat (first | refine blk_drewN ?_ _ | refine blk_drew ?_ | refine blk_alloc ?_ _)); exact BK472.out) hb); have n3_ := Aside0.mk (blk_below (g := gb473) (o := .cells #[.slice none 0 0, .int .i64 x474001_1] 64 (0, 0)) (by (with_reducible repeat (first | refine blk_drewN ?_ _ | refine blk_drew ?_ | refine blk_alloc ?_ _)); exact BK473.out) hb); have n4_ := Aside0.mk (Kd.C_below (by repeat (first | (with_reducible exact HR480.out) | (with_reducible refine Kd.C_alloc ?_ _) | (with_reducible refine Kd.C_drewN ?_ _) | (with_reducible refine Kd.C_drew ?_) | exact HR480.out)) hb); have n5_ := Aside0.mk (below_step (by repeat (first | (with_reducible first | exact HB.out | apply below_alloc | apply pw_below_drewN | apply below_drew1 | refine below_set ?_ GE472.out | refine below_set ?_ GE473.out) | exact HB.out)) hb); clear HO_6; clear HO_473000; clear BK472; clear BK473; clear HR480; clear HB; have HO_6 := n0_; have HO_473000 := n1_; have BK472 := n2_; have BK473 := n3_; have HR480 := n4_; have HB := n5_; clear n0_ n1_ n2_ n3_ n4_ n5_; (try clear hb); (try clear hb2); (try clear hk); (try clear hi)))
      (try simp only [Act.put, List.setIfInBounds_toArray, List.set_cons_zero, List.set_cons_succ])
      go_cut [35] (fun v35 wc => ∃ (kq : Nat) (x35_11 : Bool), v35 = .bool x35_11 ∧ Aside0 (pannierref13_parents.j1 kq t474 x7_1 t481 t482 x35_11 x473000_1 x473001_1 = some (r1, r2, r3)) ∧ Aside0 (kq ≤ k1) ∧ Aside0 (Kd.R Kd.string 9 wc w.heap.size (fun k_ => (w.heap.size ≤ k_)) (.slice Ao13 t474.length co13) t474) ∧ Aside0 (Kd.V k73 73 wc w.heap.size (fun k_ => (P0_0_ k_ ∨ w.heap.size ≤ k_) ∧ some k_ ≠ ((.slice Ao13 t474.length co13) : Value).ownBlock ∧ k_ ≠ gb472 ∧ k_ ≠ gb473) (.slice Ao17 x473000_1.length co17) x473000_1) ∧ Aside0 (wc.heap[gb472]? = some (.cells #[(.slice Ao17 x473000_1.length co17), .int .i64 x473001_1] 64 (0, 0))) ∧ Aside0 (wc.heap[gb473]? = some (.cells #[(.slice none 0 0), .int .i64 x474001_1] 64 (0, 0))) ∧ Aside0 (Kd.C Kd.string wc Ao13 y477.length y477) ∧ Aside0 (Below w.heap.size w wc))
      case first =>
       have H := HC12.out
       clear HC12
       by_cases c19 : t482 ≥ 0
       ·rw [if_pos c19] at H
        have c19b0 : decide (0 ≤ t482) = true := decide_eq_true c19
        clear c19
        (first | rw [c19b0] | (simp only [i64_w, i32_w]; rw [c19b0]) | skip)
        by_cases c20 : 0 ≤ t482
        ·rw [if_pos c20] at H
         have c20b0 : decide (0 ≤ t482) = true := decide_eq_true c20
         clear c20
         by_cases c21 : t482 < (x473000_1.length : Int)
         ·rw [if_pos c21] at H
          have c21b0 : decide (t482 < (x473000_1.length : Int)) = true := decide_eq_true c21
          clear c21
          have H' := Aside0.mk H
          clear H
          have hnb22 := NB472_473.out
          have hnc22 := NB473_472.out
          have hcz23_0 : w18.cell? ⟨gb472, 0, none⟩ = some (.slice Ao17 x473000_1.length co17) := (blk_cell BK472.out 0).trans rfl
          have hcz23_1 : w18.cell? ⟨gb472, 1, none⟩ = some (.int .i64 x473001_1) := (blk_cell BK472.out 1).trans rfl
          have hfz23_0 := blk_frozen BK472.out 0
          have hfz23_1 := blk_frozen BK472.out 1
          have p483 : 0 ≤ (t482 : Int) := of_decide_eq_true (by first | (with_reducible assumption) | assumption)
          have q483 : t482 < (x473000_1.length : Int) := of_decide_eq_true (by first | (with_reducible assumption) | assumption)
          obtain ⟨ad483, e483, hx483_0, hx483_1, hx483_2, hx483_3, hx483_4⟩ := at_T73 (Kd.V_reads' HO_473000.out).2.2 t482 p483 q483
          cases e483
          replace p483 := eq_true p483
          replace q483 := eq_true q483
          go_wp2
          go_meet
          case rel => exact ⟨_, ((((rd_T73 x473000_1 t482).f1) != 4)), (by first | rfl | (simp; done) | (simp [*]; done)), H', ⟨by have := HK1.out; first | omega | exact Nat.le_refl _⟩, ⟨by (with_reducible repeat (first | apply Kd.R_alloc | apply Kd.R_drewN | apply Kd.R_drew)); first | exact HO_6.out | exact Kd.R_mono HO_6.out (fun _ hk_ => by have h_ : ∀ (A : Option Addr) (n c : Nat), (Value.slice A n c).ownBlock = A.map (·.block) := fun A _ _ => (by cases A <;> rfl); simpa only [h_] using hk_)⟩, ⟨by (with_reducible repeat (first | apply Kd.V_alloc | apply Kd.V_drewN | apply Kd.V_drew)); first | exact HO_473000.out | exact Kd.R_mono HO_473000.out (fun _ hk_ => by have h_ : ∀ (A : Option Addr) (n c : Nat), (Value.slice A n c).ownBlock = A.map (·.block) := fun A _ _ => (by cases A <;> rfl); simpa only [h_] using hk_)⟩, ⟨by (with_reducible repeat (first | refine blk_drewN ?_ _ | refine blk_drew ?_ | refine blk_alloc ?_ _)); exact BK472.out⟩, ⟨by (with_reducible repeat (first | refine blk_drewN ?_ _ | refine blk_drew ?_ | refine blk_alloc ?_ _)); exact BK473.out⟩, ⟨by repeat (first | (with_reducible exact HR480.out) | (with_reducible refine Kd.C_alloc ?_ _) | (with_reducible refine Kd.C_drewN ?_ _) | (with_reducible refine Kd.C_drew ?_) | exact HR480.out)⟩, ⟨by repeat (first | (with_reducible first | exact HB.out | apply below_alloc | apply pw_below_drewN | apply below_drew1 | refine below_set ?_ GE472.out | refine below_set ?_ GE473.out) | exact HB.out)⟩⟩
         ·rw [if_neg c21] at H
          exact absurd H (by simp)
        ·rw [if_neg c20] at H
         exact absurd H (by simp)
       ·rw [if_neg c19] at H
        have c19b0 : decide (0 ≤ t482) = false := decide_eq_false c19
        clear c19
        (first | rw [c19b0] | (simp only [i64_w, i32_w]; rw [c19b0]) | skip)
        have H' := Aside0.mk H
        clear H
        go_wp2
        go_meet
        case rel => exact ⟨_, (false), (by first | rfl | (simp; done) | (simp [*]; done)), H', ⟨by have := HK1.out; first | omega | exact Nat.le_refl _⟩, ⟨by (with_reducible repeat (first | apply Kd.R_alloc | apply Kd.R_drewN | apply Kd.R_drew)); first | exact HO_6.out | exact Kd.R_mono HO_6.out (fun _ hk_ => by have h_ : ∀ (A : Option Addr) (n c : Nat), (Value.slice A n c).ownBlock = A.map (·.block) := fun A _ _ => (by cases A <;> rfl); simpa only [h_] using hk_)⟩, ⟨by (with_reducible repeat (first | apply Kd.V_alloc | apply Kd.V_drewN | apply Kd.V_drew)); first | exact HO_473000.out | exact Kd.R_mono HO_473000.out (fun _ hk_ => by have h_ : ∀ (A : Option Addr) (n c : Nat), (Value.slice A n c).ownBlock = A.map (·.block) := fun A _ _ => (by cases A <;> rfl); simpa only [h_] using hk_)⟩, ⟨by (with_reducible repeat (first | refine blk_drewN ?_ _ | refine blk_drew ?_ | refine blk_alloc ?_ _)); exact BK472.out⟩, ⟨by (with_reducible repeat (first | refine blk_drewN ?_ _ | refine blk_drew ?_ | refine blk_alloc ?_ _)); exact BK473.out⟩, ⟨by repeat (first | (with_reducible exact HR480.out) | (with_reducible refine Kd.C_alloc ?_ _) | (with_reducible refine Kd.C_drewN ?_ _) | (with_reducible refine Kd.C_drew ?_) | exact HR480.out)⟩, ⟨by repeat (first | (with_reducible first | exact HB.out | apply below_alloc | apply pw_below_drewN | apply below_drew1 | refine below_set ?_ GE472.out | refine below_set ?_ GE473.out) | exact HB.out)⟩⟩
      case rest =>
       clear HC12
       try clear c1
       try clear q1
       try clear c2
       try clear p2
       try clear c3
       try clear p4
       try clear q4
       try clear hx4
       try clear c6
       try clear c7
       try clear c7b0
       try clear c8
       try clear c8b0
       try clear c8b1
       try clear c9
       try clear c9b0
       try clear c9b1
       try clear q14
       try clear c15
       try clear c19
       try clear c19b0
       try clear c20
       try clear c20b0
       try clear c21
       try clear c21b0
       try clear c22
       try clear hcz16_0
       try clear hcz16_1
       try clear hcz23_0
       try clear hcz23_1
       try clear hfz16_0
       try clear hfz16_1
       try clear hfz23_0
       try clear hfz23_1
       try clear hx483_0
       try clear hx483_1
       try clear hx483_2
       try clear hx483_3
       try clear hx483_4
       try clear p2
       try clear p483
       try clear q14
       try clear q483
       obtain ⟨kq, x35_11, rfl, HA, HJ11, HO_6, HO_473000, BK472, BK473, HR480, HB⟩ := hcut
       cases kq with
       | zero => exact absurd HA.out (by simp [pannierref13_parents.j1])
       | succ kj11 =>
        have H := HA.out
        clear HA
        simp only [pannierref13_parents.j1] at H
        by_cases c24 : x35_11 = true
        ·subst c24
         have H1 : (some (x473000_1, x473001_1, 130)) = some (r1, r2, r3) := by rw [if_pos rfl] at H; exact H
         clear H
         have H := H1
         clear H1
         simp only [Option.some.injEq, Prod.mk.injEq] at H
         obtain ⟨rfl, rfl, rfl⟩ := H
         have hnb25 := NB472_473.out
         have hnc25 := NB473_472.out
         have hcz26_0 : wc.cell? ⟨gb472, 0, none⟩ = some (.slice Ao17 x473000_1.length co17) := (blk_cell BK472.out 0).trans rfl
         have hcz26_1 : wc.cell? ⟨gb472, 1, none⟩ = some (.int .i64 x473001_1) := (blk_cell BK472.out 1).trans rfl
         have hfz26_0 := blk_frozen BK472.out 0
         have hfz26_1 := blk_frozen BK472.out 1
         have hcz27_0 : wc.cell? ⟨gb473, 0, none⟩ = some (.slice none 0 0) := (blk_cell BK473.out 0).trans rfl
         have hcz27_1 : wc.cell? ⟨gb473, 1, none⟩ = some (.int .i64 x474001_1) := (blk_cell BK473.out 1).trans rfl
         have hfz27_0 := blk_frozen BK473.out 0
         have hfz27_1 := blk_frozen BK473.out 1
         go_wp2
         refine bodyPost_ret (results_ct rfl _ _ gb473 64 #[.slice Ao17 x473000_1.length co17, .int .i64 x473001_1] (0, 0) _ rfl (by (with_reducible repeat (first | refine blk_drewN ?_ _ | refine blk_drew ?_ | refine blk_alloc ?_ _)); refine blk_put (cs := #[.slice Ao17 x473000_1.length co17, .int .i64 x474001_1]) ?_ 1 _ rfl; (with_reducible repeat (first | refine blk_drewN ?_ _ | refine blk_drew ?_ | refine blk_alloc ?_ _)); refine blk_put (cs := #[.slice none 0 0, .int .i64 x474001_1]) ?_ 0 _ rfl; (with_reducible repeat (first | refine blk_drewN ?_ _ | refine blk_drew ?_ | refine blk_alloc ?_ _)); exact BK473.out) Tryd.underlying64 rfl (by kernel_rfl)) rfl ?_
         exact ⟨_, by first | rfl | (simp [errW_none, errW_some] <;> rfl) | (simp [*, errW_none, errW_some] <;> rfl), by (with_reducible repeat (first | apply Kd.V_alloc | apply Kd.V_drewN | apply Kd.V_drew)); exact Kd.V_mono (Kd.V_far (p := ⟨gb473, 1, none⟩) (Kd.V_far (p := ⟨gb473, 0, none⟩) (Kd.V_mono HO_473000.out (fun k_ hk => (⟨hk, hk.2.2.2⟩ : _ ∧ k_ ≠ gb473))) (fun _ hk => hk.2) (.slice Ao17 x473000_1.length co17)) (fun _ hk => hk.2) (.int .i64 x473001_1)) (fun _ hk => hk.1.1), by repeat (first | (with_reducible first | exact HB.out | apply below_alloc | apply pw_below_drewN | apply below_drew1 | refine below_set ?_ GE472.out | refine below_set ?_ GE473.out) | exact HB.out)⟩
        ·replace c24 := Bool.eq_false_iff.mpr c24
         subst c24
         have H1 : (if t482 < 0 then ((pannierref13_with.f kj11 x473000_1 x473001_1 t481 4 0 true x473001_1).bind fun bt484 => (pannierref13_parents.l0 kj11 t474 (wrap64 (x7_1 + 1)) bt484.1 (wrap64 (bt484.2 + 1)))) else (pannierref13_parents.l0 kj11 t474 (wrap64 (x7_1 + 1)) x473000_1 x473001_1)) = some (r1, r2, r3) := by rw [if_neg (show ¬ (false = true) by decide)] at H; exact H
         clear H
         have H := H1
         clear H1
         by_cases c28 : t482 < 0
         ·rw [if_pos c28] at H
          have c28b0 : decide (t482 < 0) = true := decide_eq_true c28
          clear c28
          replace H := Option.bind_eq_some_iff.mp H
          obtain ⟨⟨t484, t487⟩, A290, H⟩ := H
          replace H : (pannierref13_parents.l0 kj11 t474 (wrap64 (x7_1 + 1)) t484 (wrap64 (t487 + 1))) = some (r1, r2, r3) := H
          have A29 := Aside0.mk A290
          clear A290
          have H' := Aside0.mk H
          clear H
          have hnb30 := NB472_473.out
          have hnc30 := NB473_472.out
          have hcz31_0 : wc.cell? ⟨gb472, 0, none⟩ = some (.slice Ao17 x473000_1.length co17) := (blk_cell BK472.out 0).trans rfl
          have hcz31_1 : wc.cell? ⟨gb472, 1, none⟩ = some (.int .i64 x473001_1) := (blk_cell BK472.out 1).trans rfl
          have hfz31_0 := blk_frozen BK472.out 0
          have hfz31_1 := blk_frozen BK472.out 1
          go_wp2_with (first | ((with_reducible refine gate_callee (f := 70) rfl ?_); refine goesL_ (some 44) rfl rfl Tryd.func70 (by kernel_rfl) rfl #[.agg #[.slice Ao17 x473000_1.length co17, .int .i64 x473001_1], .agg #[.string t481, .int .i64 4, .int .i64 0, .bool true, .int .i64 x473001_1]] rfl (by (try simp only [List.map_toArray, List.map_cons, List.map_nil]); first | done | rfl | (simp only [List.length_drop, List.length_take]; rfl)) ?_; (with_reducible refine (pannierref13_with.calls kj11 _ _ x473000_1 x473001_1 t481 4 0 true x473001_1 t484 t487 _ ?side1 ?side2 A29.out).mono ?_); (case side1 => repeat (first | exact (Kd.V_reads' HO_473000.out).2.2 | (with_reducible refine Kd.C_alloc ?_ _) | (with_reducible refine Kd.C_drewN ?_ _) | (with_reducible refine Kd.C_drew ?_))); (case side2 => exact (Kd.V_reads' HO_473000.out).2.1); rintro e w32 ⟨v485, rfl, ho0, hb⟩; refine ⟨_, rfl, ?_⟩; have n0_ := Aside0.mk (Kd.R_below (by (with_reducible repeat (first | apply Kd.R_alloc | apply Kd.R_drewN | apply Kd.R_drew)); exact HO_6.out) hb); have n1_ := Aside0.mk (Kd.V_elder' (by (with_reducible repeat (first | apply Kd.V_alloc | apply Kd.V_drewN | apply Kd.V_drew)); exact HO_473000.out) (Kd.R_base ho0) hb); have n2_ := Aside0.mk (Kd.R_lower (Kd.R_newM (M := fun k_ => (w.heap.size ≤ k_)) ho0 (below_size (by repeat (first | (with_reducible first | exact HB.out | apply below_alloc | apply pw_below_drewN | apply below_drew1 | refine below_set ?_ GE472.out | refine below_set ?_ GE473.out) | exact HB.out))) (fun k_ h_ => h_)) (below_size (by repeat (first | (with_reducible first | exact HB.out | apply below_alloc | apply pw_below_drewN | apply below_drew1 | refine below_set ?_ GE472.out | refine below_set ?_ GE473.out) | exact HB.out)))); have n3_ := Aside0.mk (blk_below (g := gb472) (o := .cells #[.slice Ao17 x473000_1.length co17, .int .i64 x473001_1] 64 (0, 0)) (by (with_reducible repeat (first | refine blk_drewN ?_ _ | refine blk_drew ?_ | refine blk_alloc ?_ _)); exact BK472.out) hb); have n4_ := Aside0.mk (blk_below (g := gb473) (o := .cells #[.slice none 0 0, .int .i64 x474001_1] 64 (0, 0)) (by (with_reducible repeat (first | refine blk_drewN ?_ _ | refine blk_drew ?_ | refine blk_alloc ?_ _)); exact BK473.out) hb); have n5_ := Aside0.mk (Kd.C_below (by repeat (first | (with_reducible exact HR480.out) | (with_reducible refine Kd.C_alloc ?_ _) | (with_reducible refine Kd.C_drewN ?_ _) | (with_reducible refine Kd.C_drew ?_) | exact HR480.out)) hb); have n6_ := Aside0.mk (below_step (by repeat (first | (with_reducible first | exact HB.out | apply below_alloc | apply pw_below_drewN | apply below_drew1 | refine below_set ?_ GE472.out | refine below_set ?_ GE473.out) | exact HB.out)) hb); clear HO_6; clear HO_473000; clear BK472; clear BK473; clear HR480; clear HB; have HO_6 := n0_; have HO_473000 := n1_; have HO486 := n2_; have BK472 := n3_; have BK473 := n4_; have HR480 := n5_; have HB := n6_; clear n0_ n1_ n2_ n3_ n4_ n5_ n6_; (try clear hb); (try clear hb2); (try clear hk); (try clear hi); (try clear ho0); obtain ⟨Ao33, co33, eo33⟩ := Kd.R_slice HO486.out; subst eo33; have hcz34_0 : w32.cell? ⟨gb472, 0, none⟩ = some (.slice Ao17 x473000_1.length co17) := (blk_cell BK472.out 0).trans rfl; have hcz34_1 : w32.cell? ⟨gb472, 1, none⟩ = some (.int .i64 x473001_1) := (blk_cell BK472.out 1).trans rfl; have hfz34_0 := blk_frozen BK472.out 0; have hfz34_1 := blk_frozen BK472.out 1))
          go_roundg kj11
          case measure => have := HK1.out; have := HJ11.out; omega
          case rel => exact ⟨(wrap64 (x7_1 + 1)), (t484), (wrap64 (t487 + 1)), (x474001_1), (.slice Ao33 t484.length co33), (by first | rfl | (simp; done) | (simp [*]; done)), H', ⟨by have := HK1.out; have := HJ11.out; omega⟩, ⟨by (with_reducible repeat (first | apply Kd.R_alloc | apply Kd.R_drewN | apply Kd.R_drew)); exact Kd.R_mono (Kd.R_far (p := ⟨gb472, 1, none⟩) (Kd.R_far (p := ⟨gb472, 1, none⟩) (Kd.R_far (p := ⟨gb472, 0, none⟩) (Kd.R_types HO_6.out BK472.out (by decide)) (fun _ hk => hk.2) (.slice Ao33 t484.length co33)) (fun _ hk => hk.2) (.int .i64 t487)) (fun _ hk => hk.2) (.int .i64 (wrap64 (t487 + 1)))) (fun _ hk => hk.1)⟩, ⟨by (have q_ := (Kd.R_far (p := ⟨gb472, 1, none⟩) (Kd.R_far (p := ⟨gb472, 1, none⟩) (Kd.R_far (p := ⟨gb472, 0, none⟩) (Kd.R_types (Kd.R_types (Kd.R_types (Kd.R_apart' HO486.out (Kd.R_typed HO_6.out) (by decide)) BK472.out (by decide)) BK473.out (by decide)) BK472.out (by decide)) (fun _ hk => hk.2) (.slice Ao33 t484.length co33)) (fun _ hk => hk.2) (.int .i64 t487)) (fun _ hk => hk.2) (.int .i64 (wrap64 (t487 + 1))))); exact Kd.V_mono (Kd.R_V q_) (fun k_ hk => ⟨.inr hk.1.1.1.1.1, ⟨hk.1.1.1.2, ⟨hk.1.1.2, hk.1.2⟩⟩⟩)⟩, ⟨by (with_reducible repeat (first | refine blk_drewN ?_ _ | refine blk_drew ?_ | refine blk_alloc ?_ _)); refine blk_put (cs := #[.slice Ao33 t484.length co33, .int .i64 t487]) ?_ 1 _ rfl; (with_reducible repeat (first | refine blk_drewN ?_ _ | refine blk_drew ?_ | refine blk_alloc ?_ _)); refine blk_put (cs := #[.slice Ao33 t484.length co33, .int .i64 x473001_1]) ?_ 1 _ rfl; (with_reducible repeat (first | refine blk_drewN ?_ _ | refine blk_drew ?_ | refine blk_alloc ?_ _)); refine blk_put (cs := #[.slice Ao17 x473000_1.length co17, .int .i64 x473001_1]) ?_ 0 _ rfl; (with_reducible repeat (first | refine blk_drewN ?_ _ | refine blk_drew ?_ | refine blk_alloc ?_ _)); exact BK472.out⟩, ⟨by (with_reducible repeat (first | refine blk_drewN ?_ _ | refine blk_drew ?_ | refine blk_alloc ?_ _)); refine blk_far ?_ NB473_472.out _; (with_reducible repeat (first | refine blk_drewN ?_ _ | refine blk_drew ?_ | refine blk_alloc ?_ _)); refine blk_far ?_ NB473_472.out _; (with_reducible repeat (first | refine blk_drewN ?_ _ | refine blk_drew ?_ | refine blk_alloc ?_ _)); refine blk_far ?_ NB473_472.out _; (with_reducible repeat (first | refine blk_drewN ?_ _ | refine blk_drew ?_ | refine blk_alloc ?_ _)); exact BK473.out⟩, ⟨by repeat (first | (with_reducible first | exact HB.out | apply below_alloc | apply pw_below_drewN | apply below_drew1 | refine below_set ?_ GE472.out | refine below_set ?_ GE473.out) | exact HB.out)⟩⟩
         ·rw [if_neg c28] at H
          have c28b0 : decide (t482 < 0) = false := decide_eq_false c28
          clear c28
          have H' := Aside0.mk H
          clear H
          go_wp2
          go_roundg kj11
          case measure => have := HK1.out; have := HJ11.out; omega
          case rel => exact ⟨(wrap64 (x7_1 + 1)), (x473000_1), (x473001_1), (x474001_1), (.slice Ao17 x473000_1.length co17), (by first | rfl | (simp; done) | (simp [*]; done)), H', ⟨by have := HK1.out; have := HJ11.out; omega⟩, ⟨by (with_reducible repeat (first | apply Kd.R_alloc | apply Kd.R_drewN | apply Kd.R_drew)); first | exact HO_6.out | exact Kd.R_mono HO_6.out (fun _ hk_ => by have h_ : ∀ (A : Option Addr) (n c : Nat), (Value.slice A n c).ownBlock = A.map (·.block) := fun A _ _ => (by cases A <;> rfl); simpa only [h_] using hk_)⟩, ⟨by (with_reducible repeat (first | apply Kd.V_alloc | apply Kd.V_drewN | apply Kd.V_drew)); first | exact HO_473000.out | exact Kd.R_mono HO_473000.out (fun _ hk_ => by have h_ : ∀ (A : Option Addr) (n c : Nat), (Value.slice A n c).ownBlock = A.map (·.block) := fun A _ _ => (by cases A <;> rfl); simpa only [h_] using hk_)⟩, ⟨by (with_reducible repeat (first | refine blk_drewN ?_ _ | refine blk_drew ?_ | refine blk_alloc ?_ _)); exact BK472.out⟩, ⟨by (with_reducible repeat (first | refine blk_drewN ?_ _ | refine blk_drew ?_ | refine blk_alloc ?_ _)); exact BK473.out⟩, ⟨by repeat (first | (with_reducible first | exact HB.out | apply below_alloc | apply pw_below_drewN | apply below_drew1 | refine below_set ?_ GE472.out | refine below_set ?_ GE473.out) | exact HB.out)⟩⟩
     ·rw [if_neg c9] at H
      exact absurd H (by simp)
    ·rw [if_neg c8] at H
     exact absurd H (by simp)
   ·rw [if_neg c7] at H
    have c7b0 : decide (x7_1 < (t474.length : Int)) = false := decide_eq_false c7
    clear c7
    simp only [Option.some.injEq, Prod.mk.injEq] at H
    obtain ⟨rfl, rfl, rfl⟩ := H
    obtain ⟨Ao35, co35, eo35⟩ := Kd.R_slice HO_6.out
    subst eo35
    have hnb36 := NB472_473.out
    have hnc36 := NB473_472.out
    have hcz37_0 : wr.cell? ⟨gb472, 0, none⟩ = some (u473000) := (blk_cell BK472.out 0).trans rfl
    have hcz37_1 : wr.cell? ⟨gb472, 1, none⟩ = some (.int .i64 x473001_1) := (blk_cell BK472.out 1).trans rfl
    have hfz37_0 := blk_frozen BK472.out 0
    have hfz37_1 := blk_frozen BK472.out 1
    obtain ⟨Ao38, co38, eo38⟩ := Kd.V_slice HO_473000.out
    subst eo38
    have hcz39_0 : wr.cell? ⟨gb473, 0, none⟩ = some (.slice none 0 0) := (blk_cell BK473.out 0).trans rfl
    have hcz39_1 : wr.cell? ⟨gb473, 1, none⟩ = some (.int .i64 x474001_1) := (blk_cell BK473.out 1).trans rfl
    have hfz39_0 := blk_frozen BK473.out 0
    have hfz39_1 := blk_frozen BK473.out 1
    go_wp2
    refine bodyPost_ret (results_ct rfl _ _ gb473 64 #[.slice Ao38 x473000_1.length co38, .int .i64 x473001_1] (0, 0) _ rfl (by (with_reducible repeat (first | refine blk_drewN ?_ _ | refine blk_drew ?_ | refine blk_alloc ?_ _)); refine blk_put (cs := #[.slice Ao38 x473000_1.length co38, .int .i64 x474001_1]) ?_ 1 _ rfl; (with_reducible repeat (first | refine blk_drewN ?_ _ | refine blk_drew ?_ | refine blk_alloc ?_ _)); refine blk_put (cs := #[.slice none 0 0, .int .i64 x474001_1]) ?_ 0 _ rfl; (with_reducible repeat (first | refine blk_drewN ?_ _ | refine blk_drew ?_ | refine blk_alloc ?_ _)); exact BK473.out) Tryd.underlying64 rfl (by kernel_rfl)) rfl ?_
    exact ⟨_, by first | rfl | (simp [errW_none, errW_some] <;> rfl) | (simp [*, errW_none, errW_some] <;> rfl), by (with_reducible repeat (first | apply Kd.V_alloc | apply Kd.V_drewN | apply Kd.V_drew)); exact Kd.V_mono (Kd.V_far (p := ⟨gb473, 1, none⟩) (Kd.V_far (p := ⟨gb473, 0, none⟩) (Kd.V_mono HO_473000.out (fun k_ hk => (⟨hk, hk.2.2.2⟩ : _ ∧ k_ ≠ gb473))) (fun _ hk => hk.2) (.slice Ao38 x473000_1.length co38)) (fun _ hk => hk.2) (.int .i64 x473001_1)) (fun _ hk => hk.1.1), by repeat (first | (with_reducible first | exact HB.out | apply below_alloc | apply pw_below_drewN | apply below_drew1 | refine below_set ?_ GE472.out | refine below_set ?_ GE473.out) | exact HB.out)⟩

end Go.Proofs.YtolpamojbiipaaaDoor.XA
-- Written by a program of this session (wip/tools/xprint.py) out of the translation's print. Lean checks it.


namespace Go.Proofs.YtolpamojbiipaaaDoor.XA
open Go.RowKit Go.Proofs.YtolpamojbiipaaaDoorW.PrintWords Go.Proofs.YtolpamojbiipaaaDoorW.PrintLast Go.Proofs.YtolpamojbiipaaaDoorW.PrintMore
attribute [local go_sem] max2_int min2_int max_two min_two max_three min_three max_four min_four   -- for this text's walks alone
set_option linter.unusedVariables false
set_option linter.unusedSimpArgs false

/-! ### pannierref13_Link: function 53 -/
def pannierref13_Link.j0 : Nat → ByteArray → Int → Bool → List (S73) → Int → Option ((List (S73)) × Int × Int)
 | 0, _, _, _, _, _ => none
 | k + 1, x1, x8, x44, x489000, x489001 => if x44 = true then (some (x489000, x489001, 130)) else (if 0 ≤ x8 then (if x8 < (x489000.length : Int) then ((pannierref13_parents.f k x489000 x489001 x1).bind fun bt496 => (if bt496.2.2 = 0 then ((pannierref13_with.f k bt496.1 bt496.2.1 x1 ((rd_T73 x489000 x8).f1) ((rd_T73 x489000 x8).f2) ((rd_T73 x489000 x8).f3) ((rd_T73 x489000 x8).f4)).bind fun bt502 => (some (bt502.1, bt502.2, 0))) else (some (x489000, x489001, bt496.2.2)))) else (none)) else (none))
def pannierref13_Link.f (k : Nat) (l0_0 : List (S73)) (a0_1 : Int) (a1 : ByteArray) (a2 : ByteArray) : Option ((List (S73)) × Int × Int) := if a1.toList = ([] : List UInt8) then (some (l0_0, a0_1, 100)) else ((pannierref13_Find.f k l0_0 a0_1 a2).bind fun t490 => (if t490 < 0 then (some (l0_0, a0_1, 4)) else ((pannierref13_Find.f k l0_0 a0_1 a1).bind fun t491 => (if 0 ≤ t490 then (if t490 < (l0_0.length : Int) then (if ((rd_T73 l0_0 t490).f1) = 1 then (if t491 ≥ 0 then (if 0 ≤ t491 then (if t491 < (l0_0.length : Int) then (pannierref13_Link.j0 k a1 t490 (((rd_T73 l0_0 t491).f1) == 4) l0_0 a0_1) else (none)) else (none)) else (pannierref13_Link.j0 k a1 t490 false l0_0 a0_1)) else (pannierref13_Link.j0 k a1 t490 true l0_0 a0_1)) else (none)) else (none)))))
theorem pannierref13_Link.mono_l : ∀ k, (∀ y0 y1 y2 y3 y4, LeO (pannierref13_Link.j0 k y0 y1 y2 y3 y4) (pannierref13_Link.j0 (k + 1) y0 y1 y2 y3 y4))
 | 0 => fun _ _ _ _ _ r h => by simp [pannierref13_Link.j0] at h
 | k + 1 => by
  have ih0 := pannierref13_Link.mono_l k
  ·intro y0 y1 y2 y3 y4
   unfold pannierref13_Link.j0
   repeat' first
   | (with_reducible exact ih0 _ _ _ _ _)
   | (with_reducible exact pannierref13_Find.mono _ _ _ _)
   | (with_reducible exact pannierref13_parents.mono _ _ _ _)
   | (with_reducible exact pannierref13_with.mono _ _ _ _ _ _ _ _)
   | (with_reducible exact LeO.refl _)
   | (with_reducible exact LeO.none _)
   | (with_reducible refine LeO.ite ?_ ?_)
   | (with_reducible refine LeO.bind ?_ (fun _ => ?_))
   | exact ih0 _ _ _ _ _
   | exact pannierref13_Find.mono _ _ _ _
   | exact pannierref13_parents.mono _ _ _ _
   | exact pannierref13_with.mono _ _ _ _ _ _ _ _
   | exact LeO.none _
   | refine LeO.ite ?_ ?_
   | refine LeO.bind ?_ (fun _ => ?_)
theorem pannierref13_Link.mono : ∀ a0 a1 a2 a3 k, LeO (pannierref13_Link.f k a0 a1 a2 a3) (pannierref13_Link.f (k + 1) a0 a1 a2 a3) := by
 intro a0 a1 a2 a3 k
 have ih0 := pannierref13_Link.mono_l k
 unfold pannierref13_Link.f
 repeat' first
   | (with_reducible exact ih0 _ _ _ _ _)
   | (with_reducible exact pannierref13_Find.mono _ _ _ _)
   | (with_reducible exact pannierref13_parents.mono _ _ _ _)
   | (with_reducible exact pannierref13_with.mono _ _ _ _ _ _ _ _)
   | (with_reducible exact LeO.refl _)
   | (with_reducible exact LeO.none _)
   | (with_reducible refine LeO.ite ?_ ?_)
   | (with_reducible refine LeO.bind ?_ (fun _ => ?_))
   | exact ih0 _ _ _ _ _
   | exact pannierref13_Find.mono _ _ _ _
   | exact pannierref13_parents.mono _ _ _ _
   | exact pannierref13_with.mono _ _ _ _ _ _ _ _
   | exact LeO.none _
   | refine LeO.ite ?_ ?_
   | refine LeO.bind ?_ (fun _ => ?_)
set_option maxHeartbeats 8000000 in
set_option maxRecDepth 100000 in
theorem pannierref13_Link.calls (k : Nat) (P0_0_ : Nat → Prop) (A0_0 : Option Addr) (c0_0 : Nat) (l0_0 : List (S73)) (a0_1 : Int) (a1 : ByteArray) (a2 : ByteArray) (r1 : List (S73)) (r2 : Int) (r3 : Int) (w : World) (hs0_0 : Kd.V k73 73 w w.heap.size (fun k_ => P0_0_ k_) (.slice A0_0 l0_0.length c0_0) l0_0) (h : pannierref13_Link.f k l0_0 a0_1 a1 a2 = some (r1, r2, r3)) :
  Calls Tryd.prog 53 #[.agg #[.slice A0_0 l0_0.length c0_0, .int .i64 a0_1], .string a1, .string a2] w fun e w' => ∃ v0_ : Value, e = .returned (.tuple #[.agg #[v0_, .int .i64 r2], .int .i64 r3]) ∧ Kd.V k73 73 w' w.heap.size (fun k_ => (P0_0_ k_ ∨ w.heap.size ≤ k_)) v0_ r1 ∧ Below w.heap.size w w' := by
 have hu64 := Tryd.underlying64
 have hu73 := Tryd.underlying73
 have HO0_0 := Aside0.mk (show Kd.V k73 73 w w.heap.size (fun k_ => (P0_0_ k_ ∨ w.heap.size ≤ k_)) (.slice A0_0 l0_0.length c0_0) l0_0 from Kd.V_mono hs0_0 (fun k_ hk => .inl hk))
 have HB := Aside0.mk (Below.refl w.heap.size w)
 have H : (if a1.toList = ([] : List UInt8) then (some (l0_0, a0_1, 100)) else ((pannierref13_Find.f k l0_0 a0_1 a2).bind fun t490 => (if t490 < 0 then (some (l0_0, a0_1, 4)) else ((pannierref13_Find.f k l0_0 a0_1 a1).bind fun t491 => (if 0 ≤ t490 then (if t490 < (l0_0.length : Int) then (if ((rd_T73 l0_0 t490).f1) = 1 then (if t491 ≥ 0 then (if 0 ≤ t491 then (if t491 < (l0_0.length : Int) then (pannierref13_Link.j0 k a1 t490 (((rd_T73 l0_0 t491).f1) == 4) l0_0 a0_1) else (none)) else (none)) else (pannierref13_Link.j0 k a1 t490 false l0_0 a0_1)) else (pannierref13_Link.j0 k a1 t490 true l0_0 a0_1)) else (none)) else (none)))))) = some (r1, r2, r3) := h
 clear h
 by_cases c4 : a1.toList = ([] : List UInt8)
 ·rw [if_pos c4] at H
  have c4b0 : (a1.toList == ([] : List UInt8)) = true := beq_iff_eq.mpr c4
  have c4b2 : (a1.toList).isEmpty = true := List.isEmpty_iff.mpr c4
  have c4b1 : (a1.toList != ([] : List UInt8)) = false := bne_eq_false_iff_eq.mpr c4
  clear c4
  simp only [Option.some.injEq, Prod.mk.injEq] at H
  obtain ⟨rfl, rfl, rfl⟩ := H
  go_enter Tryd.func53, Tryd.ntmps53
  go_wp2_with (first | ((with_reducible refine gate_dst (N := 3) rfl ?_); refine box_event ?hg (N := 3) ?hd (cs := #[.slice A0_0 l0_0.length c0_0, .int .i64 a0_1]) (t := 64) ?hr ?_; (case hd => rfl); (case hg => rfl); (case hr => first | (go_simp; done) | (go_simp; rfl)); intro gb488 hg w5 hbox hb; have n0_ := Aside0.mk (Kd.V_below (Kd.V_elderB (by (with_reducible repeat (first | apply Kd.V_alloc | apply Kd.V_drewN | apply Kd.V_drew)); exact HO0_0.out) gb488 (Nat.le_of_eq hg.symm)) hb); have n1_ := Aside0.mk (below_step (by repeat (first | (with_reducible first | exact HB.out | apply below_alloc | apply pw_below_drewN | apply below_drew1) | exact HB.out)) hb); have n2_ := Aside0.mk (hbox); have n3_ := Aside0.mk ((by rw [hg]; exact (below_size (by repeat (first | (with_reducible first | exact HB.out | apply below_alloc | apply pw_below_drewN | apply below_drew1) | exact HB.out))) : w.heap.size ≤ gb488)); have n4_ := Aside0.mk ((by rw [hg]; exact (below_size (by repeat (first | (with_reducible first | exact HB.out | apply below_alloc | apply pw_below_drewN | apply below_drew1) | exact HB.out))) : w.heap.size ≤ gb488)); clear HO0_0; clear HB; have HO0_0 := n0_; have HB := n1_; have BK488 := n2_; have GW488 := n3_; have GE488 := n4_; clear n0_ n1_ n2_ n3_ n4_; clear hb hbox hg) | ((with_reducible refine gate_dst (N := 6) rfl ?_); refine box_event ?hg (N := 6) ?hd (cs := #[.slice none 0 0, .int .i64 0]) (t := 64) ?hr ?_; (case hd => rfl); (case hg => rfl); (case hr => first | (go_simp; done) | (go_simp; rfl)); intro gb489 hg w6 hbox hb; have n0_ := Aside0.mk (Kd.V_below (Kd.V_elderB (by (with_reducible repeat (first | apply Kd.V_alloc | apply Kd.V_drewN | apply Kd.V_drew)); exact HO0_0.out) gb489 (Nat.le_of_eq hg.symm)) hb); have n1_ := Aside0.mk (blk_below (g := gb488) (o := .cells #[.slice A0_0 l0_0.length c0_0, .int .i64 a0_1] 64 (0, 0)) (by (with_reducible repeat (first | refine blk_drewN ?_ _ | refine blk_drew ?_ | refine blk_alloc ?_ _)); exact BK488.out) hb); have n2_ := Aside0.mk (below_step (by repeat (first | (with_reducible first | exact HB.out | apply below_alloc | apply pw_below_drewN | apply below_drew1 | refine below_set ?_ GE488.out) | exact HB.out)) hb); have n3_ := Aside0.mk (hbox); have n4_ := Aside0.mk ((by rw [hg]; exact (below_size (by repeat (first | (with_reducible first | exact HB.out | apply below_alloc | apply pw_below_drewN | apply below_drew1 | refine below_set ?_ GE488.out) | exact HB.out))) : w.heap.size ≤ gb489)); have n5_ := Aside0.mk ((by rw [hg]; exact (below_size (by repeat (first | (with_reducible first | exact HB.out | apply below_alloc | apply pw_below_drewN | apply below_drew1 | refine below_set ?_ GE488.out) | exact HB.out))) : w.heap.size ≤ gb489)); have n6_ := Aside0.mk ((by rw [hg]; exact Nat.ne_of_lt (blk_lt (g := gb488) (o := .cells #[.slice A0_0 l0_0.length c0_0, .int .i64 a0_1] 64 (0, 0)) (by (with_reducible repeat (first | refine blk_drewN ?_ _ | refine blk_drew ?_ | refine blk_alloc ?_ _)); exact BK488.out)) : gb488 ≠ gb489)); have n7_ := Aside0.mk ((by rw [hg]; exact Nat.ne_of_gt (blk_lt (g := gb488) (o := .cells #[.slice A0_0 l0_0.length c0_0, .int .i64 a0_1] 64 (0, 0)) (by (with_reducible repeat (first | refine blk_drewN ?_ _ | refine blk_drew ?_ | refine blk_alloc ?_ _)); exact BK488.out)) : gb489 ≠ gb488)); clear HO0_0; clear BK488; clear HB; have HO0_0 := n0_; have BK488 := n1_; have HB := n2_; have BK489 := n3_; have GW489 := n4_; have GE489 := n5_; have NB488_489 := n6_; have NB489_488 := n7_; clear n0_ n1_ n2_ n3_ n4_ n5_ n6_ n7_; clear hb hbox hg; have hnb7 := NB488_489.out; have hnc7 := NB489_488.out; have hcz8_0 : w6.cell? ⟨gb488, 0, none⟩ = some (.slice A0_0 l0_0.length c0_0) := (blk_cell BK488.out 0).trans rfl; have hcz8_1 : w6.cell? ⟨gb488, 1, none⟩ = some (.int .i64 a0_1) := (blk_cell BK488.out 1).trans rfl; have hfz8_0 := blk_frozen BK488.out 0; have hfz8_1 := blk_frozen BK488.out 1; have hcz9_0 : w6.cell? ⟨gb489, 0, none⟩ = some (.slice none 0 0) := (blk_cell BK489.out 0).trans rfl; have hcz9_1 : w6.cell? ⟨gb489, 1, none⟩ = some (.int .i64 0) := (blk_cell BK489.out 1).trans rfl; have hfz9_0 := blk_frozen BK489.out 0; have hfz9_1 := blk_frozen BK489.out 1))
  refine bodyPost_ret (results_ct rfl _ _ gb489 64 #[.slice A0_0 l0_0.length c0_0, .int .i64 a0_1] (0, 0) _ rfl (by (with_reducible repeat (first | refine blk_drewN ?_ _ | refine blk_drew ?_ | refine blk_alloc ?_ _)); refine blk_put (cs := #[.slice A0_0 l0_0.length c0_0, .int .i64 0]) ?_ 1 _ rfl; (with_reducible repeat (first | refine blk_drewN ?_ _ | refine blk_drew ?_ | refine blk_alloc ?_ _)); refine blk_put (cs := #[.slice none 0 0, .int .i64 0]) ?_ 0 _ rfl; (with_reducible repeat (first | refine blk_drewN ?_ _ | refine blk_drew ?_ | refine blk_alloc ?_ _)); exact BK489.out) Tryd.underlying64 rfl (by kernel_rfl)) rfl ?_
  exact ⟨_, by first | rfl | (simp [errW_none, errW_some] <;> rfl) | (simp [*, errW_none, errW_some] <;> rfl), by (with_reducible repeat (first | apply Kd.V_alloc | apply Kd.V_drewN | apply Kd.V_drew)); exact Kd.V_mono (Kd.V_far (p := ⟨gb489, 1, none⟩) (Kd.V_far (p := ⟨gb489, 0, none⟩) (Kd.V_mono HO0_0.out (fun k_ hk => (⟨hk, hk.2⟩ : _ ∧ k_ ≠ gb489))) (fun _ hk => hk.2) (.slice A0_0 l0_0.length c0_0)) (fun _ hk => hk.2) (.int .i64 a0_1)) (fun _ hk => hk.1.1.1), by repeat (first | (with_reducible first | exact HB.out | apply below_alloc | apply pw_below_drewN | apply below_drew1 | refine below_set ?_ GE488.out | refine below_set ?_ GE489.out) | exact HB.out)⟩
 ·rw [if_neg c4] at H
  have c4b0 : (a1.toList == ([] : List UInt8)) = false := beq_eq_false_iff_ne.mpr c4
  have c4b2 : (a1.toList).isEmpty = false := List.isEmpty_eq_false_iff.mpr c4
  have c4b1 : (a1.toList != ([] : List UInt8)) = true := bne_iff_ne.mpr c4
  replace H := Option.bind_eq_some_iff.mp H
  obtain ⟨t490, A100, H⟩ := H
  replace H : (if t490 < 0 then (some (l0_0, a0_1, 4)) else ((pannierref13_Find.f k l0_0 a0_1 a1).bind fun t491 => (if 0 ≤ t490 then (if t490 < (l0_0.length : Int) then (if ((rd_T73 l0_0 t490).f1) = 1 then (if t491 ≥ 0 then (if 0 ≤ t491 then (if t491 < (l0_0.length : Int) then (pannierref13_Link.j0 k a1 t490 (((rd_T73 l0_0 t491).f1) == 4) l0_0 a0_1) else (none)) else (none)) else (pannierref13_Link.j0 k a1 t490 false l0_0 a0_1)) else (pannierref13_Link.j0 k a1 t490 true l0_0 a0_1)) else (none)) else (none)))) = some (r1, r2, r3) := H
  have A10 := Aside0.mk A100
  clear A100
  by_cases c11 : t490 < 0
  ·rw [if_pos c11] at H
   have c11b0 : decide (t490 < 0) = true := decide_eq_true c11
   clear c11
   simp only [Option.some.injEq, Prod.mk.injEq] at H
   obtain ⟨rfl, rfl, rfl⟩ := H
   go_enter Tryd.func53, Tryd.ntmps53
   go_wp2_with (first | ((with_reducible refine gate_dst (N := 3) rfl ?_); refine box_event ?hg (N := 3) ?hd (cs := #[.slice A0_0 l0_0.length c0_0, .int .i64 a0_1]) (t := 64) ?hr ?_; (case hd => rfl); (case hg => rfl); (case hr => first | (go_simp; done) | (go_simp; rfl)); intro gb488 hg w12 hbox hb; have n0_ := Aside0.mk (Kd.V_below (Kd.V_elderB (by (with_reducible repeat (first | apply Kd.V_alloc | apply Kd.V_drewN | apply Kd.V_drew)); exact HO0_0.out) gb488 (Nat.le_of_eq hg.symm)) hb); have n1_ := Aside0.mk (below_step (by repeat (first | (with_reducible first | exact HB.out | apply below_alloc | apply pw_below_drewN | apply below_drew1) | exact HB.out)) hb); have n2_ := Aside0.mk (hbox); have n3_ := Aside0.mk ((by rw [hg]; exact (below_size (by repeat (first | (with_reducible first | exact HB.out | apply below_alloc | apply pw_below_drewN | apply below_drew1) | exact HB.out))) : w.heap.size ≤ gb488)); have n4_ := Aside0.mk ((by rw [hg]; exact (below_size (by repeat (first | (with_reducible first | exact HB.out | apply below_alloc | apply pw_below_drewN | apply below_drew1) | exact HB.out))) : w.heap.size ≤ gb488)); clear HO0_0; clear HB; have HO0_0 := n0_; have HB := n1_; have BK488 := n2_; have GW488 := n3_; have GE488 := n4_; clear n0_ n1_ n2_ n3_ n4_; clear hb hbox hg) | ((with_reducible refine gate_dst (N := 6) rfl ?_); refine box_event ?hg (N := 6) ?hd (cs := #[.slice none 0 0, .int .i64 0]) (t := 64) ?hr ?_; (case hd => rfl); (case hg => rfl); (case hr => first | (go_simp; done) | (go_simp; rfl)); intro gb489 hg w13 hbox hb; have n0_ := Aside0.mk (Kd.V_below (Kd.V_elderB (by (with_reducible repeat (first | apply Kd.V_alloc | apply Kd.V_drewN | apply Kd.V_drew)); exact HO0_0.out) gb489 (Nat.le_of_eq hg.symm)) hb); have n1_ := Aside0.mk (blk_below (g := gb488) (o := .cells #[.slice A0_0 l0_0.length c0_0, .int .i64 a0_1] 64 (0, 0)) (by (with_reducible repeat (first | refine blk_drewN ?_ _ | refine blk_drew ?_ | refine blk_alloc ?_ _)); exact BK488.out) hb); have n2_ := Aside0.mk (below_step (by repeat (first | (with_reducible first | exact HB.out | apply below_alloc | apply pw_below_drewN | apply below_drew1 | refine below_set ?_ GE488.out) | exact HB.out)) hb); have n3_ := Aside0.mk (hbox); have n4_ := Aside0.mk ((by rw [hg]; exact (below_size (by repeat (first | (with_reducible first | exact HB.out | apply below_alloc | apply pw_below_drewN | apply below_drew1 | refine below_set ?_ GE488.out) | exact HB.out))) : w.heap.size ≤ gb489)); have n5_ := Aside0.mk ((by rw [hg]; exact (below_size (by repeat (first | (with_reducible first | exact HB.out | apply below_alloc | apply pw_below_drewN | apply below_drew1 | refine below_set ?_ GE488.out) | exact HB.out))) : w.heap.size ≤ gb489)); have n6_ := Aside0.mk ((by rw [hg]; exact Nat.ne_of_lt (blk_lt (g := gb488) (o := .cells #[.slice A0_0 l0_0.length c0_0, .int .i64 a0_1] 64 (0, 0)) (by (with_reducible repeat (first | refine blk_drewN ?_ _ | refine blk_drew ?_ | refine blk_alloc ?_ _)); exact BK488.out)) : gb488 ≠ gb489)); have n7_ := Aside0.mk ((by rw [hg]; exact Nat.ne_of_gt (blk_lt (g := gb488) (o := .cells #[.slice A0_0 l0_0.length c0_0, .int .i64 a0_1] 64 (0, 0)) (by (with_reducible repeat (first | refine blk_drewN ?_ _ | refine blk_drew ?_ | refine blk_alloc ?_ _)); exact BK488.out)) : gb489 ≠ gb488)); clear HO0_0; clear BK488; clear HB; have HO0_0 := n0_; have BK488 := n1_; have HB := n2_; have BK489 := n3_; have GW489 := n4_; have GE489 := n5_; have NB488_489 := n6_; have NB489_488 := n7_; clear n0_ n1_ n2_ n3_ n4_ n5_ n6_ n7_; clear hb hbox hg; have hnb14 := NB488_489.out; have hnc14 := NB489_488.out; have hcz15_0 : w13.cell? ⟨gb488, 0, none⟩ = some (.slice A0_0 l0_0.length c0_0) := (blk_cell BK488.out 0).trans rfl; have hcz15_1 : w13.cell? ⟨gb488, 1, none⟩ = some (.int .i64 a0_1) := (blk_cell BK488.out 1).trans rfl; have hfz15_0 := blk_frozen BK488.out 0; have hfz15_1 := blk_frozen BK488.out 1) | ((with_reducible refine gate_callee (f := 31) rfl ?_); refine goesL_ (some 18) rfl rfl Tryd.func31 (by kernel_rfl) rfl #[.agg #[.slice A0_0 l0_0.length c0_0, .int .i64 a0_1], .string a2] rfl (by (try simp only [List.map_toArray, List.map_cons, List.map_nil]); first | done | rfl | (simp only [List.length_drop, List.length_take]; rfl)) ?_; (with_reducible refine (pannierref13_Find.calls k _ _ l0_0 a0_1 a2 t490 _ ?side1 ?side2 A10.out).mono ?_); (case side1 => repeat (first | exact (Kd.V_reads' HO0_0.out).2.2 | (with_reducible refine Kd.C_alloc ?_ _) | (with_reducible refine Kd.C_drewN ?_ _) | (with_reducible refine Kd.C_drew ?_))); (case side2 => exact (Kd.V_reads' HO0_0.out).2.1); rintro e w16 ⟨rfl, hb⟩; refine ⟨_, rfl, ?_⟩; have n0_ := Aside0.mk (Kd.V_below (by (with_reducible repeat (first | apply Kd.V_alloc | apply Kd.V_drewN | apply Kd.V_drew)); exact HO0_0.out) hb); have n1_ := Aside0.mk (blk_below (g := gb488) (o := .cells #[.slice A0_0 l0_0.length c0_0, .int .i64 a0_1] 64 (0, 0)) (by (with_reducible repeat (first | refine blk_drewN ?_ _ | refine blk_drew ?_ | refine blk_alloc ?_ _)); exact BK488.out) hb); have n2_ := Aside0.mk (blk_below (g := gb489) (o := .cells #[.slice none 0 0, .int .i64 0] 64 (0, 0)) (by (with_reducible repeat (first | refine blk_drewN ?_ _ | refine blk_drew ?_ | refine blk_alloc ?_ _)); exact BK489.out) hb); have n3_ := Aside0.mk (below_step (by repeat (first | (with_reducible first | exact HB.out | apply below_alloc | apply pw_below_drewN | apply below_drew1 | refine below_set ?_ GE488.out | refine below_set ?_ GE489.out) | exact HB.out)) hb); clear HO0_0; clear BK488; clear BK489; clear HB; have HO0_0 := n0_; have BK488 := n1_; have BK489 := n2_; have HB := n3_; clear n0_ n1_ n2_ n3_; (try clear hb); (try clear hb2); (try clear hk); (try clear hi); have hcz17_0 : w16.cell? ⟨gb488, 0, none⟩ = some (.slice A0_0 l0_0.length c0_0) := (blk_cell BK488.out 0).trans rfl; have hcz17_1 : w16.cell? ⟨gb488, 1, none⟩ = some (.int .i64 a0_1) := (blk_cell BK488.out 1).trans rfl; have hfz17_0 := blk_frozen BK488.out 0; have hfz17_1 := blk_frozen BK488.out 1; have hcz18_0 : w16.cell? ⟨gb489, 0, none⟩ = some (.slice none 0 0) := (blk_cell BK489.out 0).trans rfl; have hcz18_1 : w16.cell? ⟨gb489, 1, none⟩ = some (.int .i64 0) := (blk_cell BK489.out 1).trans rfl; have hfz18_0 := blk_frozen BK489.out 0; have hfz18_1 := blk_frozen BK489.out 1))
   refine bodyPost_ret (results_ct rfl _ _ gb489 64 #[.slice A0_0 l0_0.length c0_0, .int .i64 a0_1] (0, 0) _ rfl (by (with_reducible repeat (first | refine blk_drewN ?_ _ | refine blk_drew ?_ | refine blk_alloc ?_ _)); refine blk_put (cs := #[.slice A0_0 l0_0.length c0_0, .int .i64 0]) ?_ 1 _ rfl; (with_reducible repeat (first | refine blk_drewN ?_ _ | refine blk_drew ?_ | refine blk_alloc ?_ _)); refine blk_put (cs := #[.slice none 0 0, .int .i64 0]) ?_ 0 _ rfl; (with_reducible repeat (first | refine blk_drewN ?_ _ | refine blk_drew ?_ | refine blk_alloc ?_ _)); exact BK489.out) Tryd.underlying64 rfl (by kernel_rfl)) rfl ?_
   exact ⟨_, by first | rfl | (simp [errW_none, errW_some] <;> rfl) | (simp [*, errW_none, errW_some] <;> rfl), by (with_reducible repeat (first | apply Kd.V_alloc | apply Kd.V_drewN | apply Kd.V_drew)); exact Kd.V_mono (Kd.V_far (p := ⟨gb489, 1, none⟩) (Kd.V_far (p := ⟨gb489, 0, none⟩) (Kd.V_mono HO0_0.out (fun k_ hk => (⟨hk, hk.2⟩ : _ ∧ k_ ≠ gb489))) (fun _ hk => hk.2) (.slice A0_0 l0_0.length c0_0)) (fun _ hk => hk.2) (.int .i64 a0_1)) (fun _ hk => hk.1.1.1), by repeat (first | (with_reducible first | exact HB.out | apply below_alloc | apply pw_below_drewN | apply below_drew1 | refine below_set ?_ GE488.out | refine below_set ?_ GE489.out) | exact HB.out)⟩
  ·rw [if_neg c11] at H
   have c11b0 : decide (t490 < 0) = false := decide_eq_false c11
   clear c11
   replace H := Option.bind_eq_some_iff.mp H
   obtain ⟨t491, A190, H⟩ := H
   replace H : (if 0 ≤ t490 then (if t490 < (l0_0.length : Int) then (if ((rd_T73 l0_0 t490).f1) = 1 then (if t491 ≥ 0 then (if 0 ≤ t491 then (if t491 < (l0_0.length : Int) then (pannierref13_Link.j0 k a1 t490 (((rd_T73 l0_0 t491).f1) == 4) l0_0 a0_1) else (none)) else (none)) else (pannierref13_Link.j0 k a1 t490 false l0_0 a0_1)) else (pannierref13_Link.j0 k a1 t490 true l0_0 a0_1)) else (none)) else (none)) = some (r1, r2, r3) := H
   have A19 := Aside0.mk A190
   clear A190
   have HC20 := Aside0.mk H
   clear H
   go_enter Tryd.func53, Tryd.ntmps53
   go_upto_region 7 with (first | ((with_reducible refine gate_dst (N := 3) rfl ?_); refine box_event ?hg (N := 3) ?hd (cs := #[.slice A0_0 l0_0.length c0_0, .int .i64 a0_1]) (t := 64) ?hr ?_; (case hd => rfl); (case hg => rfl); (case hr => first | (go_simp; done) | (go_simp; rfl)); intro gb488 hg w21 hbox hb; have n0_ := Aside0.mk (Kd.V_below (Kd.V_elderB (by (with_reducible repeat (first | apply Kd.V_alloc | apply Kd.V_drewN | apply Kd.V_drew)); exact HO0_0.out) gb488 (Nat.le_of_eq hg.symm)) hb); have n1_ := Aside0.mk (below_step (by repeat (first | (with_reducible first | exact HB.out | apply below_alloc | apply pw_below_drewN | apply below_drew1) | exact HB.out)) hb); have n2_ := Aside0.mk (hbox); have n3_ := Aside0.mk ((by rw [hg]; exact (below_size (by repeat (first | (with_reducible first | exact HB.out | apply below_alloc | apply pw_below_drewN | apply below_drew1) | exact HB.out))) : w.heap.size ≤ gb488)); have n4_ := Aside0.mk ((by rw [hg]; exact (below_size (by repeat (first | (with_reducible first | exact HB.out | apply below_alloc | apply pw_below_drewN | apply below_drew1) | exact HB.out))) : w.heap.size ≤ gb488)); clear HO0_0; clear HB; have HO0_0 := n0_; have HB := n1_; have BK488 := n2_; have GW488 := n3_; have GE488 := n4_; clear n0_ n1_ n2_ n3_ n4_; clear hb hbox hg) | ((with_reducible refine gate_dst (N := 6) rfl ?_); refine box_event ?hg (N := 6) ?hd (cs := #[.slice none 0 0, .int .i64 0]) (t := 64) ?hr ?_; (case hd => rfl); (case hg => rfl); (case hr => first | (go_simp; done) | (go_simp; rfl)); intro gb489 hg w22 hbox hb; have n0_ := Aside0.mk (Kd.V_below (Kd.V_elderB (by (with_reducible repeat (first | apply Kd.V_alloc | apply Kd.V_drewN | apply Kd.V_drew)); exact HO0_0.out) gb489 (Nat.le_of_eq hg.symm)) hb); have n1_ := Aside0.mk (blk_below (g := gb488) (o := .cells #[.slice A0_0 l0_0.length c0_0, .int .i64 a0_1] 64 (0, 0)) (by (with_reducible repeat (first | refine blk_drewN ?_ _ | refine blk_drew ?_ | refine blk_alloc ?_ _)); exact BK488.out) hb); have n2_ := Aside0.mk (below_step (by repeat (first | (with_reducible first | exact HB.out | apply below_alloc | apply pw_below_drewN | apply below_drew1 | refine below_set ?_ GE488.out) | exact HB.out)) hb); have n3_ := Aside0.mk (hbox); have n4_ := Aside0.mk ((by rw [hg]; exact (below_size (by repeat (first | (with_reducible first | exact HB.out | apply below_alloc | apply pw_below_drewN | apply below_drew1 | refine below_set ?_ GE488.out) | exact HB.out))) : w.heap.size ≤ gb489)); have n5_ := Aside0.mk ((by rw [hg]; exact (below_size (by repeat (first | (with_reducible first | exact HB.out | apply below_alloc | apply pw_below_drewN | apply below_drew1 | refine below_set ?_ GE488.out) | exact HB.out))) : w.heap.size ≤ gb489)); have n6_ := Aside0.mk ((by rw [hg]; exact Nat.ne_of_lt (blk_lt (g := gb488) (o := .cells #[.slice A0_0 l0_0.length c0_0, .int .i64 a0_1] 64 (0, 0)) (by (with_reducible repeat (first | refine blk_drewN ?_ _ | refine blk_drew ?_ | refine blk_alloc ?_ _)); exact BK488.out)) : gb488 ≠ gb489)); have n7_ := Aside0.mk ((by rw [hg]; exact Nat.ne_of_gt (blk_lt (g := gb488) (o := .cells #[.slice A0_0 l0_0.length c0_0, .int .i64 a0_1] 64 (0, 0)) (by (with_reducible repeat (first | refine blk_drewN ?_ _ | refine blk_drew ?_ | refine blk_alloc ?_ _)); exact BK488.out)) : gb489 ≠ gb488)); clear HO0_0; clear BK488; clear HB; have HO0_0 := n0_; have BK488 := n1_; have HB := n2_; have BK489 := n3_; have GW489 := n4_; have GE489 := n5_; have NB488_489 := n6_; have NB489_488 := n7_; clear n0_ n1_ n2_ n3_ n4_ n5_ n6_ n7_; clear hb hbox hg; have hnb23 := NB488_489.out; have hnc23 := NB489_488.out; have hcz24_0 : w22.cell? ⟨gb488, 0, none⟩ = some (.slice A0_0 l0_0.length c0_0) := (blk_cell BK488.out 0).trans rfl; have hcz24_1 : w22.cell? ⟨gb488, 1, none⟩ = some (.int .i64 a0_1) := (blk_cell BK488.out 1).trans rfl; have hfz24_0 := blk_frozen BK488.out 0; have hfz24_1 := blk_frozen BK488.out 1) | ((with_reducible refine gate_callee (f := 31) rfl ?_); refine goesL_ (some 18) rfl rfl Tryd.func31 (by kernel_rfl) rfl #[.agg #[.slice A0_0 l0_0.length c0_0, .int .i64 a0_1], .string a2] rfl (by (try simp only [List.map_toArray, List.map_cons, List.map_nil]); first | done | rfl | (simp only [List.length_drop, List.length_take]; rfl)) ?_; (with_reducible refine (pannierref13_Find.calls k _ _ l0_0 a0_1 a2 t490 _ ?side1 ?side2 A10.out).mono ?_); (case side1 => repeat (first | exact (Kd.V_reads' HO0_0.out).2.2 | (with_reducible refine Kd.C_alloc ?_ _) | (with_reducible refine Kd.C_drewN ?_ _) | (with_reducible refine Kd.C_drew ?_))); (case side2 => exact (Kd.V_reads' HO0_0.out).2.1); rintro e w25 ⟨rfl, hb⟩; refine ⟨_, rfl, ?_⟩; have n0_ := Aside0.mk (Kd.V_below (by (with_reducible repeat (first | apply Kd.V_alloc | apply Kd.V_drewN | apply Kd.V_drew)); exact HO0_0.out) hb); have n1_ := Aside0.mk (blk_below (g := gb488) (o := .cells #[.slice A0_0 l0_0.length c0_0, .int .i64 a0_1] 64 (0, 0)) (by (with_reducible repeat (first | refine blk_drewN ?_ _ | refine blk_drew ?_ | refine blk_alloc ?_ _)); exact BK488.out) hb); have n2_ := Aside0.mk (blk_below (g := gb489) (o := .cells #[.slice none 0 0, .int .i64 0] 64 (0, 0)) (by (with_reducible repeat (first | refine blk_drewN ?_ _ | refine blk_drew ?_ | refine blk_alloc ?_ _)); exact BK489.out) hb); have n3_ := Aside0.mk (below_step (by repeat (first | (with_reducible first | exact HB.out | apply below_alloc | apply pw_below_drewN | apply below_drew1 | refine below_set ?_ GE488.out | refine below_set ?_ GE489.out) | exact HB.out)) hb); clear HO0_0; clear BK488; clear BK489; clear HB; have HO0_0 := n0_; have BK488 := n1_; have BK489 := n2_; have HB := n3_; clear n0_ n1_ n2_ n3_; (try clear hb); (try clear hb2); (try clear hk); (try clear hi); have hcz26_0 : w25.cell? ⟨gb488, 0, none⟩ = some (.slice A0_0 l0_0.length c0_0) := (blk_cell BK488.out 0).trans rfl; have hcz26_1 : w25.cell? ⟨gb488, 1, none⟩ = some (.int .i64 a0_1) := (blk_cell BK488.out 1).trans rfl; have hfz26_0 := blk_frozen BK488.out 0; have hfz26_1 := blk_frozen BK488.out 1) | ((with_reducible refine gate_callee (f := 31) rfl ?_); refine goesL_ (some 24) rfl rfl Tryd.func31 (by kernel_rfl) rfl #[.agg #[.slice A0_0 l0_0.length c0_0, .int .i64 a0_1], .string a1] rfl (by (try simp only [List.map_toArray, List.map_cons, List.map_nil]); first | done | rfl | (simp only [List.length_drop, List.length_take]; rfl)) ?_; (with_reducible refine (pannierref13_Find.calls k _ _ l0_0 a0_1 a1 t491 _ ?side1 ?side2 A19.out).mono ?_); (case side1 => repeat (first | exact (Kd.V_reads' HO0_0.out).2.2 | (with_reducible refine Kd.C_alloc ?_ _) | (with_reducible refine Kd.C_drewN ?_ _) | (with_reducible refine Kd.C_drew ?_))); (case side2 => exact (Kd.V_reads' HO0_0.out).2.1); rintro e w27 ⟨rfl, hb⟩; refine ⟨_, rfl, ?_⟩; have n0_ := Aside0.mk (Kd.V_below (by (with_reducible repeat (first | apply Kd.V_alloc | apply Kd.V_drewN | apply Kd.V_drew)); exact HO0_0.out) hb); have n1_ := Aside0.mk (blk_below (g := gb488) (o := .cells #[.slice A0_0 l0_0.length c0_0, .int .i64 a0_1] 64 (0, 0)) (by (with_reducible repeat (first | refine blk_drewN ?_ _ | refine blk_drew ?_ | refine blk_alloc ?_ _)); exact BK488.out) hb); have n2_ := Aside0.mk (blk_below (g := gb489) (o := .cells #[.slice none 0 0, .int .i64 0] 64 (0, 0)) (by (with_reducible repeat (first | refine blk_drewN ?_ _ | refine blk_drew ?_ | refine blk_alloc ?_ _)); exact BK489.out) hb); have n3_ := Aside0.mk (below_step (by repeat (first | (with_reducible first | exact HB.out | apply below_alloc | apply pw_below_drewN | apply below_drew1 | refine below_set ?_ GE488.out | refine below_set ?_ GE489.out) | exact HB.out)) hb); clear HO0_0; clear BK488; clear BK489; clear HB; have HO0_0 := n0_; have BK488 := n1_; have BK489 := n2_; have HB := n3_; clear n0_ n1_ n2_ n3_; (try clear hb); (try clear hb2); (try clear hk); (try clear hi)))
   (try simp only [Act.put, List.setIfInBounds_toArray, List.set_cons_zero, List.set_cons_succ])
   go_cut [44] (fun v44 wc => ∃ (kq : Nat) (x44_19 : Bool), v44 = .bool x44_19 ∧ Aside0 (pannierref13_Link.j0 kq a1 t490 x44_19 l0_0 a0_1 = some (r1, r2, r3)) ∧ Aside0 (kq ≤ k) ∧ Aside0 (Kd.V k73 73 wc w.heap.size (fun k_ => (P0_0_ k_ ∨ w.heap.size ≤ k_) ∧ k_ ≠ gb488 ∧ k_ ≠ gb489) (.slice A0_0 l0_0.length c0_0) l0_0) ∧ Aside0 (wc.heap[gb488]? = some (.cells #[(.slice A0_0 l0_0.length c0_0), .int .i64 a0_1] 64 (0, 0))) ∧ Aside0 (wc.heap[gb489]? = some (.cells #[(.slice none 0 0), .int .i64 0] 64 (0, 0))) ∧ Aside0 (Below w.heap.size w wc))
   case first =>
    have H := HC20.out
    clear HC20
    by_cases c28 : 0 ≤ t490
    ·rw [if_pos c28] at H
     have c28b0 : decide (0 ≤ t490) = true := decide_eq_true c28
     clear c28
     (first | rw [c28b0] | (simp only [i64_w, i32_w]; rw [c28b0]) | skip)
     by_cases c29 : t490 < (l0_0.length : Int)
     ·rw [if_pos c29] at H
      have c29b0 : decide (t490 < (l0_0.length : Int)) = true := decide_eq_true c29
      clear c29
      by_cases c30 : ((rd_T73 l0_0 t490).f1) = 1
      ·rw [if_pos c30] at H
       have c30b0 : (((rd_T73 l0_0 t490).f1) == 1) = true := beq_iff_eq.mpr c30
       have c30b1 : (((rd_T73 l0_0 t490).f1) != 1) = false := bne_eq_false_iff_eq.mpr c30
       clear c30
       by_cases c31 : t491 ≥ 0
       ·rw [if_pos c31] at H
        have c31b0 : decide (0 ≤ t491) = true := decide_eq_true c31
        clear c31
        by_cases c32 : 0 ≤ t491
        ·rw [if_pos c32] at H
         have c32b0 : decide (0 ≤ t491) = true := decide_eq_true c32
         clear c32
         by_cases c33 : t491 < (l0_0.length : Int)
         ·rw [if_pos c33] at H
          have c33b0 : decide (t491 < (l0_0.length : Int)) = true := decide_eq_true c33
          clear c33
          have H' := Aside0.mk H
          clear H
          have hnb34 := NB488_489.out
          have hnc34 := NB489_488.out
          have hcz35_0 : w27.cell? ⟨gb488, 0, none⟩ = some (.slice A0_0 l0_0.length c0_0) := (blk_cell BK488.out 0).trans rfl
          have hcz35_1 : w27.cell? ⟨gb488, 1, none⟩ = some (.int .i64 a0_1) := (blk_cell BK488.out 1).trans rfl
          have hfz35_0 := blk_frozen BK488.out 0
          have hfz35_1 := blk_frozen BK488.out 1
          have p492 : 0 ≤ (t490 : Int) := of_decide_eq_true (by first | (with_reducible assumption) | assumption)
          have q492 : t490 < (l0_0.length : Int) := of_decide_eq_true (by first | (with_reducible assumption) | assumption)
          obtain ⟨ad492, e492, hx492_0, hx492_1, hx492_2, hx492_3, hx492_4⟩ := at_T73 (Kd.V_reads' HO0_0.out).2.2 t490 p492 q492
          cases e492
          replace p492 := eq_true p492
          replace q492 := eq_true q492
          have p493 : 0 ≤ (t491 : Int) := of_decide_eq_true (by first | (with_reducible assumption) | assumption)
          have q493 : t491 < (l0_0.length : Int) := of_decide_eq_true (by first | (with_reducible assumption) | assumption)
          obtain ⟨ad493, e493, hx493_0, hx493_1, hx493_2, hx493_3, hx493_4⟩ := at_T73 (Kd.V_reads' HO0_0.out).2.2 t491 p493 q493
          obtain rfl : ad492 = ad493 := (by injection e493)
          replace p493 := eq_true p493
          replace q493 := eq_true q493
          go_wp2
          go_meet
          case rel => exact ⟨_, ((((rd_T73 l0_0 t491).f1) == 4)), (by first | rfl | (simp; done) | (simp [*]; done)), H', ⟨by first | omega | exact Nat.le_refl _⟩, ⟨by (with_reducible repeat (first | apply Kd.V_alloc | apply Kd.V_drewN | apply Kd.V_drew)); exact Kd.V_mono HO0_0.out (fun _ hk => ⟨hk.1.1, ⟨hk.1.2, hk.2⟩⟩)⟩, ⟨by (with_reducible repeat (first | refine blk_drewN ?_ _ | refine blk_drew ?_ | refine blk_alloc ?_ _)); exact BK488.out⟩, ⟨by (with_reducible repeat (first | refine blk_drewN ?_ _ | refine blk_drew ?_ | refine blk_alloc ?_ _)); exact BK489.out⟩, ⟨by repeat (first | (with_reducible first | exact HB.out | apply below_alloc | apply pw_below_drewN | apply below_drew1 | refine below_set ?_ GE488.out | refine below_set ?_ GE489.out) | exact HB.out)⟩⟩
         ·rw [if_neg c33] at H
          exact absurd H (by simp)
        ·rw [if_neg c32] at H
         exact absurd H (by simp)
       ·rw [if_neg c31] at H
        have c31b0 : decide (0 ≤ t491) = false := decide_eq_false c31
        clear c31
        have H' := Aside0.mk H
        clear H
        have hnb36 := NB488_489.out
        have hnc36 := NB489_488.out
        have hcz37_0 : w27.cell? ⟨gb488, 0, none⟩ = some (.slice A0_0 l0_0.length c0_0) := (blk_cell BK488.out 0).trans rfl
        have hcz37_1 : w27.cell? ⟨gb488, 1, none⟩ = some (.int .i64 a0_1) := (blk_cell BK488.out 1).trans rfl
        have hfz37_0 := blk_frozen BK488.out 0
        have hfz37_1 := blk_frozen BK488.out 1
        have p492 : 0 ≤ (t490 : Int) := of_decide_eq_true (by first | (with_reducible assumption) | assumption)
        have q492 : t490 < (l0_0.length : Int) := of_decide_eq_true (by first | (with_reducible assumption) | assumption)
        obtain ⟨ad492, e492, hx492_0, hx492_1, hx492_2, hx492_3, hx492_4⟩ := at_T73 (Kd.V_reads' HO0_0.out).2.2 t490 p492 q492
        cases e492
        replace p492 := eq_true p492
        replace q492 := eq_true q492
        go_wp2
        go_meet
        case rel => exact ⟨_, (false), (by first | rfl | (simp; done) | (simp [*]; done)), H', ⟨by first | omega | exact Nat.le_refl _⟩, ⟨by (with_reducible repeat (first | apply Kd.V_alloc | apply Kd.V_drewN | apply Kd.V_drew)); exact Kd.V_mono HO0_0.out (fun _ hk => ⟨hk.1.1, ⟨hk.1.2, hk.2⟩⟩)⟩, ⟨by (with_reducible repeat (first | refine blk_drewN ?_ _ | refine blk_drew ?_ | refine blk_alloc ?_ _)); exact BK488.out⟩, ⟨by (with_reducible repeat (first | refine blk_drewN ?_ _ | refine blk_drew ?_ | refine blk_alloc ?_ _)); exact BK489.out⟩, ⟨by repeat (first | (with_reducible first | exact HB.out | apply below_alloc | apply pw_below_drewN | apply below_drew1 | refine below_set ?_ GE488.out | refine below_set ?_ GE489.out) | exact HB.out)⟩⟩
      ·rw [if_neg c30] at H
       have c30b0 : (((rd_T73 l0_0 t490).f1) == 1) = false := beq_eq_false_iff_ne.mpr c30
       have c30b1 : (((rd_T73 l0_0 t490).f1) != 1) = true := bne_iff_ne.mpr c30
       have H' := Aside0.mk H
       clear H
       have hnb38 := NB488_489.out
       have hnc38 := NB489_488.out
       have hcz39_0 : w27.cell? ⟨gb488, 0, none⟩ = some (.slice A0_0 l0_0.length c0_0) := (blk_cell BK488.out 0).trans rfl
       have hcz39_1 : w27.cell? ⟨gb488, 1, none⟩ = some (.int .i64 a0_1) := (blk_cell BK488.out 1).trans rfl
       have hfz39_0 := blk_frozen BK488.out 0
       have hfz39_1 := blk_frozen BK488.out 1
       have p492 : 0 ≤ (t490 : Int) := of_decide_eq_true (by first | (with_reducible assumption) | assumption)
       have q492 : t490 < (l0_0.length : Int) := of_decide_eq_true (by first | (with_reducible assumption) | assumption)
       obtain ⟨ad492, e492, hx492_0, hx492_1, hx492_2, hx492_3, hx492_4⟩ := at_T73 (Kd.V_reads' HO0_0.out).2.2 t490 p492 q492
       cases e492
       replace p492 := eq_true p492
       replace q492 := eq_true q492
       go_wp2
       go_meet
       case rel => exact ⟨_, (true), (by first | rfl | (simp; done) | (simp [*]; done)), H', ⟨by first | omega | exact Nat.le_refl _⟩, ⟨by (with_reducible repeat (first | apply Kd.V_alloc | apply Kd.V_drewN | apply Kd.V_drew)); exact Kd.V_mono HO0_0.out (fun _ hk => ⟨hk.1.1, ⟨hk.1.2, hk.2⟩⟩)⟩, ⟨by (with_reducible repeat (first | refine blk_drewN ?_ _ | refine blk_drew ?_ | refine blk_alloc ?_ _)); exact BK488.out⟩, ⟨by (with_reducible repeat (first | refine blk_drewN ?_ _ | refine blk_drew ?_ | refine blk_alloc ?_ _)); exact BK489.out⟩, ⟨by repeat (first | (with_reducible first | exact HB.out | apply below_alloc | apply pw_below_drewN | apply below_drew1 | refine below_set ?_ GE488.out | refine below_set ?_ GE489.out) | exact HB.out)⟩⟩
     ·rw [if_neg c29] at H
      exact absurd H (by simp)
    ·rw [if_neg c28] at H
     exact absurd H (by simp)
   case rest =>
    clear HC20
    try clear c1
    try clear c2
    try clear p2
    try clear c3
    try clear c4
    try clear c4b0
    try clear c4b1
    try clear p4
    try clear q4
    try clear hx4
    try clear c5
    try clear c7
    try clear c11
    try clear c11b0
    try clear c14
    try clear c23
    try clear c28
    try clear c28b0
    try clear c29
    try clear c29b0
    try clear c30
    try clear c30b0
    try clear c30b1
    try clear c31
    try clear c31b0
    try clear c32
    try clear c32b0
    try clear c33
    try clear c33b0
    try clear c34
    try clear c36
    try clear c38
    try clear hcz15_0
    try clear hcz15_1
    try clear hcz17_0
    try clear hcz17_1
    try clear hcz18_0
    try clear hcz18_1
    try clear hcz24_0
    try clear hcz24_1
    try clear hcz26_0
    try clear hcz26_1
    try clear hcz35_0
    try clear hcz35_1
    try clear hcz37_0
    try clear hcz37_1
    try clear hcz39_0
    try clear hcz39_1
    try clear hcz8_0
    try clear hcz8_1
    try clear hcz9_0
    try clear hcz9_1
    try clear hfz15_0
    try clear hfz15_1
    try clear hfz17_0
    try clear hfz17_1
    try clear hfz18_0
    try clear hfz18_1
    try clear hfz24_0
    try clear hfz24_1
    try clear hfz26_0
    try clear hfz26_1
    try clear hfz35_0
    try clear hfz35_1
    try clear hfz37_0
    try clear hfz37_1
    try clear hfz39_0
    try clear hfz39_1
    try clear hfz8_0
    try clear hfz8_1
    try clear hfz9_0
    try clear hfz9_1
    try clear hx492_0
    try clear hx492_1
    try clear hx492_2
    try clear hx492_3
    try clear hx492_4
    try clear hx493_0
    try clear hx493_1
    try clear hx493_2
    try clear hx493_3
    try clear hx493_4
    try clear p492
    try clear p493
    try clear q492
    try clear q493
    obtain ⟨kq, x44_19, rfl, HA, HJ19, HO_489000, BK488, BK489, HB⟩ := hcut
    cases kq with
    | zero => exact absurd HA.out (by simp [pannierref13_Link.j0])
    | succ kj19 =>
     have H := HA.out
     clear HA
     simp only [pannierref13_Link.j0] at H
     by_cases c40 : x44_19 = true
     ·subst c40
      have H1 : (some (l0_0, a0_1, 130)) = some (r1, r2, r3) := by rw [if_pos rfl] at H; exact H
      clear H
      have H := H1
      clear H1
      simp only [Option.some.injEq, Prod.mk.injEq] at H
      obtain ⟨rfl, rfl, rfl⟩ := H
      have hnb41 := NB488_489.out
      have hnc41 := NB489_488.out
      have hcz42_0 : wc.cell? ⟨gb488, 0, none⟩ = some (.slice A0_0 l0_0.length c0_0) := (blk_cell BK488.out 0).trans rfl
      have hcz42_1 : wc.cell? ⟨gb488, 1, none⟩ = some (.int .i64 a0_1) := (blk_cell BK488.out 1).trans rfl
      have hfz42_0 := blk_frozen BK488.out 0
      have hfz42_1 := blk_frozen BK488.out 1
      have hcz43_0 : wc.cell? ⟨gb489, 0, none⟩ = some (.slice none 0 0) := (blk_cell BK489.out 0).trans rfl
      have hcz43_1 : wc.cell? ⟨gb489, 1, none⟩ = some (.int .i64 0) := (blk_cell BK489.out 1).trans rfl
      have hfz43_0 := blk_frozen BK489.out 0
      have hfz43_1 := blk_frozen BK489.out 1
      go_wp2
      refine bodyPost_ret (results_ct rfl _ _ gb489 64 #[.slice A0_0 l0_0.length c0_0, .int .i64 a0_1] (0, 0) _ rfl (by (with_reducible repeat (first | refine blk_drewN ?_ _ | refine blk_drew ?_ | refine blk_alloc ?_ _)); refine blk_put (cs := #[.slice A0_0 l0_0.length c0_0, .int .i64 0]) ?_ 1 _ rfl; (with_reducible repeat (first | refine blk_drewN ?_ _ | refine blk_drew ?_ | refine blk_alloc ?_ _)); refine blk_put (cs := #[.slice none 0 0, .int .i64 0]) ?_ 0 _ rfl; (with_reducible repeat (first | refine blk_drewN ?_ _ | refine blk_drew ?_ | refine blk_alloc ?_ _)); exact BK489.out) Tryd.underlying64 rfl (by kernel_rfl)) rfl ?_
      exact ⟨_, by first | rfl | (simp [errW_none, errW_some] <;> rfl) | (simp [*, errW_none, errW_some] <;> rfl), by (with_reducible repeat (first | apply Kd.V_alloc | apply Kd.V_drewN | apply Kd.V_drew)); exact Kd.V_mono (Kd.V_far (p := ⟨gb489, 1, none⟩) (Kd.V_far (p := ⟨gb489, 0, none⟩) (Kd.V_mono HO_489000.out (fun k_ hk => (⟨hk, hk.2.2⟩ : _ ∧ k_ ≠ gb489))) (fun _ hk => hk.2) (.slice A0_0 l0_0.length c0_0)) (fun _ hk => hk.2) (.int .i64 a0_1)) (fun _ hk => hk.1.1), by repeat (first | (with_reducible first | exact HB.out | apply below_alloc | apply pw_below_drewN | apply below_drew1 | refine below_set ?_ GE488.out | refine below_set ?_ GE489.out) | exact HB.out)⟩
     ·replace c40 := Bool.eq_false_iff.mpr c40
      subst c40
      have H1 : (if 0 ≤ t490 then (if t490 < (l0_0.length : Int) then ((pannierref13_parents.f kj19 l0_0 a0_1 a1).bind fun bt496 => (if bt496.2.2 = 0 then ((pannierref13_with.f kj19 bt496.1 bt496.2.1 a1 ((rd_T73 l0_0 t490).f1) ((rd_T73 l0_0 t490).f2) ((rd_T73 l0_0 t490).f3) ((rd_T73 l0_0 t490).f4)).bind fun bt502 => (some (bt502.1, bt502.2, 0))) else (some (l0_0, a0_1, bt496.2.2)))) else (none)) else (none)) = some (r1, r2, r3) := by rw [if_neg (show ¬ (false = true) by decide)] at H; exact H
      clear H
      have H := H1
      clear H1
      by_cases c44 : 0 ≤ t490
      ·rw [if_pos c44] at H
       have c44b0 : decide (0 ≤ t490) = true := decide_eq_true c44
       clear c44
       by_cases c45 : t490 < (l0_0.length : Int)
       ·rw [if_pos c45] at H
        have c45b0 : decide (t490 < (l0_0.length : Int)) = true := decide_eq_true c45
        clear c45
        replace H := Option.bind_eq_some_iff.mp H
        obtain ⟨⟨t496, t499, t500⟩, A460, H⟩ := H
        replace H : (if t500 = 0 then ((pannierref13_with.f kj19 t496 t499 a1 ((rd_T73 l0_0 t490).f1) ((rd_T73 l0_0 t490).f2) ((rd_T73 l0_0 t490).f3) ((rd_T73 l0_0 t490).f4)).bind fun bt502 => (some (bt502.1, bt502.2, 0))) else (some (l0_0, a0_1, t500))) = some (r1, r2, r3) := H
        have A46 := Aside0.mk A460
        clear A460
        by_cases c47 : t500 = 0
        ·rw [if_pos c47] at H
         have c47b0 : (t500 == 0) = true := beq_iff_eq.mpr c47
         have c47b1 : (t500 != 0) = false := bne_eq_false_iff_eq.mpr c47
         clear c47
         replace H := Option.bind_eq_some_iff.mp H
         obtain ⟨⟨t502, t505⟩, A480, H⟩ := H
         replace H : (some (t502, t505, 0)) = some (r1, r2, r3) := H
         have A48 := Aside0.mk A480
         clear A480
         simp only [Option.some.injEq, Prod.mk.injEq] at H
         obtain ⟨rfl, rfl, rfl⟩ := H
         have hnb49 := NB488_489.out
         have hnc49 := NB489_488.out
         have hcz50_0 : wc.cell? ⟨gb488, 0, none⟩ = some (.slice A0_0 l0_0.length c0_0) := (blk_cell BK488.out 0).trans rfl
         have hcz50_1 : wc.cell? ⟨gb488, 1, none⟩ = some (.int .i64 a0_1) := (blk_cell BK488.out 1).trans rfl
         have hfz50_0 := blk_frozen BK488.out 0
         have hfz50_1 := blk_frozen BK488.out 1
         have p494 : 0 ≤ (t490 : Int) := of_decide_eq_true (by first | (with_reducible assumption) | assumption)
         have q494 : t490 < (l0_0.length : Int) := of_decide_eq_true (by first | (with_reducible assumption) | assumption)
         obtain ⟨ad494, e494, hx494_0, hx494_1, hx494_2, hx494_3, hx494_4⟩ := at_T73 (Kd.V_reads' HO_489000.out).2.2 t490 p494 q494
         cases e494
         replace p494 := eq_true p494
         replace q494 := eq_true q494
         go_wp2_with (first | ((with_reducible refine gate_dst (N := 10) rfl ?_); refine box_event ?hg (N := 10) ?hd (cs := #[.string (⟨#[]⟩ : ByteArray), .int .i64 0, .int .i64 0, .bool false, .int .i64 0]) (t := 73) ?hr ?_; (case hd => rfl); (case hg => rfl); (case hr => first | (go_simp; done) | (go_simp; rfl)); intro gb495 hg w51 hbox hb; have n0_ := Aside0.mk (Kd.V_below (Kd.V_elderB (by (with_reducible repeat (first | apply Kd.V_alloc | apply Kd.V_drewN | apply Kd.V_drew)); exact HO_489000.out) gb495 (Nat.le_of_eq hg.symm)) hb); have n1_ := Aside0.mk (blk_below (g := gb488) (o := .cells #[.slice (some ad494) l0_0.length c0_0, .int .i64 a0_1] 64 (0, 0)) (by (with_reducible repeat (first | refine blk_drewN ?_ _ | refine blk_drew ?_ | refine blk_alloc ?_ _)); exact BK488.out) hb); have n2_ := Aside0.mk (blk_below (g := gb489) (o := .cells #[.slice none 0 0, .int .i64 0] 64 (0, 0)) (by (with_reducible repeat (first | refine blk_drewN ?_ _ | refine blk_drew ?_ | refine blk_alloc ?_ _)); exact BK489.out) hb); have n3_ := Aside0.mk (below_step (by repeat (first | (with_reducible first | exact HB.out | apply below_alloc | apply pw_below_drewN | apply below_drew1 | refine below_set ?_ GE488.out | refine below_set ?_ GE489.out) | exact HB.out)) hb); have n4_ := Aside0.mk (hbox); have n5_ := Aside0.mk ((by rw [hg]; exact (below_size (by repeat (first | (with_reducible first | exact HB.out | apply below_alloc | apply pw_below_drewN | apply below_drew1 | refine below_set ?_ GE488.out | refine below_set ?_ GE489.out) | exact HB.out))) : w.heap.size ≤ gb495)); have n6_ := Aside0.mk ((by rw [hg]; exact (below_size (by repeat (first | (with_reducible first | exact HB.out | apply below_alloc | apply pw_below_drewN | apply below_drew1 | refine below_set ?_ GE488.out | refine below_set ?_ GE489.out) | exact HB.out))) : w.heap.size ≤ gb495)); have n7_ := Aside0.mk ((by rw [hg]; exact Nat.ne_of_lt (blk_lt (g := gb488) (o := .cells #[.slice (some ad494) l0_0.length c0_0, .int .i64 a0_1] 64 (0, 0)) (by (with_reducible repeat (first | refine blk_drewN ?_ _ | refine blk_drew ?_ | refine blk_alloc ?_ _)); exact BK488.out)) : gb488 ≠ gb495)); have n8_ := Aside0.mk ((by rw [hg]; exact Nat.ne_of_gt (blk_lt (g := gb488) (o := .cells #[.slice (some ad494) l0_0.length c0_0, .int .i64 a0_1] 64 (0, 0)) (by (with_reducible repeat (first | refine blk_drewN ?_ _ | refine blk_drew ?_ | refine blk_alloc ?_ _)); exact BK488.out)) : gb495 ≠ gb488)); have n9_ := Aside0.mk ((by rw [hg]; exact Nat.ne_of_lt (blk_lt (g := gb489) (o := .cells #[.slice none 0 0, .int .i64 0] 64 (0, 0)) (by (with_reducible repeat (first | refine blk_drewN ?_ _ | refine blk_drew ?_ | refine blk_alloc ?_ _)); exact BK489.out)) : gb489 ≠ gb495)); have n10_ := Aside0.mk ((by rw [hg]; exact Nat.ne_of_gt (blk_lt (g := gb489) (o := .cells #[.slice none 0 0, .int .i64 0] 64 (0, 0)) (by (with_reducible repeat (first | refine blk_drewN ?_ _ | refine blk_drew ?_ | refine blk_alloc ?_ _)); exact BK489.out)) : gb495 ≠ gb489)); clear HO_489000; clear BK488; clear BK489; clear HB; have HO_489000 := n0_; have BK488 := n1_; have BK489 := n2_; have HB := n3_; have BK495 := n4_; have GW495 := n5_; have GE495 := n6_; have NB488_495 := n7_; have NB495_488 := n8_; have NB489_495 := n9_; have NB495_489 := n10_; clear n0_ n1_ n2_ n3_ n4_ n5_ n6_ n7_ n8_ n9_ n10_; clear hb hbox hg; have hnb52 := NB495_488.out; have hnc52 := NB488_495.out; have hnb53 := NB495_489.out; have hnc53 := NB489_495.out; have hcz54_0 : w51.cell? ⟨gb495, 0, none⟩ = some (.string (⟨#[]⟩ : ByteArray)) := (blk_cell BK495.out 0).trans rfl; have hcz54_1 : w51.cell? ⟨gb495, 1, none⟩ = some (.int .i64 0) := (blk_cell BK495.out 1).trans rfl; have hcz54_2 : w51.cell? ⟨gb495, 2, none⟩ = some (.int .i64 0) := (blk_cell BK495.out 2).trans rfl; have hcz54_3 : w51.cell? ⟨gb495, 3, none⟩ = some (.bool false) := (blk_cell BK495.out 3).trans rfl; have hcz54_4 : w51.cell? ⟨gb495, 4, none⟩ = some (.int .i64 0) := (blk_cell BK495.out 4).trans rfl; have hfz54_0 := blk_frozen BK495.out 0; have hfz54_1 := blk_frozen BK495.out 1; have hfz54_2 := blk_frozen BK495.out 2; have hfz54_3 := blk_frozen BK495.out 3; have hfz54_4 := blk_frozen BK495.out 4) | ((with_reducible refine gate_store (t := 73) (p := 10) rfl ?_); refine store_event (t := 73) (p := 10) (v := ?vo_w55) (w1 := (((((w51.setCell ⟨gb495, 0, none⟩ (.string ((rd_T73 l0_0 t490).f0))).setCell ⟨gb495, 1, none⟩ (.int .i64 ((rd_T73 l0_0 t490).f1))).setCell ⟨gb495, 2, none⟩ (.int .i64 ((rd_T73 l0_0 t490).f2))).setCell ⟨gb495, 3, none⟩ (.bool ((rd_T73 l0_0 t490).f3))).setCell ⟨gb495, 4, none⟩ (.int .i64 ((rd_T73 l0_0 t490).f4)))) ?hg ?ho ?hn ?hr ?_; (case ho => rfl); (case hg => rfl); (case hn => rfl); (case hr => first | (go_simp; done) | (go_simp; rfl)); intro w55 hw; have n0_ : Aside0 (Kd.V k73 73 w55 w.heap.size (fun k_ => (P0_0_ k_ ∨ w.heap.size ≤ k_) ∧ k_ ≠ gb488 ∧ k_ ≠ gb489 ∧ k_ ≠ gb495) (.slice (some ad494) l0_0.length c0_0) l0_0) := ⟨(by rw [hw]; exact (by (with_reducible repeat (first | apply Kd.V_alloc | apply Kd.V_drewN | apply Kd.V_drew)); exact Kd.V_mono (Kd.V_far (p := ⟨gb495, 4, none⟩) (Kd.V_far (p := ⟨gb495, 3, none⟩) (Kd.V_far (p := ⟨gb495, 2, none⟩) (Kd.V_far (p := ⟨gb495, 1, none⟩) (Kd.V_far (p := ⟨gb495, 0, none⟩) (Kd.V_mono HO_489000.out (fun k_ hk => (⟨hk, hk.2⟩ : _ ∧ k_ ≠ gb495))) (fun _ hk => hk.2) (.string ((rd_T73 l0_0 t490).f0))) (fun _ hk => hk.2) (.int .i64 ((rd_T73 l0_0 t490).f1))) (fun _ hk => hk.2) (.int .i64 ((rd_T73 l0_0 t490).f2))) (fun _ hk => hk.2) (.bool ((rd_T73 l0_0 t490).f3))) (fun _ hk => hk.2) (.int .i64 ((rd_T73 l0_0 t490).f4))) (fun _ hk => ⟨hk.1.1.1, ⟨hk.1.1.2.1, ⟨hk.1.1.2.2, hk.1.2⟩⟩⟩)))⟩; have n1_ : Aside0 (w55.heap[gb488]? = some (.cells #[.slice (some ad494) l0_0.length c0_0, .int .i64 a0_1] 64 (0, 0))) := ⟨(by rw [hw]; exact (by (with_reducible repeat (first | refine blk_drewN ?_ _ | refine blk_drew ?_ | refine blk_alloc ?_ _)); refine blk_far ?_ NB488_495.out _; (with_reducible repeat (first | refine blk_drewN ?_ _ | refine blk_drew ?_ | refine blk_alloc ?_ _)); refine blk_far ?_ NB488_495.out _; (with_reducible repeat (first | refine blk_drewN ?_ _ | refine blk_drew ?_ | refine blk_alloc ?_ _)); refine blk_far ?_ NB488_495.out _; (with_reducible repeat (first | refine blk_drewN ?_ _ | refine blk_drew ?_ | refine blk_alloc ?_ _)); refine blk_far ?_ NB488_495.out _; (with_reducible repeat (first | refine blk_drewN ?_ _ | refine blk_drew ?_ | refine blk_alloc ?_ _)); refine blk_far ?_ NB488_495.out _; (with_reducible repeat (first | refine blk_drewN ?_ _ | refine blk_drew ?_ | refine blk_alloc ?_ _)); exact BK488.out))⟩; have n2_ : Aside0 (w55.heap[gb489]? = some (.cells #[.slice none 0 0, .int .i64 0] 64 (0, 0))) := ⟨(by rw [hw]; exact (by (with_reducible repeat (first | refine blk_drewN ?_ _ | refine blk_drew ?_ | refine blk_alloc ?_ _)); refine blk_far ?_ NB489_495.out _; (with_reducible repeat (first | refine blk_drewN ?_ _ | refine blk_drew ?_ | refine blk_alloc ?_ _)); refine blk_far ?_ NB489_495.out _; (with_reducible repeat (first | refine blk_drewN ?_ _ | refine blk_drew ?_ | refine blk_alloc ?_ _)); refine blk_far ?_ NB489_495.out _; (with_reducible repeat (first | refine blk_drewN ?_ _ | refine blk_drew ?_ | refine blk_alloc ?_ _)); refine blk_far ?_ NB489_495.out _; (with_reducible repeat (first | refine blk_drewN ?_ _ | refine blk_drew ?_ | refine blk_alloc ?_ _)); refine blk_far ?_ NB489_495.out _; (with_reducible repeat (first | refine blk_drewN ?_ _ | refine blk_drew ?_ | refine blk_alloc ?_ _)); exact BK489.out))⟩; have n3_ : Aside0 (w55.heap[gb495]? = some (.cells #[.string ((rd_T73 l0_0 t490).f0), .int .i64 ((rd_T73 l0_0 t490).f1), .int .i64 ((rd_T73 l0_0 t490).f2), .bool ((rd_T73 l0_0 t490).f3), .int .i64 ((rd_T73 l0_0 t490).f4)] 73 (0, 0))) := ⟨(by rw [hw]; exact (by (with_reducible repeat (first | refine blk_drewN ?_ _ | refine blk_drew ?_ | refine blk_alloc ?_ _)); refine blk_put (cs := #[.string ((rd_T73 l0_0 t490).f0), .int .i64 ((rd_T73 l0_0 t490).f1), .int .i64 ((rd_T73 l0_0 t490).f2), .bool ((rd_T73 l0_0 t490).f3), .int .i64 0]) ?_ 4 _ rfl; (with_reducible repeat (first | refine blk_drewN ?_ _ | refine blk_drew ?_ | refine blk_alloc ?_ _)); refine blk_put (cs := #[.string ((rd_T73 l0_0 t490).f0), .int .i64 ((rd_T73 l0_0 t490).f1), .int .i64 ((rd_T73 l0_0 t490).f2), .bool false, .int .i64 0]) ?_ 3 _ rfl; (with_reducible repeat (first | refine blk_drewN ?_ _ | refine blk_drew ?_ | refine blk_alloc ?_ _)); refine blk_put (cs := #[.string ((rd_T73 l0_0 t490).f0), .int .i64 ((rd_T73 l0_0 t490).f1), .int .i64 0, .bool false, .int .i64 0]) ?_ 2 _ rfl; (with_reducible repeat (first | refine blk_drewN ?_ _ | refine blk_drew ?_ | refine blk_alloc ?_ _)); refine blk_put (cs := #[.string ((rd_T73 l0_0 t490).f0), .int .i64 0, .int .i64 0, .bool false, .int .i64 0]) ?_ 1 _ rfl; (with_reducible repeat (first | refine blk_drewN ?_ _ | refine blk_drew ?_ | refine blk_alloc ?_ _)); refine blk_put (cs := #[.string (⟨#[]⟩ : ByteArray), .int .i64 0, .int .i64 0, .bool false, .int .i64 0]) ?_ 0 _ rfl; (with_reducible repeat (first | refine blk_drewN ?_ _ | refine blk_drew ?_ | refine blk_alloc ?_ _)); exact BK495.out))⟩; have n4_ : Aside0 (Below w.heap.size w w55) := ⟨(by rw [hw]; exact (by repeat (first | (with_reducible first | exact HB.out | apply below_alloc | apply pw_below_drewN | apply below_drew1 | refine below_set ?_ GE488.out | refine below_set ?_ GE489.out | refine below_set ?_ GE495.out) | exact HB.out)))⟩; clear hw; clear HO_489000; clear BK488; clear BK489; clear BK495; clear HB; have HO_489000 := n0_; have BK488 := n1_; have BK489 := n2_; have BK495 := n3_; have HB := n4_; clear n0_ n1_ n2_ n3_ n4_; have hcz56_0 : w55.cell? ⟨gb488, 0, none⟩ = some (.slice (some ad494) l0_0.length c0_0) := (blk_cell BK488.out 0).trans rfl; have hcz56_1 : w55.cell? ⟨gb488, 1, none⟩ = some (.int .i64 a0_1) := (blk_cell BK488.out 1).trans rfl; have hfz56_0 := blk_frozen BK488.out 0; have hfz56_1 := blk_frozen BK488.out 1) | ((with_reducible refine gate_callee (f := 69) rfl ?_); refine goesL_ (some 54) rfl rfl Tryd.func69 (by kernel_rfl) rfl #[.agg #[.slice (some ad494) l0_0.length c0_0, .int .i64 a0_1], .string a1] rfl (by (try simp only [List.map_toArray, List.map_cons, List.map_nil]); first | done | rfl | (simp only [List.length_drop, List.length_take]; rfl)) ?_; (with_reducible refine (pannierref13_parents.calls kj19 (fun k_ => ((P0_0_ k_ ∨ w.heap.size ≤ k_) ∧ (k_ ≠ gb488 ∧ (k_ ≠ gb489 ∧ k_ ≠ gb495)))) _ _ l0_0 a0_1 a1 t496 t499 t500 _ ?side1 A46.out).mono ?_); (case side1 => exact HO_489000.out); rintro e w57 ⟨v497, rfl, ho0, hb⟩; refine ⟨_, rfl, ?_⟩; have n0_ := Aside0.mk (Kd.V_below (by (with_reducible repeat (first | apply Kd.V_alloc | apply Kd.V_drewN | apply Kd.V_drew)); exact HO_489000.out) hb); have n1_ := Aside0.mk (Kd.V_lower (Kd.V_mono (ok' := fun k_ => (P0_0_ k_ ∨ w.heap.size ≤ k_) ∧ k_ ≠ gb488 ∧ k_ ≠ gb489 ∧ k_ ≠ gb495) ho0 (fun k_ hk_ => ⟨Or.elim hk_ (fun hs_ => hs_.1) (fun hn_ => (.inr (Nat.le_trans (below_size (by repeat (first | (with_reducible first | exact HB.out | apply below_alloc | apply pw_below_drewN | apply below_drew1 | refine below_set ?_ GE488.out | refine below_set ?_ GE489.out | refine below_set ?_ GE495.out) | exact HB.out))) hn_))), Or.elim hk_ (fun hs_ => hs_.2.1) (fun hn_ => (Kd.freshB (g := gb488) (o := .cells #[.slice (some ad494) l0_0.length c0_0, .int .i64 a0_1] 64 (0, 0)) (by (with_reducible repeat (first | refine blk_drewN ?_ _ | refine blk_drew ?_ | refine blk_alloc ?_ _)); exact BK488.out) k_ hn_)), Or.elim hk_ (fun hs_ => hs_.2.2.1) (fun hn_ => (Kd.freshB (g := gb489) (o := .cells #[.slice none 0 0, .int .i64 0] 64 (0, 0)) (by (with_reducible repeat (first | refine blk_drewN ?_ _ | refine blk_drew ?_ | refine blk_alloc ?_ _)); exact BK489.out) k_ hn_)), Or.elim hk_ (fun hs_ => hs_.2.2.2) (fun hn_ => (Kd.freshB (g := gb495) (o := .cells #[.string ((rd_T73 l0_0 t490).f0), .int .i64 ((rd_T73 l0_0 t490).f1), .int .i64 ((rd_T73 l0_0 t490).f2), .bool ((rd_T73 l0_0 t490).f3), .int .i64 ((rd_T73 l0_0 t490).f4)] 73 (0, 0)) (by (with_reducible repeat (first | refine blk_drewN ?_ _ | refine blk_drew ?_ | refine blk_alloc ?_ _)); exact BK495.out) k_ hn_))⟩)) (below_size (by repeat (first | (with_reducible first | exact HB.out | apply below_alloc | apply pw_below_drewN | apply below_drew1 | refine below_set ?_ GE488.out | refine below_set ?_ GE489.out | refine below_set ?_ GE495.out) | exact HB.out)))); have n2_ := Aside0.mk (blk_below (g := gb488) (o := .cells #[.slice (some ad494) l0_0.length c0_0, .int .i64 a0_1] 64 (0, 0)) (by (with_reducible repeat (first | refine blk_drewN ?_ _ | refine blk_drew ?_ | refine blk_alloc ?_ _)); exact BK488.out) hb); have n3_ := Aside0.mk (blk_below (g := gb489) (o := .cells #[.slice none 0 0, .int .i64 0] 64 (0, 0)) (by (with_reducible repeat (first | refine blk_drewN ?_ _ | refine blk_drew ?_ | refine blk_alloc ?_ _)); exact BK489.out) hb); have n4_ := Aside0.mk (blk_below (g := gb495) (o := .cells #[.string ((rd_T73 l0_0 t490).f0), .int .i64 ((rd_T73 l0_0 t490).f1), .int .i64 ((rd_T73 l0_0 t490).f2), .bool ((rd_T73 l0_0 t490).f3), .int .i64 ((rd_T73 l0_0 t490).f4)] 73 (0, 0)) (by (with_reducible repeat (first | refine blk_drewN ?_ _ | refine blk_drew ?_ | refine blk_alloc ?_ _)); exact BK495.out) hb); have n5_ := Aside0.mk (below_step (by repeat (first | (with_reducible first | exact HB.out | apply below_alloc | apply pw_below_drewN | apply below_drew1 | refine below_set ?_ GE488.out | refine below_set ?_ GE489.out | refine below_set ?_ GE495.out) | exact HB.out)) hb); clear HO_489000; clear BK488; clear BK489; clear BK495; clear HB; have HO_489000 := n0_; have HO498 := n1_; have BK488 := n2_; have BK489 := n3_; have BK495 := n4_; have HB := n5_; clear n0_ n1_ n2_ n3_ n4_ n5_; (try clear hb); (try clear hb2); (try clear hk); (try clear hi); (try clear ho0)) | ((with_reducible refine gate_dst (N := 11) rfl ?_); refine box_event ?hg (N := 11) ?hd (cs := #[.slice none 0 0, .int .i64 0]) (t := 64) ?hr ?_; (case hd => rfl); (case hg => rfl); (case hr => first | (go_simp; done) | (go_simp; rfl)); intro gb501 hg w58 hbox hb; have n0_ := Aside0.mk (Kd.V_below (Kd.V_elderB (by (with_reducible repeat (first | apply Kd.V_alloc | apply Kd.V_drewN | apply Kd.V_drew)); exact HO_489000.out) gb501 (Nat.le_of_eq hg.symm)) hb); have n1_ := Aside0.mk (Kd.V_below (Kd.V_elderB (by (with_reducible repeat (first | apply Kd.V_alloc | apply Kd.V_drewN | apply Kd.V_drew)); exact HO498.out) gb501 (Nat.le_of_eq hg.symm)) hb); have n2_ := Aside0.mk (blk_below (g := gb488) (o := .cells #[.slice (some ad494) l0_0.length c0_0, .int .i64 a0_1] 64 (0, 0)) (by (with_reducible repeat (first | refine blk_drewN ?_ _ | refine blk_drew ?_ | refine blk_alloc ?_ _)); exact BK488.out) hb); have n3_ := Aside0.mk (blk_below (g := gb489) (o := .cells #[.slice none 0 0, .int .i64 0] 64 (0, 0)) (by (with_reducible repeat (first | refine blk_drewN ?_ _ | refine blk_drew ?_ | refine blk_alloc ?_ _)); exact BK489.out) hb); have n4_ := Aside0.mk (blk_below (g := gb495) (o := .cells #[.string ((rd_T73 l0_0 t490).f0), .int .i64 ((rd_T73 l0_0 t490).f1), .int .i64 ((rd_T73 l0_0 t490).f2), .bool ((rd_T73 l0_0 t490).f3), .int .i64 ((rd_T73 l0_0 t490).f4)] 73 (0, 0)) (by (with_reducible repeat (first | refine blk_drewN ?_ _ | refine blk_drew ?_ | refine blk_alloc ?_ _)); exact BK495.out) hb); have n5_ := Aside0.mk (below_step (by repeat (first | (with_reducible first | exact HB.out | apply below_alloc | apply pw_below_drewN | apply below_drew1 | refine below_set ?_ GE488.out | refine below_set ?_ GE489.out | refine below_set ?_ GE495.out) | exact HB.out)) hb); have n6_ := Aside0.mk (hbox); have n7_ := Aside0.mk ((by rw [hg]; exact (below_size (by repeat (first | (with_reducible first | exact HB.out | apply below_alloc | apply pw_below_drewN | apply below_drew1 | refine below_set ?_ GE488.out | refine below_set ?_ GE489.out | refine below_set ?_ GE495.out) | exact HB.out))) : w.heap.size ≤ gb501)); have n8_ := Aside0.mk ((by rw [hg]; exact (below_size (by repeat (first | (with_reducible first | exact HB.out | apply below_alloc | apply pw_below_drewN | apply below_drew1 | refine below_set ?_ GE488.out | refine below_set ?_ GE489.out | refine below_set ?_ GE495.out) | exact HB.out))) : w.heap.size ≤ gb501)); have n9_ := Aside0.mk ((by rw [hg]; exact Nat.ne_of_lt (blk_lt (g := gb488) (o := .cells #[.slice (some ad494) l0_0.length c0_0, .int .i64 a0_1] 64 (0, 0)) (by (with_reducible repeat (first | refine blk_drewN ?_ _ | refine blk_drew ?_ | refine blk_alloc ?_ _)); exact BK488.out)) : gb488 ≠ gb501)); have n10_ := Aside0.mk ((by rw [hg]; exact Nat.ne_of_gt (blk_lt (g := gb488) (o := .cells #[.slice (some ad494) l0_0.length c0_0, .int .i64 a0_1] 64 (0, 0)) (by (with_reducible repeat (first | refine blk_drewN ?_ _ | refine blk_drew ?_ | refine blk_alloc ?_ _)); exact BK488.out)) : gb501 ≠ gb488)); have n11_ := Aside0.mk ((by rw [hg]; exact Nat.ne_of_lt (blk_lt (g := gb489) (o := .cells #[.slice none 0 0, .int .i64 0] 64 (0, 0)) (by (with_reducible repeat (first | refine blk_drewN ?_ _ | refine blk_drew ?_ | refine blk_alloc ?_ _)); exact BK489.out)) : gb489 ≠ gb501)); have n12_ := Aside0.mk ((by rw [hg]; exact Nat.ne_of_gt (blk_lt (g := gb489) (o := .cells #[.slice none 0 0, .int .i64 0] 64 (0, 0)) (by (with_reducible repeat (first | refine blk_drewN ?_ _ | refine blk_drew ?_ | refine blk_alloc ?_ _)); exact BK489.out)) : gb501 ≠ gb489)); have n13_ := Aside0.mk ((by rw [hg]; exact Nat.ne_of_lt (blk_lt (g := gb495) (o := .cells #[.string ((rd_T73 l0_0 t490).f0), .int .i64 ((rd_T73 l0_0 t490).f1), .int .i64 ((rd_T73 l0_0 t490).f2), .bool ((rd_T73 l0_0 t490).f3), .int .i64 ((rd_T73 l0_0 t490).f4)] 73 (0, 0)) (by (with_reducible repeat (first | refine blk_drewN ?_ _ | refine blk_drew ?_ | refine blk_alloc ?_ _)); exact BK495.out)) : gb495 ≠ gb501)); have n14_ := Aside0.mk ((by rw [hg]; exact Nat.ne_of_gt (blk_lt (g := gb495) (o := .cells #[.string ((rd_T73 l0_0 t490).f0), .int .i64 ((rd_T73 l0_0 t490).f1), .int .i64 ((rd_T73 l0_0 t490).f2), .bool ((rd_T73 l0_0 t490).f3), .int .i64 ((rd_T73 l0_0 t490).f4)] 73 (0, 0)) (by (with_reducible repeat (first | refine blk_drewN ?_ _ | refine blk_drew ?_ | refine blk_alloc ?_ _)); exact BK495.out)) : gb501 ≠ gb495)); clear HO_489000; clear HO498; clear BK488; clear BK489; clear BK495; clear HB; have HO_489000 := n0_; have HO498 := n1_; have BK488 := n2_; have BK489 := n3_; have BK495 := n4_; have HB := n5_; have BK501 := n6_; have GW501 := n7_; have GE501 := n8_; have NB488_501 := n9_; have NB501_488 := n10_; have NB489_501 := n11_; have NB501_489 := n12_; have NB495_501 := n13_; have NB501_495 := n14_; clear n0_ n1_ n2_ n3_ n4_ n5_ n6_ n7_ n8_ n9_ n10_ n11_ n12_ n13_ n14_; clear hb hbox hg; obtain ⟨Ao59, co59, eo59⟩ := Kd.V_slice HO498.out; subst eo59; have hnb60 := NB501_488.out; have hnc60 := NB488_501.out; have hnb61 := NB501_489.out; have hnc61 := NB489_501.out; have hnb62 := NB501_495.out; have hnc62 := NB495_501.out; have hcz63_0 : w58.cell? ⟨gb501, 0, none⟩ = some (.slice none 0 0) := (blk_cell BK501.out 0).trans rfl; have hcz63_1 : w58.cell? ⟨gb501, 1, none⟩ = some (.int .i64 0) := (blk_cell BK501.out 1).trans rfl; have hfz63_0 := blk_frozen BK501.out 0; have hfz63_1 := blk_frozen BK501.out 1; have hcz64_0 : w58.cell? ⟨gb495, 0, none⟩ = some (.string ((rd_T73 l0_0 t490).f0)) := (blk_cell BK495.out 0).trans rfl; have hcz64_1 : w58.cell? ⟨gb495, 1, none⟩ = some (.int .i64 ((rd_T73 l0_0 t490).f1)) := (blk_cell BK495.out 1).trans rfl; have hcz64_2 : w58.cell? ⟨gb495, 2, none⟩ = some (.int .i64 ((rd_T73 l0_0 t490).f2)) := (blk_cell BK495.out 2).trans rfl; have hcz64_3 : w58.cell? ⟨gb495, 3, none⟩ = some (.bool ((rd_T73 l0_0 t490).f3)) := (blk_cell BK495.out 3).trans rfl; have hcz64_4 : w58.cell? ⟨gb495, 4, none⟩ = some (.int .i64 ((rd_T73 l0_0 t490).f4)) := (blk_cell BK495.out 4).trans rfl; have hfz64_0 := blk_frozen BK495.out 0; have hfz64_1 := blk_frozen BK495.out 1; have hfz64_2 := blk_frozen BK495.out 2; have hfz64_3 := blk_frozen BK495.out 3; have hfz64_4 := blk_frozen BK495.out 4) | ((with_reducible refine gate_callee (f := 70) rfl ?_); refine goesL_ (some 65) rfl rfl Tryd.func70 (by kernel_rfl) rfl #[.agg #[.slice Ao59 t496.length co59, .int .i64 t499], .agg #[.string a1, .int .i64 ((rd_T73 l0_0 t490).f1), .int .i64 ((rd_T73 l0_0 t490).f2), .bool ((rd_T73 l0_0 t490).f3), .int .i64 ((rd_T73 l0_0 t490).f4)]] rfl (by (try simp only [List.map_toArray, List.map_cons, List.map_nil]); first | done | rfl | (simp only [List.length_drop, List.length_take]; rfl)) ?_; (with_reducible refine (pannierref13_with.calls kj19 _ _ t496 t499 a1 ((rd_T73 l0_0 t490).f1) ((rd_T73 l0_0 t490).f2) ((rd_T73 l0_0 t490).f3) ((rd_T73 l0_0 t490).f4) t502 t505 _ ?side1 ?side2 A48.out).mono ?_); (case side1 => refine (Kd.V_reads' (e := 73) (base := w.heap.size) (ok := fun k_ => (((P0_0_ k_ ∨ w.heap.size ≤ k_) ∧ (k_ ≠ gb488 ∧ (k_ ≠ gb489 ∧ k_ ≠ gb495))) ∧ k_ ≠ gb501)) (n := t496.length) (c := co59) ?_).2.2; exact (by (with_reducible repeat (first | apply Kd.V_alloc | apply Kd.V_drewN | apply Kd.V_drew)); exact (Kd.V_mono (Kd.V_mono (Kd.V_far (p := ⟨gb495, 0, none⟩) (Kd.V_far (p := ⟨gb501, 1, none⟩) (Kd.V_far (p := ⟨gb501, 0, none⟩) (Kd.V_mono (Kd.V_mono HO498.out (fun k_ hk => (⟨hk, hk.2⟩ : _ ∧ k_ ≠ gb501))) (fun k_ hk => (⟨hk, hk.1.1.2.2.2⟩ : _ ∧ k_ ≠ gb495))) (fun _ hk => hk.1.2) (.slice Ao59 t496.length co59)) (fun _ hk => hk.1.2) (.int .i64 t499)) (fun _ hk => hk.2) (.string a1)) (fun _ h_ => h_.1)) (fun _ h_ => h_.1)))); (case side2 => exact (Kd.V_reads' HO498.out).2.1); rintro e w65 ⟨v503, rfl, ho0, hb⟩; refine ⟨_, rfl, ?_⟩; have n0_ := Aside0.mk (Kd.V_elder' (by (with_reducible repeat (first | apply Kd.V_alloc | apply Kd.V_drewN | apply Kd.V_drew)); exact (Kd.V_mono (Kd.V_mono (Kd.V_far (p := ⟨gb495, 0, none⟩) (Kd.V_far (p := ⟨gb501, 1, none⟩) (Kd.V_far (p := ⟨gb501, 0, none⟩) (Kd.V_mono (Kd.V_mono HO_489000.out (fun k_ hk => (⟨hk, hk.2⟩ : _ ∧ k_ ≠ gb501))) (fun k_ hk => (⟨hk, hk.1.1.2.2.2⟩ : _ ∧ k_ ≠ gb495))) (fun _ hk => hk.1.2) (.slice Ao59 t496.length co59)) (fun _ hk => hk.1.2) (.int .i64 t499)) (fun _ hk => hk.2) (.string a1)) (fun _ h_ => h_.1)) (fun _ h_ => h_.1))) (Kd.R_base ho0) hb); have n1_ := Aside0.mk (Kd.V_elder' (by (with_reducible repeat (first | apply Kd.V_alloc | apply Kd.V_drewN | apply Kd.V_drew)); exact (Kd.V_mono (Kd.V_mono (Kd.V_far (p := ⟨gb495, 0, none⟩) (Kd.V_far (p := ⟨gb501, 1, none⟩) (Kd.V_far (p := ⟨gb501, 0, none⟩) (Kd.V_mono (Kd.V_mono HO498.out (fun k_ hk => (⟨hk, hk.2⟩ : _ ∧ k_ ≠ gb501))) (fun k_ hk => (⟨hk, hk.1.1.2.2.2⟩ : _ ∧ k_ ≠ gb495))) (fun _ hk => hk.1.2) (.slice Ao59 t496.length co59)) (fun _ hk => hk.1.2) (.int .i64 t499)) (fun _ hk => hk.2) (.string a1)) (fun _ h_ => h_.1)) (fun _ h_ => h_.1))) (Kd.R_base ho0) hb); have n2_ := Aside0.mk (Kd.R_lower (Kd.R_newB (Kd.R_newM (M := fun k_ => (w.heap.size ≤ k_)) ho0 (below_size (by repeat (first | (with_reducible first | exact HB.out | apply below_alloc | apply pw_below_drewN | apply below_drew1 | refine below_set ?_ GE488.out | refine below_set ?_ GE489.out | refine below_set ?_ GE495.out | refine below_set ?_ GE501.out) | exact HB.out))) (fun k_ h_ => h_)) (g := gb495) (o := .cells #[.string a1, .int .i64 ((rd_T73 l0_0 t490).f1), .int .i64 ((rd_T73 l0_0 t490).f2), .bool ((rd_T73 l0_0 t490).f3), .int .i64 ((rd_T73 l0_0 t490).f4)] 73 (0, 0)) (by (with_reducible repeat (first | refine blk_drewN ?_ _ | refine blk_drew ?_ | refine blk_alloc ?_ _)); refine blk_put (cs := #[.string ((rd_T73 l0_0 t490).f0), .int .i64 ((rd_T73 l0_0 t490).f1), .int .i64 ((rd_T73 l0_0 t490).f2), .bool ((rd_T73 l0_0 t490).f3), .int .i64 ((rd_T73 l0_0 t490).f4)]) ?_ 0 _ rfl; (with_reducible repeat (first | refine blk_drewN ?_ _ | refine blk_drew ?_ | refine blk_alloc ?_ _)); refine blk_far ?_ NB495_501.out _; (with_reducible repeat (first | refine blk_drewN ?_ _ | refine blk_drew ?_ | refine blk_alloc ?_ _)); refine blk_far ?_ NB495_501.out _; (with_reducible repeat (first | refine blk_drewN ?_ _ | refine blk_drew ?_ | refine blk_alloc ?_ _)); exact BK495.out)) (below_size (by repeat (first | (with_reducible first | exact HB.out | apply below_alloc | apply pw_below_drewN | apply below_drew1 | refine below_set ?_ GE488.out | refine below_set ?_ GE489.out | refine below_set ?_ GE495.out | refine below_set ?_ GE501.out) | exact HB.out)))); have n3_ := Aside0.mk (blk_below (g := gb488) (o := .cells #[.slice (some ad494) l0_0.length c0_0, .int .i64 a0_1] 64 (0, 0)) (by (with_reducible repeat (first | refine blk_drewN ?_ _ | refine blk_drew ?_ | refine blk_alloc ?_ _)); refine blk_far ?_ NB488_495.out _; (with_reducible repeat (first | refine blk_drewN ?_ _ | refine blk_drew ?_ | refine blk_alloc ?_ _)); refine blk_far ?_ NB488_501.out _; (with_reducible repeat (first | refine blk_drewN ?_ _ | refine blk_drew ?_ | refine blk_alloc ?_ _)); refine blk_far ?_ NB488_501.out _; (with_reducible repeat (first | refine blk_drewN ?_ _ | refine blk_drew ?_ | refine blk_alloc ?_ _)); exact BK488.out) hb); have n4_ := Aside0.mk (blk_below (g := gb489) (o := .cells #[.slice none 0 0, .int .i64 0] 64 (0, 0)) (by (with_reducible repeat (first | refine blk_drewN ?_ _ | refine blk_drew ?_ | refine blk_alloc ?_ _)); refine blk_far ?_ NB489_495.out _; (with_reducible repeat (first | refine blk_drewN ?_ _ | refine blk_drew ?_ | refine blk_alloc ?_ _)); refine blk_far ?_ NB489_501.out _; (with_reducible repeat (first | refine blk_drewN ?_ _ | refine blk_drew ?_ | refine blk_alloc ?_ _)); refine blk_far ?_ NB489_501.out _; (with_reducible repeat (first | refine blk_drewN ?_ _ | refine blk_drew ?_ | refine blk_alloc ?_ _)); exact BK489.out) hb); have n5_ := Aside0.mk (blk_below (g := gb495) (o := .cells #[.string a1, .int .i64 ((rd_T73 l0_0 t490).f1), .int .i64 ((rd_T73 l0_0 t490).f2), .bool ((rd_T73 l0_0 t490).f3), .int .i64 ((rd_T73 l0_0 t490).f4)] 73 (0, 0)) (by (with_reducible repeat (first | refine blk_drewN ?_ _ | refine blk_drew ?_ | refine blk_alloc ?_ _)); refine blk_put (cs := #[.string ((rd_T73 l0_0 t490).f0), .int .i64 ((rd_T73 l0_0 t490).f1), .int .i64 ((rd_T73 l0_0 t490).f2), .bool ((rd_T73 l0_0 t490).f3), .int .i64 ((rd_T73 l0_0 t490).f4)]) ?_ 0 _ rfl; (with_reducible repeat (first | refine blk_drewN ?_ _ | refine blk_drew ?_ | refine blk_alloc ?_ _)); refine blk_far ?_ NB495_501.out _; (with_reducible repeat (first | refine blk_drewN ?_ _ | refine blk_drew ?_ | refine blk_alloc ?_ _)); refine blk_far ?_ NB495_501.out _; (with_reducible repeat (first | refine blk_drewN ?_ _ | refine blk_drew ?_ | refine blk_alloc ?_ _)); exact BK495.out) hb); have n6_ := Aside0.mk (blk_below (g := gb501) (o := .cells #[.slice Ao59 t496.length co59, .int .i64 t499] 64 (0, 0)) (by (with_reducible repeat (first | refine blk_drewN ?_ _ | refine blk_drew ?_ | refine blk_alloc ?_ _)); refine blk_far ?_ NB501_495.out _; (with_reducible repeat (first | refine blk_drewN ?_ _ | refine blk_drew ?_ | refine blk_alloc ?_ _)); refine blk_put (cs := #[.slice Ao59 t496.length co59, .int .i64 0]) ?_ 1 _ rfl; (with_reducible repeat (first | refine blk_drewN ?_ _ | refine blk_drew ?_ | refine blk_alloc ?_ _)); refine blk_put (cs := #[.slice none 0 0, .int .i64 0]) ?_ 0 _ rfl; (with_reducible repeat (first | refine blk_drewN ?_ _ | refine blk_drew ?_ | refine blk_alloc ?_ _)); exact BK501.out) hb); have n7_ := Aside0.mk (below_step (by repeat (first | (with_reducible first | exact HB.out | apply below_alloc | apply pw_below_drewN | apply below_drew1 | refine below_set ?_ GE488.out | refine below_set ?_ GE489.out | refine below_set ?_ GE495.out | refine below_set ?_ GE501.out) | exact HB.out)) hb); clear HO_489000; clear HO498; clear BK488; clear BK489; clear BK495; clear BK501; clear HB; have HO_489000 := n0_; have HO498 := n1_; have HO504 := n2_; have BK488 := n3_; have BK489 := n4_; have BK495 := n5_; have BK501 := n6_; have HB := n7_; clear n0_ n1_ n2_ n3_ n4_ n5_ n6_ n7_; (try clear hb); (try clear hb2); (try clear hk); (try clear hi); (try clear ho0); obtain ⟨Ao66, co66, eo66⟩ := Kd.R_slice HO504.out; subst eo66; have hcz67_0 : w65.cell? ⟨gb489, 0, none⟩ = some (.slice none 0 0) := (blk_cell BK489.out 0).trans rfl; have hcz67_1 : w65.cell? ⟨gb489, 1, none⟩ = some (.int .i64 0) := (blk_cell BK489.out 1).trans rfl; have hfz67_0 := blk_frozen BK489.out 0; have hfz67_1 := blk_frozen BK489.out 1))
         refine bodyPost_ret (results_ct rfl _ _ gb489 64 #[.slice Ao66 t502.length co66, .int .i64 t505] (0, 0) _ rfl (by (with_reducible repeat (first | refine blk_drewN ?_ _ | refine blk_drew ?_ | refine blk_alloc ?_ _)); refine blk_put (cs := #[.slice Ao66 t502.length co66, .int .i64 0]) ?_ 1 _ rfl; (with_reducible repeat (first | refine blk_drewN ?_ _ | refine blk_drew ?_ | refine blk_alloc ?_ _)); refine blk_put (cs := #[.slice none 0 0, .int .i64 0]) ?_ 0 _ rfl; (with_reducible repeat (first | refine blk_drewN ?_ _ | refine blk_drew ?_ | refine blk_alloc ?_ _)); exact BK489.out) Tryd.underlying64 rfl (by kernel_rfl)) rfl ?_
         exact ⟨_, by first | rfl | (simp [errW_none, errW_some] <;> rfl) | (simp [*, errW_none, errW_some] <;> rfl), Kd.V_mono (Kd.R_V (by (with_reducible repeat (first | apply Kd.R_alloc | apply Kd.R_drewN | apply Kd.R_drew)); exact Kd.R_mono (Kd.R_far (p := ⟨gb489, 1, none⟩) (Kd.R_far (p := ⟨gb489, 0, none⟩) (Kd.R_types HO504.out BK489.out (by decide)) (fun _ hk => hk.2) (.slice Ao66 t502.length co66)) (fun _ hk => hk.2) (.int .i64 t505)) (fun _ hk => hk.1.1.1))) (fun k_ hk => by first | exact ⟨(.inr (hk.1)), hk.2⟩ | exact (.inr (hk))), by repeat (first | (with_reducible first | exact HB.out | apply below_alloc | apply pw_below_drewN | apply below_drew1 | refine below_set ?_ GE488.out | refine below_set ?_ GE489.out | refine below_set ?_ GE495.out | refine below_set ?_ GE501.out) | exact HB.out)⟩
        ·rw [if_neg c47] at H
         have c47b0 : (t500 == 0) = false := beq_eq_false_iff_ne.mpr c47
         have c47b1 : (t500 != 0) = true := bne_iff_ne.mpr c47
         simp only [Option.some.injEq, Prod.mk.injEq] at H
         obtain ⟨rfl, rfl, rfl⟩ := H
         have hnb68 := NB488_489.out
         have hnc68 := NB489_488.out
         have hcz69_0 : wc.cell? ⟨gb488, 0, none⟩ = some (.slice A0_0 l0_0.length c0_0) := (blk_cell BK488.out 0).trans rfl
         have hcz69_1 : wc.cell? ⟨gb488, 1, none⟩ = some (.int .i64 a0_1) := (blk_cell BK488.out 1).trans rfl
         have hfz69_0 := blk_frozen BK488.out 0
         have hfz69_1 := blk_frozen BK488.out 1
         have p494 : 0 ≤ (t490 : Int) := of_decide_eq_true (by first | (with_reducible assumption) | assumption)
         have q494 : t490 < (l0_0.length : Int) := of_decide_eq_true (by first | (with_reducible assumption) | assumption)
         obtain ⟨ad494, e494, hx494_0, hx494_1, hx494_2, hx494_3, hx494_4⟩ := at_T73 (Kd.V_reads' HO_489000.out).2.2 t490 p494 q494
         cases e494
         replace p494 := eq_true p494
         replace q494 := eq_true q494
         go_wp2_with (first | ((with_reducible refine gate_dst (N := 10) rfl ?_); refine box_event ?hg (N := 10) ?hd (cs := #[.string (⟨#[]⟩ : ByteArray), .int .i64 0, .int .i64 0, .bool false, .int .i64 0]) (t := 73) ?hr ?_; (case hd => rfl); (case hg => rfl); (case hr => first | (go_simp; done) | (go_simp; rfl)); intro gb495 hg w70 hbox hb; have n0_ := Aside0.mk (Kd.V_below (Kd.V_elderB (by (with_reducible repeat (first | apply Kd.V_alloc | apply Kd.V_drewN | apply Kd.V_drew)); exact HO_489000.out) gb495 (Nat.le_of_eq hg.symm)) hb); have n1_ := Aside0.mk (blk_below (g := gb488) (o := .cells #[.slice (some ad494) l0_0.length c0_0, .int .i64 a0_1] 64 (0, 0)) (by (with_reducible repeat (first | refine blk_drewN ?_ _ | refine blk_drew ?_ | refine blk_alloc ?_ _)); exact BK488.out) hb); have n2_ := Aside0.mk (blk_below (g := gb489) (o := .cells #[.slice none 0 0, .int .i64 0] 64 (0, 0)) (by (with_reducible repeat (first | refine blk_drewN ?_ _ | refine blk_drew ?_ | refine blk_alloc ?_ _)); exact BK489.out) hb); have n3_ := Aside0.mk (below_step (by repeat (first | (with_reducible first | exact HB.out | apply below_alloc | apply pw_below_drewN | apply below_drew1 | refine below_set ?_ GE488.out | refine below_set ?_ GE489.out) | exact HB.out)) hb); have n4_ := Aside0.mk (hbox); have n5_ := Aside0.mk ((by rw [hg]; exact (below_size (by repeat (first | (with_reducible first | exact HB.out | apply below_alloc | apply pw_below_drewN | apply below_drew1 | refine below_set ?_ GE488.out | refine below_set ?_ GE489.out) | exact HB.out))) : w.heap.size ≤ gb495)); have n6_ := Aside0.mk ((by rw [hg]; exact (below_size (by repeat (first | (with_reducible first | exact HB.out | apply below_alloc | apply pw_below_drewN | apply below_drew1 | refine below_set ?_ GE488.out | refine below_set ?_ GE489.out) | exact HB.out))) : w.heap.size ≤ gb495)); have n7_ := Aside0.mk ((by rw [hg]; exact Nat.ne_of_lt (blk_lt (g := gb488) (o := .cells #[.slice (some ad494) l0_0.length c0_0, .int .i64 a0_1] 64 (0, 0)) (by (with_reducible repeat (first | refine blk_drewN ?_ _ | refine blk_drew ?_ | refine blk_alloc ?_ _)); exact BK488.out)) : gb488 ≠ gb495)); have n8_ := Aside0.mk ((by rw [hg]; exact Nat.ne_of_gt (blk_lt (g := gb488) (o := .cells #[.slice (some ad494) l0_0.length c0_0, .int .i64 a0_1] 64 (0, 0)) (by (with_reducible repeat (first | refine blk_drewN ?_ _ | refine blk_drew ?_ | refine blk_alloc ?_ _)); exact BK488.out)) : gb495 ≠ gb488)); have n9_ := Aside0.mk ((by rw [hg]; exact Nat.ne_of_lt (blk_lt (g := gb489) (o := .cells #[.slice none 0 0, .int .i64 0] 64 (0, 0)) (by (with_reducible repeat (first | refine blk_drewN ?_ _ | refine blk_drew ?_ | refine blk_alloc ?_ _)); exact BK489.out)) : gb489 ≠ gb495)); have n10_ := Aside0.mk ((by rw [hg]; exact Nat.ne_of_gt (blk_lt (g := gb489) (o := .cells #[.slice none 0 0, .int .i64 0] 64 (0, 0)) (by (with_reducible repeat (first | refine blk_drewN ?_ _ | refine blk_drew ?_ | refine blk_alloc ?_ _)); exact BK489.out)) : gb495 ≠ gb489)); clear HO_489000; clear BK488; clear BK489; clear HB; have HO_489000 := n0_; have BK488 := n1_; have BK489 := n2_; have HB := n3_; have BK495 := n4_; have GW495 := n5_; have GE495 := n6_; have NB488_495 := n7_; have NB495_488 := n8_; have NB489_495 := n9_; have NB495_489 := n10_; clear n0_ n1_ n2_ n3_ n4_ n5_ n6_ n7_ n8_ n9_ n10_; clear hb hbox hg; have hnb71 := NB495_488.out; have hnc71 := NB488_495.out; have hnb72 := NB495_489.out; have hnc72 := NB489_495.out; have hcz73_0 : w70.cell? ⟨gb495, 0, none⟩ = some (.string (⟨#[]⟩ : ByteArray)) := (blk_cell BK495.out 0).trans rfl; have hcz73_1 : w70.cell? ⟨gb495, 1, none⟩ = some (.int .i64 0) := (blk_cell BK495.out 1).trans rfl; have hcz73_2 : w70.cell? ⟨gb495, 2, none⟩ = some (.int .i64 0) := (blk_cell BK495.out 2).trans rfl; have hcz73_3 : w70.cell? ⟨gb495, 3, none⟩ = some (.bool false) := (blk_cell BK495.out 3).trans rfl; have hcz73_4 : w70.cell? ⟨gb495, 4, none⟩ = some (.int .i64 0) := (blk_cell BK495.out 4).trans rfl; have hfz73_0 := blk_frozen BK495.out 0; have hfz73_1 := blk_frozen BK495.out 1; have hfz73_2 := blk_frozen BK495.out 2; have hfz73_3 := blk_frozen BK495.out 3; have hfz73_4 := blk_frozen BK495.out 4) | ((with_reducible refine gate_store (t := 73) (p := 10) rfl ?_); refine store_event (t := 73) (p := 10) (v := ?vo_w74) (w1 := (((((w70.setCell ⟨gb495, 0, none⟩ (.string ((rd_T73 l0_0 t490).f0))).setCell ⟨gb495, 1, none⟩ (.int .i64 ((rd_T73 l0_0 t490).f1))).setCell ⟨gb495, 2, none⟩ (.int .i64 ((rd_T73 l0_0 t490).f2))).setCell ⟨gb495, 3, none⟩ (.bool ((rd_T73 l0_0 t490).f3))).setCell ⟨gb495, 4, none⟩ (.int .i64 ((rd_T73 l0_0 t490).f4)))) ?hg ?ho ?hn ?hr ?_; (case ho => rfl); (case hg => rfl); (case hn => rfl); (case hr => first | (go_simp; done) | (go_simp; rfl)); intro w74 hw; have n0_ : Aside0 (Kd.V k73 73 w74 w.heap.size (fun k_ => (P0_0_ k_ ∨ w.heap.size ≤ k_) ∧ k_ ≠ gb488 ∧ k_ ≠ gb489 ∧ k_ ≠ gb495) (.slice (some ad494) l0_0.length c0_0) l0_0) := ⟨(by rw [hw]; exact (by (with_reducible repeat (first | apply Kd.V_alloc | apply Kd.V_drewN | apply Kd.V_drew)); exact Kd.V_mono (Kd.V_far (p := ⟨gb495, 4, none⟩) (Kd.V_far (p := ⟨gb495, 3, none⟩) (Kd.V_far (p := ⟨gb495, 2, none⟩) (Kd.V_far (p := ⟨gb495, 1, none⟩) (Kd.V_far (p := ⟨gb495, 0, none⟩) (Kd.V_mono HO_489000.out (fun k_ hk => (⟨hk, hk.2⟩ : _ ∧ k_ ≠ gb495))) (fun _ hk => hk.2) (.string ((rd_T73 l0_0 t490).f0))) (fun _ hk => hk.2) (.int .i64 ((rd_T73 l0_0 t490).f1))) (fun _ hk => hk.2) (.int .i64 ((rd_T73 l0_0 t490).f2))) (fun _ hk => hk.2) (.bool ((rd_T73 l0_0 t490).f3))) (fun _ hk => hk.2) (.int .i64 ((rd_T73 l0_0 t490).f4))) (fun _ hk => ⟨hk.1.1.1, ⟨hk.1.1.2.1, ⟨hk.1.1.2.2, hk.1.2⟩⟩⟩)))⟩; have n1_ : Aside0 (w74.heap[gb488]? = some (.cells #[.slice (some ad494) l0_0.length c0_0, .int .i64 a0_1] 64 (0, 0))) := ⟨(by rw [hw]; exact (by (with_reducible repeat (first | refine blk_drewN ?_ _ | refine blk_drew ?_ | refine blk_alloc ?_ _)); refine blk_far ?_ NB488_495.out _; (with_reducible repeat (first | refine blk_drewN ?_ _ | refine blk_drew ?_ | refine blk_alloc ?_ _)); refine blk_far ?_ NB488_495.out _; (with_reducible repeat (first | refine blk_drewN ?_ _ | refine blk_drew ?_ | refine blk_alloc ?_ _)); refine blk_far ?_ NB488_495.out _; (with_reducible repeat (first | refine blk_drewN ?_ _ | refine blk_drew ?_ | refine blk_alloc ?_ _)); refine blk_far ?_ NB488_495.out _; (with_reducible repeat (first | refine blk_drewN ?_ _ | refine blk_drew ?_ | refine blk_alloc ?_ _)); refine blk_far ?_ NB488_495.out _; (with_reducible repeat (first | refine blk_drewN ?_ _ | refine blk_drew ?_ | refine blk_alloc ?_ _)); exact BK488.out))⟩; have n2_ : Aside0 (w74.heap[gb489]? = some (.cells #[.slice none 0 0, .int .i64 0] 64 (0, 0))) := ⟨(by rw [hw]; exact (by (with_reducible repeat (first | refine blk_drewN ?_ _ | refine blk_drew ?_ | refine blk_alloc ?_ _)); refine blk_far ?_ NB489_495.out _; (with_reducible repeat (first | refine blk_drewN ?_ _ | refine blk_drew ?_ | refine blk_alloc ?_ _)); refine blk_far ?_ NB489_495.out _; (with_reducible repeat (first | refine blk_drewN ?_ _ | refine blk_drew ?_ | refine blk_alloc ?_ _)); refine blk_far ?_ NB489_495.out _; (with_reducible repeat (first | refine blk_drewN ?_ _ | refine blk_drew ?_ | refine blk_alloc ?_ _)); refine blk_far ?_ NB489_495.out _; (with_reducible repeat (first | refine blk_drewN ?_ _ | refine blk_drew ?_ | refine blk_alloc ?_ _)); refine blk_far ?_ NB489_495.out _; (with_reducible repeat (first | refine blk_drewN ?_ _ | refine blk_drew ?_ | refine blk_alloc ?_ _)); exact BK489.out))⟩; have n3_ : Aside0 (w74.heap[gb495]? = some (.cells #[.string ((rd_T73 l0_0 t490).f0), .int .i64 ((rd_T73 l0_0 t490).f1), .int .i64 ((rd_T73 l0_0 t490).f2), .bool ((rd_T73 l0_0 t490).f3), .int .i64 ((rd_T73 l0_0 t490).f4)] 73 (0, 0))) := ⟨(by rw [hw]; exact (by (with_reducible repeat (first | refine blk_drewN ?_ _ | refine blk_drew ?_ | refine blk_alloc ?_ _)); refine blk_put (cs := #[.string ((rd_T73 l0_0 t490).f0), .int .i64 ((rd_T73 l0_0 t490).f1), .int .i64 ((rd_T73 l0_0 t490).f2), .bool ((rd_T73 l0_0 t490).f3), .int .i64 0]) ?_ 4 _ rfl; (with_reducible repeat (first | refine blk_drewN ?_ _ | refine blk_drew ?_ | refine blk_alloc ?_ _)); refine blk_put (cs := #[.string ((rd_T73 l0_0 t490).f0), .int .i64 ((rd_T73 l0_0 t490).f1), .int .i64 ((rd_T73 l0_0 t490).f2), .bool false, .int .i64 0]) ?_ 3 _ rfl; (with_reducible repeat (first | refine blk_drewN ?_ _ | refine blk_drew ?_ | refine blk_alloc ?_ _)); refine blk_put (cs := #[.string ((rd_T73 l0_0 t490).f0), .int .i64 ((rd_T73 l0_0 t490).f1), .int .i64 0, .bool false, .int .i64 0]) ?_ 2 _ rfl; (with_reducible repeat (first | refine blk_drewN ?_ _ | refine blk_drew ?_ | refine blk_alloc ?_ _)); refine blk_put (cs := #[.string ((rd_T73 l0_0 t490).f0), .int .i64 0, .int .i64 0, .bool false, .int .i64 0]) ?_ 1 _ rfl; (with_reducible repeat (first | refine blk_drewN ?_ _ | refine blk_drew ?_ | refine blk_alloc ?_ _)); refine blk_put (cs := #[.string (⟨#[]⟩ : ByteArray), .int .i64 0, .int .i64 0, .bool false, .int .i64 0]) ?_ 0 _ rfl; (with_reducible repeat (first | refine blk_drewN ?_ _ | refine blk_drew ?_ | refine blk_alloc ?_ _)); exact BK495.out))⟩; have n4_ : Aside0 (Below w.heap.size w w74) := ⟨(by rw [hw]; exact (by repeat (first | (with_reducible first | exact HB.out | apply below_alloc | apply pw_below_drewN | apply below_drew1 | refine below_set ?_ GE488.out | refine below_set ?_ GE489.out | refine below_set ?_ GE495.out) | exact HB.out)))⟩; clear hw; clear HO_489000; clear BK488; clear BK489; clear BK495; clear HB; have HO_489000 := n0_; have BK488 := n1_; have BK489 := n2_; have BK495 := n3_; have HB := n4_; clear n0_ n1_ n2_ n3_ n4_; have hcz75_0 : w74.cell? ⟨gb488, 0, none⟩ = some (.slice (some ad494) l0_0.length c0_0) := (blk_cell BK488.out 0).trans rfl; have hcz75_1 : w74.cell? ⟨gb488, 1, none⟩ = some (.int .i64 a0_1) := (blk_cell BK488.out 1).trans rfl; have hfz75_0 := blk_frozen BK488.out 0; have hfz75_1 := blk_frozen BK488.out 1) | ((with_reducible refine gate_callee (f := 69) rfl ?_); refine goesL_ (some 54) rfl rfl Tryd.func69 (by kernel_rfl) rfl #[.agg #[.slice (some ad494) l0_0.length c0_0, .int .i64 a0_1], .string a1] rfl (by (try simp only [List.map_toArray, List.map_cons, List.map_nil]); first | done | rfl | (simp only [List.length_drop, List.length_take]; rfl)) ?_; (with_reducible refine (pannierref13_parents.calls kj19 (fun k_ => ((P0_0_ k_ ∨ w.heap.size ≤ k_) ∧ (k_ ≠ gb488 ∧ (k_ ≠ gb489 ∧ k_ ≠ gb495)))) _ _ l0_0 a0_1 a1 t496 t499 t500 _ ?side1 A46.out).mono ?_); (case side1 => exact HO_489000.out); rintro e w76 ⟨v497, rfl, ho0, hb⟩; refine ⟨_, rfl, ?_⟩; have n0_ := Aside0.mk (Kd.V_below (by (with_reducible repeat (first | apply Kd.V_alloc | apply Kd.V_drewN | apply Kd.V_drew)); exact HO_489000.out) hb); have n1_ := Aside0.mk (Kd.V_lower (Kd.V_mono (ok' := fun k_ => (P0_0_ k_ ∨ w.heap.size ≤ k_) ∧ k_ ≠ gb488 ∧ k_ ≠ gb489 ∧ k_ ≠ gb495) ho0 (fun k_ hk_ => ⟨Or.elim hk_ (fun hs_ => hs_.1) (fun hn_ => (.inr (Nat.le_trans (below_size (by repeat (first | (with_reducible first | exact HB.out | apply below_alloc | apply pw_below_drewN | apply below_drew1 | refine below_set ?_ GE488.out | refine below_set ?_ GE489.out | refine below_set ?_ GE495.out) | exact HB.out))) hn_))), Or.elim hk_ (fun hs_ => hs_.2.1) (fun hn_ => (Kd.freshB (g := gb488) (o := .cells #[.slice (some ad494) l0_0.length c0_0, .int .i64 a0_1] 64 (0, 0)) (by (with_reducible repeat (first | refine blk_drewN ?_ _ | refine blk_drew ?_ | refine blk_alloc ?_ _)); exact BK488.out) k_ hn_)), Or.elim hk_ (fun hs_ => hs_.2.2.1) (fun hn_ => (Kd.freshB (g := gb489) (o := .cells #[.slice none 0 0, .int .i64 0] 64 (0, 0)) (by (with_reducible repeat (first | refine blk_drewN ?_ _ | refine blk_drew ?_ | refine blk_alloc ?_ _)); exact BK489.out) k_ hn_)), Or.elim hk_ (fun hs_ => hs_.2.2.2) (fun hn_ => (Kd.freshB (g := gb495) (o := .cells #[.string ((rd_T73 l0_0 t490).f0), .int .i64 ((rd_T73 l0_0 t490).f1), .int .i64 ((rd_T73 l0_0 t490).f2), .bool ((rd_T73 l0_0 t490).f3), .int .i64 ((rd_T73 l0_0 t490).f4)] 73 (0, 0)) (by (with_reducible repeat (first | refine blk_drewN ?_ _ | refine blk_drew ?_ | refine blk_alloc ?_ _)); exact BK495.out) k_ hn_))⟩)) (below_size (by repeat (first | (with_reducible first | exact HB.out | apply below_alloc | apply pw_below_drewN | apply below_drew1 | refine below_set ?_ GE488.out | refine below_set ?_ GE489.out | refine below_set ?_ GE495.out) | exact HB.out)))); have n2_ := Aside0.mk (blk_below (g := gb488) (o := .cells #[.slice (some ad494) l0_0.length c0_0, .int .i64 a0_1] 64 (0, 0)) (by (with_reducible repeat (first | refine blk_drewN ?_ _ | refine blk_drew ?_ | refine blk_alloc ?_ _)); exact BK488.out) hb); have n3_ := Aside0.mk (blk_below (g := gb489) (o := .cells #[.slice none 0 0, .int .i64 0] 64 (0, 0)) (by (with_reducible repeat (first | refine blk_drewN ?_ _ | refine blk_drew ?_ | refine blk_alloc ?_ _)); exact BK489.out) hb); have n4_ := Aside0.mk (blk_below (g := gb495) (o := .cells #[.string ((rd_T73 l0_0 t490).f0), .int .i64 ((rd_T73 l0_0 t490).f1), .int .i64 ((rd_T73 l0_0 t490).f2), .bool ((rd_T73 l0_0 t490).f3), .int .i64 ((rd_T73 l0_0 t490).f4)] 73 (0, 0)) (by (with_reducible repeat (first | refine blk_drewN ?_ _ | refine blk_drew ?_ | refine blk_alloc ?_ _)); exact BK495.out) hb); have n5_ := Aside0.mk (below_step (by repeat (first | (with_reducible first | exact HB.out | apply below_alloc | apply pw_below_drewN | apply below_drew1 | refine below_set ?_ GE488.out | refine below_set ?_ GE489.out | refine below_set ?_ GE495.out) | exact HB.out)) hb); clear HO_489000; clear BK488; clear BK489; clear BK495; clear HB; have HO_489000 := n0_; have HO498 := n1_; have BK488 := n2_; have BK489 := n3_; have BK495 := n4_; have HB := n5_; clear n0_ n1_ n2_ n3_ n4_ n5_; (try clear hb); (try clear hb2); (try clear hk); (try clear hi); (try clear ho0)) | ((with_reducible refine gate_dst (N := 11) rfl ?_); refine box_event ?hg (N := 11) ?hd (cs := #[.slice none 0 0, .int .i64 0]) (t := 64) ?hr ?_; (case hd => rfl); (case hg => rfl); (case hr => first | (go_simp; done) | (go_simp; rfl)); intro gb501 hg w77 hbox hb; have n0_ := Aside0.mk (Kd.V_below (Kd.V_elderB (by (with_reducible repeat (first | apply Kd.V_alloc | apply Kd.V_drewN | apply Kd.V_drew)); exact HO_489000.out) gb501 (Nat.le_of_eq hg.symm)) hb); have n1_ := Aside0.mk (Kd.V_below (Kd.V_elderB (by (with_reducible repeat (first | apply Kd.V_alloc | apply Kd.V_drewN | apply Kd.V_drew)); exact HO498.out) gb501 (Nat.le_of_eq hg.symm)) hb); have n2_ := Aside0.mk (blk_below (g := gb488) (o := .cells #[.slice (some ad494) l0_0.length c0_0, .int .i64 a0_1] 64 (0, 0)) (by (with_reducible repeat (first | refine blk_drewN ?_ _ | refine blk_drew ?_ | refine blk_alloc ?_ _)); exact BK488.out) hb); have n3_ := Aside0.mk (blk_below (g := gb489) (o := .cells #[.slice none 0 0, .int .i64 0] 64 (0, 0)) (by (with_reducible repeat (first | refine blk_drewN ?_ _ | refine blk_drew ?_ | refine blk_alloc ?_ _)); exact BK489.out) hb); have n4_ := Aside0.mk (blk_below (g := gb495) (o := .cells #[.string ((rd_T73 l0_0 t490).f0), .int .i64 ((rd_T73 l0_0 t490).f1), .int .i64 ((rd_T73 l0_0 t490).f2), .bool ((rd_T73 l0_0 t490).f3), .int .i64 ((rd_T73 l0_0 t490).f4)] 73 (0, 0)) (by (with_reducible repeat (first | refine blk_drewN ?_ _ | refine blk_drew ?_ | refine blk_alloc ?_ _)); exact BK495.out) hb); have n5_ := Aside0.mk (below_step (by repeat (first | (with_reducible first | exact HB.out | apply below_alloc | apply pw_below_drewN | apply below_drew1 | refine below_set ?_ GE488.out | refine below_set ?_ GE489.out | refine below_set ?_ GE495.out) | exact HB.out)) hb); have n6_ := Aside0.mk (hbox); have n7_ := Aside0.mk ((by rw [hg]; exact (below_size (by repeat (first | (with_reducible first | exact HB.out | apply below_alloc | apply pw_below_drewN | apply below_drew1 | refine below_set ?_ GE488.out | refine below_set ?_ GE489.out | refine below_set ?_ GE495.out) | exact HB.out))) : w.heap.size ≤ gb501)); have n8_ := Aside0.mk ((by rw [hg]; exact (below_size (by repeat (first | (with_reducible first | exact HB.out | apply below_alloc | apply pw_below_drewN | apply below_drew1 | refine below_set ?_ GE488.out | refine below_set ?_ GE489.out | refine below_set ?_ GE495.out) | exact HB.out))) : w.heap.size ≤ gb501)); have n9_ := Aside0.mk ((by rw [hg]; exact Nat.ne_of_lt (blk_lt (g := gb488) (o := .cells #[.slice (some ad494) l0_0.length c0_0, .int .i64 a0_1] 64 (0, 0)) (by (with_reducible repeat (first | refine blk_drewN ?_ _ | refine blk_drew ?_ | refine blk_alloc ?_ _)); exact BK488.out)) : gb488 ≠ gb501)); have n10_ := Aside0.mk ((by rw [hg]; exact Nat.ne_of_gt (blk_lt (g := gb488) (o := .cells #[.slice (some ad494) l0_0.length c0_0, .int .i64 a0_1] 64 (0, 0)) (by (with_reducible repeat (first | refine blk_drewN ?_ _ | refine blk_drew ?_ | refine blk_alloc ?_ _)); exact BK488.out)) : gb501 ≠ gb488)); have n11_ := Aside0.mk ((by rw [hg]; exact Nat.ne_of_lt (blk_lt (g := gb489) (o := .cells #[.slice none 0 0, .int .i64 0] 64 (0, 0)) (by (with_reducible repeat (first | refine blk_drewN ?_ _ | refine blk_drew ?_ | refine blk_alloc ?_ _)); exact BK489.out)) : gb489 ≠ gb501)); have n12_ := Aside0.mk ((by rw [hg]; exact Nat.ne_of_gt (blk_lt (g := gb489) (o := .cells #[.slice none 0 0, .int .i64 0] 64 (0, 0)) (by (with_reducible repeat (first | refine blk_drewN ?_ _ | refine blk_drew ?_ | refine blk_alloc ?_ _)); exact BK489.out)) : gb501 ≠ gb489)); have n13_ := Aside0.mk ((by rw [hg]; exact Nat.ne_of_lt (blk_lt (g := gb495) (o := .cells #[.string ((rd_T73 l0_0 t490).f0), .int .i64 ((rd_T73 l0_0 t490).f1), .int .i64 ((rd_T73 l0_0 t490).f2), .bool ((rd_T73 l0_0 t490).f3), .int .i64 ((rd_T73 l0_0 t490).f4)] 73 (0, 0)) (by (with_reducible repeat (first | refine blk_drewN ?_ _ | refine blk_drew ?_ | refine blk_alloc ?_ _)); exact BK495.out)) : gb495 ≠ gb501)); have n14_ := Aside0.mk ((by rw [hg]; exact Nat.ne_of_gt (blk_lt (g := gb495) (o := .cells #[.string ((rd_T73 l0_0 t490).f0), .int .i64 ((rd_T73 l0_0 t490).f1), .int .i64 ((rd_T73 l0_0 t490).f2), .bool ((rd_T73 l0_0 t490).f3), .int .i64 ((rd_T73 l0_0 t490).f4)] 73 (0, 0)) (by (with_reducible repeat (first | refine blk_drewN ?_ _ | refine blk_drew ?_ | refine blk_alloc ?_ _)); exact BK495.out)) : gb501 ≠ gb495)); clear HO_489000; clear HO498; clear BK488; clear BK489; clear BK495; clear HB; have HO_489000 := n0_; have HO498 := n1_; have BK488 := n2_; have BK489 := n3_; have BK495 := n4_; have HB := n5_; have BK501 := n6_; have GW501 := n7_; have GE501 := n8_; have NB488_501 := n9_; have NB501_488 := n10_; have NB489_501 := n11_; have NB501_489 := n12_; have NB495_501 := n13_; have NB501_495 := n14_; clear n0_ n1_ n2_ n3_ n4_ n5_ n6_ n7_ n8_ n9_ n10_ n11_ n12_ n13_ n14_; clear hb hbox hg; obtain ⟨Ao78, co78, eo78⟩ := Kd.V_slice HO498.out; subst eo78; have hnb79 := NB501_488.out; have hnc79 := NB488_501.out; have hnb80 := NB501_489.out; have hnc80 := NB489_501.out; have hnb81 := NB501_495.out; have hnc81 := NB495_501.out; have hcz82_0 : w77.cell? ⟨gb501, 0, none⟩ = some (.slice none 0 0) := (blk_cell BK501.out 0).trans rfl; have hcz82_1 : w77.cell? ⟨gb501, 1, none⟩ = some (.int .i64 0) := (blk_cell BK501.out 1).trans rfl; have hfz82_0 := blk_frozen BK501.out 0; have hfz82_1 := blk_frozen BK501.out 1; have hcz83_0 : w77.cell? ⟨gb488, 0, none⟩ = some (.slice (some ad494) l0_0.length c0_0) := (blk_cell BK488.out 0).trans rfl; have hcz83_1 : w77.cell? ⟨gb488, 1, none⟩ = some (.int .i64 a0_1) := (blk_cell BK488.out 1).trans rfl; have hfz83_0 := blk_frozen BK488.out 0; have hfz83_1 := blk_frozen BK488.out 1; have hcz84_0 : w77.cell? ⟨gb489, 0, none⟩ = some (.slice none 0 0) := (blk_cell BK489.out 0).trans rfl; have hcz84_1 : w77.cell? ⟨gb489, 1, none⟩ = some (.int .i64 0) := (blk_cell BK489.out 1).trans rfl; have hfz84_0 := blk_frozen BK489.out 0; have hfz84_1 := blk_frozen BK489.out 1))
         refine bodyPost_ret (results_ct rfl _ _ gb489 64 #[.slice (some ad494) l0_0.length c0_0, .int .i64 a0_1] (0, 0) _ rfl (by (with_reducible repeat (first | refine blk_drewN ?_ _ | refine blk_drew ?_ | refine blk_alloc ?_ _)); refine blk_put (cs := #[.slice (some ad494) l0_0.length c0_0, .int .i64 0]) ?_ 1 _ rfl; (with_reducible repeat (first | refine blk_drewN ?_ _ | refine blk_drew ?_ | refine blk_alloc ?_ _)); refine blk_put (cs := #[.slice none 0 0, .int .i64 0]) ?_ 0 _ rfl; (with_reducible repeat (first | refine blk_drewN ?_ _ | refine blk_drew ?_ | refine blk_alloc ?_ _)); refine blk_far ?_ NB489_501.out _; (with_reducible repeat (first | refine blk_drewN ?_ _ | refine blk_drew ?_ | refine blk_alloc ?_ _)); refine blk_far ?_ NB489_501.out _; (with_reducible repeat (first | refine blk_drewN ?_ _ | refine blk_drew ?_ | refine blk_alloc ?_ _)); exact BK489.out) Tryd.underlying64 rfl (by kernel_rfl)) rfl ?_
         exact ⟨_, by first | rfl | (simp [errW_none, errW_some] <;> rfl) | (simp [*, errW_none, errW_some] <;> rfl), by (with_reducible repeat (first | apply Kd.V_alloc | apply Kd.V_drewN | apply Kd.V_drew)); exact Kd.V_mono (Kd.V_far (p := ⟨gb489, 1, none⟩) (Kd.V_far (p := ⟨gb489, 0, none⟩) (Kd.V_far (p := ⟨gb501, 1, none⟩) (Kd.V_far (p := ⟨gb501, 0, none⟩) (Kd.V_mono (Kd.V_mono HO_489000.out (fun k_ hk => (⟨hk, hk.2⟩ : _ ∧ k_ ≠ gb501))) (fun k_ hk => (⟨hk, hk.1.1.2.2.1⟩ : _ ∧ k_ ≠ gb489))) (fun _ hk => hk.1.2) (.slice Ao78 t496.length co78)) (fun _ hk => hk.1.2) (.int .i64 t499)) (fun _ hk => hk.2) (.slice (some ad494) l0_0.length c0_0)) (fun _ hk => hk.2) (.int .i64 a0_1)) (fun _ hk => hk.1.1.1.1), by repeat (first | (with_reducible first | exact HB.out | apply below_alloc | apply pw_below_drewN | apply below_drew1 | refine below_set ?_ GE488.out | refine below_set ?_ GE489.out | refine below_set ?_ GE495.out | refine below_set ?_ GE501.out) | exact HB.out)⟩
       ·rw [if_neg c45] at H
        exact absurd H (by simp)
      ·rw [if_neg c44] at H
       exact absurd H (by simp)
end Go.Proofs.YtolpamojbiipaaaDoor.XA
