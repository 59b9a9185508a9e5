-- Written by a program of this session (wip/tools/xprint.py) out of the translation's print. Lean checks it.
import Derived.Test.YtolpamojbiipaaaDoorXA0
namespace Go.Proofs.YtolpamojbiipaaaDoor.XA
open Go.RowKit Go.Proofs.YtolpamojbiipaaaDoorW.PrintWords Go.Proofs.YtolpamojbiipaaaDoorW.PrintLast Go.Proofs.YtolpamojbiipaaaDoorW.PrintMore
attribute [local go_sem] max2_int min2_int max_two min_two max_three min_three max_four min_four   -- for this text's walks alone
set_option linter.unusedVariables false
set_option linter.unusedSimpArgs false

-- NOT PRINTED: function 9 (pannierlaw17_MergeApart)

-- NOT PRINTED: function 10 (pannierlaw17_MergeKinds)

-- NOT PRINTED: function 35 (tree_Tree_Contents)

/-! ### tree_Tree_Names: function 36 -/
def tree_Tree_Names.l0 : Nat → Int → Int → List (S44) → Int → Int → Option (Int)
 | 0, _, _, _, _, _ => none
 | k + 1, x1, x5, x9, x10, x11 => if x11 < x10 then (if 0 ≤ x11 then (if x11 < (x9.length : Int) then (if ((rd_T44 x9 x11).f1) = x1 then (tree_Tree_Names.l0 k x1 (wrap64 (x5 + 1)) x9 x10 (wrap64 (x11 + 1))) else (tree_Tree_Names.l0 k x1 x5 x9 x10 (wrap64 (x11 + 1)))) else (none)) else (none)) else (some x5)
def tree_Tree_Names.f (k : Nat) (l0_0 : List (S44)) (a0_1 : Int) (a1 : Int) : Option (Int) := tree_Tree_Names.l0 k a1 0 l0_0 (l0_0.length : Int) 0
theorem tree_Tree_Names.mono_l : ∀ k, (∀ y0 y1 y2 y3 y4, LeO (tree_Tree_Names.l0 k y0 y1 y2 y3 y4) (tree_Tree_Names.l0 (k + 1) y0 y1 y2 y3 y4))
 | 0 => fun _ _ _ _ _ r h => by simp [tree_Tree_Names.l0] at h
 | k + 1 => by
  have ih0 := tree_Tree_Names.mono_l k
  ·intro y0 y1 y2 y3 y4
   unfold tree_Tree_Names.l0
   repeat' first
   | (with_reducible exact ih0 _ _ _ _ _)
   | (with_reducible exact LeO.refl _)
   | (with_reducible exact LeO.none _)
   | (with_reducible refine LeO.ite ?_ ?_)
   | (with_reducible refine LeO.bind ?_ (fun _ => ?_))
   | exact ih0 _ _ _ _ _
   | exact LeO.none _
   | refine LeO.ite ?_ ?_
   | refine LeO.bind ?_ (fun _ => ?_)
theorem tree_Tree_Names.mono : ∀ a0 a1 a2 k, LeO (tree_Tree_Names.f k a0 a1 a2) (tree_Tree_Names.f (k + 1) a0 a1 a2) := by
 intro a0 a1 a2 k
 have ih0 := tree_Tree_Names.mono_l k
 unfold tree_Tree_Names.f
 repeat' first
   | (with_reducible exact ih0 _ _ _ _ _)
   | (with_reducible exact LeO.refl _)
   | (with_reducible exact LeO.none _)
   | (with_reducible refine LeO.ite ?_ ?_)
   | (with_reducible refine LeO.bind ?_ (fun _ => ?_))
   | exact ih0 _ _ _ _ _
   | exact LeO.none _
   | refine LeO.ite ?_ ?_
   | refine LeO.bind ?_ (fun _ => ?_)
set_option maxHeartbeats 8000000 in
set_option maxRecDepth 100000 in
theorem tree_Tree_Names.calls (k : Nat) (A0_0 : Option Addr) (c0_0 : Nat) (l0_0 : List (S44)) (a0_1 : Int) (a1 : Int) (r : Int) (w : World) (hr0_0 : Kd.C k44 w A0_0 l0_0.length l0_0) (hc0_0 : l0_0.length ≤ c0_0) (h : tree_Tree_Names.f k l0_0 a0_1 a1 = some r) :
  Calls Tryd.prog 36 #[.agg #[.slice A0_0 l0_0.length c0_0, .int .i64 a0_1], .int .i64 a1] w fun e w' => e = .returned (.int .i64 r) ∧ Below w.heap.size w w' := by
 have hu35 := Tryd.underlying35
 have hu44 := Tryd.underlying44
 have HR0_0 := Aside0.mk hr0_0
 have HC0_0 := Aside0.mk hc0_0
 clear hr0_0 hc0_0
 have HB := Aside0.mk (Below.refl w.heap.size w)
 have H : (tree_Tree_Names.l0 k a1 0 l0_0 (l0_0.length : Int) 0) = some r := h
 clear h
 have H' := Aside0.mk H
 clear H
 go_enter Tryd.func36, Tryd.ntmps36
 go_wp2_with (first | ((with_reducible refine gate_dst (N := 2) rfl ?_); refine box_event ?hg (N := 2) ?hd (cs := #[.slice A0_0 l0_0.length c0_0, .int .i64 a0_1]) (t := 35) ?hr ?_; (case hd => rfl); (case hg => rfl); (case hr => first | (go_simp; done) | (go_simp; rfl)); intro gb769 hg w3 hbox hb; have n0_ := Aside0.mk (below_step (by repeat (first | (with_reducible first | exact HB.out | apply below_alloc | apply pw_below_drewN | apply below_drew1) | exact HB.out)) hb); have n1_ := Aside0.mk (hbox); have n2_ := Aside0.mk ((by rw [hg]; exact (below_size (by repeat (first | (with_reducible first | exact HB.out | apply below_alloc | apply pw_below_drewN | apply below_drew1) | exact HB.out))) : w.heap.size ≤ gb769)); have n3_ := Aside0.mk ((by rw [hg]; exact (below_size (by repeat (first | (with_reducible first | exact HB.out | apply below_alloc | apply pw_below_drewN | apply below_drew1) | exact HB.out))) : w.heap.size ≤ gb769)); clear HB; have HB := n0_; have BK769 := n1_; have GW769 := n2_; have GE769 := n3_; clear n0_ n1_ n2_ n3_; clear hb hbox hg; have hcz4_0 : w3.cell? ⟨gb769, 0, none⟩ = some (.slice A0_0 l0_0.length c0_0) := (blk_cell BK769.out 0).trans rfl; have hcz4_1 : w3.cell? ⟨gb769, 1, none⟩ = some (.int .i64 a0_1) := (blk_cell BK769.out 1).trans rfl; have hfz4_0 := blk_frozen BK769.out 0; have hfz4_1 := blk_frozen BK769.out 1))
 go_loopg [5, 11] k (fun kq v5 v11 w' => ∃ (x5_1 : Int) (x11_1 : Int), v5 = .int .i64 x5_1 ∧ v11 = .int .i64 x11_1 ∧ Aside0 (tree_Tree_Names.l0 kq a1 x5_1 l0_0 (l0_0.length : Int) x11_1 = some r) ∧ Aside0 (kq ≤ k) ∧ Aside0 (w'.heap[gb769]? = some (.cells #[(.slice A0_0 l0_0.length c0_0), .int .i64 a0_1] 35 (0, 0))) ∧ Aside0 (Below w.heap.size w w'))
 case atStart => exact ⟨(0), (0), (by first | rfl | (simp; done) | (simp [*]; done)), (by first | rfl | (simp; done) | (simp [*]; done)), H', ⟨Nat.le_refl _⟩, ⟨by (with_reducible repeat (first | refine blk_drewN ?_ _ | refine blk_drew ?_ | refine blk_alloc ?_ _)); exact BK769.out⟩, ⟨by repeat (first | (with_reducible first | exact HB.out | apply below_alloc | apply pw_below_drewN | apply below_drew1 | refine below_set ?_ GE769.out) | exact HB.out)⟩⟩
 case round =>
  clear H'
  try clear p2
  try clear c3
  try clear hcz4_0
  try clear hcz4_1
  try clear hfz4_0
  try clear hfz4_1
  obtain ⟨x5_1, x11_1, rfl, rfl, HA, HK1, BK769, HB⟩ := hrel
  cases gk with
  | zero => exact absurd HA.out (by simp [tree_Tree_Names.l0])
  | succ k1 =>
   have H := HA.out
   clear HA
   simp only [tree_Tree_Names.l0] at H
   by_cases c5 : x11_1 < (l0_0.length : Int)
   ·rw [if_pos c5] at H
    have c5b0 : decide (x11_1 < (l0_0.length : Int)) = true := decide_eq_true c5
    clear c5
    by_cases c6 : 0 ≤ x11_1
    ·rw [if_pos c6] at H
     have c6b0 : decide (0 ≤ x11_1) = true := decide_eq_true c6
     clear c6
     by_cases c7 : x11_1 < (l0_0.length : Int)
     ·rw [if_pos c7] at H
      have c7b0 : decide (x11_1 < (l0_0.length : Int)) = true := decide_eq_true c7
      clear c7
      by_cases c8 : ((rd_T44 l0_0 x11_1).f1) = a1
      ·rw [if_pos c8] at H
       have c8b0 : (((rd_T44 l0_0 x11_1).f1) == a1) = true := beq_iff_eq.mpr c8
       have c8b1 : (((rd_T44 l0_0 x11_1).f1) != a1) = false := bne_eq_false_iff_eq.mpr c8
       clear c8
       have H' := Aside0.mk H
       clear H
       have p770 : 0 ≤ (x11_1 : Int) := of_decide_eq_true (by first | (with_reducible assumption) | assumption)
       have q770 : x11_1 < (l0_0.length : Int) := of_decide_eq_true (by first | (with_reducible assumption) | assumption)
       obtain ⟨ad770, e770, hx770_0, hx770_1, hx770_2, hx770_3, hx770_4, hx770_5, hx770_6, hx770_7, hx770_8, hx770_9, hx770_10, hx770_11, hx770_12⟩ := at_T44 HR0_0.out x11_1 p770 q770
       cases e770
       replace hx770_0 := (HB.out.cell (World.block_lt_of_cell? w _ hx770_0)).trans hx770_0
       replace hx770_1 := (HB.out.cell (World.block_lt_of_cell? w _ hx770_1)).trans hx770_1
       replace hx770_2 := (HB.out.cell (World.block_lt_of_cell? w _ hx770_2)).trans hx770_2
       replace hx770_3 := (HB.out.cell (World.block_lt_of_cell? w _ hx770_3)).trans hx770_3
       replace hx770_4 := (HB.out.cell (World.block_lt_of_cell? w _ hx770_4)).trans hx770_4
       replace hx770_5 := (HB.out.cell (World.block_lt_of_cell? w _ hx770_5)).trans hx770_5
       replace hx770_6 := (HB.out.cell (World.block_lt_of_cell? w _ hx770_6)).trans hx770_6
       replace hx770_7 := (HB.out.cell (World.block_lt_of_cell? w _ hx770_7)).trans hx770_7
       replace hx770_8 := (HB.out.cell (World.block_lt_of_cell? w _ hx770_8)).trans hx770_8
       replace hx770_9 := (HB.out.cell (World.block_lt_of_cell? w _ hx770_9)).trans hx770_9
       replace hx770_10 := (HB.out.cell (World.block_lt_of_cell? w _ hx770_10)).trans hx770_10
       replace hx770_11 := (HB.out.cell (World.block_lt_of_cell? w _ hx770_11)).trans hx770_11
       replace hx770_12 := (HB.out.cell (World.block_lt_of_cell? w _ hx770_12)).trans hx770_12
       replace p770 := eq_true p770
       replace q770 := eq_true q770
       go_wp2_with (first | ((with_reducible refine gate_dst (N := 7) rfl ?_); refine box_event ?hg (N := 7) ?hd (cs := #[.string (⟨#[]⟩ : ByteArray), .int .i64 0, .int .i64 0, .int .i64 0, .int .i64 0, .int .i64 0, .int .i64 0, .string (⟨#[]⟩ : ByteArray), .string (⟨#[]⟩ : ByteArray), .string (⟨#[]⟩ : ByteArray), .slice none 0 0, .int .i64 0, .bool false]) (t := 44) ?hr ?_; (case hd => rfl); (case hg => rfl); (case hr => first | (go_simp; done) | (go_simp; rfl)); intro gb771 hg w9 hbox hb; have n0_ := Aside0.mk (blk_below (g := gb769) (o := .cells #[.slice (some ad770) l0_0.length c0_0, .int .i64 a0_1] 35 (0, 0)) (by (with_reducible repeat (first | refine blk_drewN ?_ _ | refine blk_drew ?_ | refine blk_alloc ?_ _)); exact BK769.out) hb); have n1_ := Aside0.mk (below_step (by repeat (first | (with_reducible first | exact HB.out | apply below_alloc | apply pw_below_drewN | apply below_drew1 | refine below_set ?_ GE769.out) | exact HB.out)) hb); have n2_ := Aside0.mk (hbox); have n3_ := Aside0.mk ((by rw [hg]; exact (below_size (by repeat (first | (with_reducible first | exact HB.out | apply below_alloc | apply pw_below_drewN | apply below_drew1 | refine below_set ?_ GE769.out) | exact HB.out))) : w.heap.size ≤ gb771)); have n4_ := Aside0.mk ((by rw [hg]; exact (below_size (by repeat (first | (with_reducible first | exact HB.out | apply below_alloc | apply pw_below_drewN | apply below_drew1 | refine below_set ?_ GE769.out) | exact HB.out))) : w.heap.size ≤ gb771)); have n5_ := Aside0.mk ((by rw [hg]; exact Nat.ne_of_lt (blk_lt (g := gb769) (o := .cells #[.slice (some ad770) l0_0.length c0_0, .int .i64 a0_1] 35 (0, 0)) (by (with_reducible repeat (first | refine blk_drewN ?_ _ | refine blk_drew ?_ | refine blk_alloc ?_ _)); exact BK769.out)) : gb769 ≠ gb771)); have n6_ := Aside0.mk ((by rw [hg]; exact Nat.ne_of_gt (blk_lt (g := gb769) (o := .cells #[.slice (some ad770) l0_0.length c0_0, .int .i64 a0_1] 35 (0, 0)) (by (with_reducible repeat (first | refine blk_drewN ?_ _ | refine blk_drew ?_ | refine blk_alloc ?_ _)); exact BK769.out)) : gb771 ≠ gb769)); clear BK769; clear HB; have BK769 := n0_; have HB := n1_; have BK771 := n2_; have GW771 := n3_; have GE771 := n4_; have NB769_771 := n5_; have NB771_769 := n6_; clear n0_ n1_ n2_ n3_ n4_ n5_ n6_; clear hb hbox hg; have hnb10 := NB771_769.out; have hnc10 := NB769_771.out; have hcz11_0 : w9.cell? ⟨gb771, 0, none⟩ = some (.string (⟨#[]⟩ : ByteArray)) := (blk_cell BK771.out 0).trans rfl; have hcz11_1 : w9.cell? ⟨gb771, 1, none⟩ = some (.int .i64 0) := (blk_cell BK771.out 1).trans rfl; have hcz11_2 : w9.cell? ⟨gb771, 2, none⟩ = some (.int .i64 0) := (blk_cell BK771.out 2).trans rfl; have hcz11_3 : w9.cell? ⟨gb771, 3, none⟩ = some (.int .i64 0) := (blk_cell BK771.out 3).trans rfl; have hcz11_4 : w9.cell? ⟨gb771, 4, none⟩ = some (.int .i64 0) := (blk_cell BK771.out 4).trans rfl; have hcz11_5 : w9.cell? ⟨gb771, 5, none⟩ = some (.int .i64 0) := (blk_cell BK771.out 5).trans rfl; have hcz11_6 : w9.cell? ⟨gb771, 6, none⟩ = some (.int .i64 0) := (blk_cell BK771.out 6).trans rfl; have hcz11_7 : w9.cell? ⟨gb771, 7, none⟩ = some (.string (⟨#[]⟩ : ByteArray)) := (blk_cell BK771.out 7).trans rfl; have hcz11_8 : w9.cell? ⟨gb771, 8, none⟩ = some (.string (⟨#[]⟩ : ByteArray)) := (blk_cell BK771.out 8).trans rfl; have hcz11_9 : w9.cell? ⟨gb771, 9, none⟩ = some (.string (⟨#[]⟩ : ByteArray)) := (blk_cell BK771.out 9).trans rfl; have hcz11_10 : w9.cell? ⟨gb771, 10, none⟩ = some (.slice none 0 0) := (blk_cell BK771.out 10).trans rfl; have hcz11_11 : w9.cell? ⟨gb771, 11, none⟩ = some (.int .i64 0) := (blk_cell BK771.out 11).trans rfl; have hcz11_12 : w9.cell? ⟨gb771, 12, none⟩ = some (.bool false) := (blk_cell BK771.out 12).trans rfl; have hfz11_0 := blk_frozen BK771.out 0; have hfz11_1 := blk_frozen BK771.out 1; have hfz11_2 := blk_frozen BK771.out 2; have hfz11_3 := blk_frozen BK771.out 3; have hfz11_4 := blk_frozen BK771.out 4; have hfz11_5 := blk_frozen BK771.out 5; have hfz11_6 := blk_frozen BK771.out 6; have hfz11_7 := blk_frozen BK771.out 7; have hfz11_8 := blk_frozen BK771.out 8; have hfz11_9 := blk_frozen BK771.out 9; have hfz11_10 := blk_frozen BK771.out 10; have hfz11_11 := blk_frozen BK771.out 11; have hfz11_12 := blk_frozen BK771.out 12))
       go_roundg k1
       case measure => have := HK1.out; omega
       case rel => exact ⟨(wrap64 (x5_1 + 1)), (wrap64 (x11_1 + 1)), (by first | rfl | (simp; done) | (simp [*]; done)), (by first | rfl | (simp; done) | (simp [*]; done)), H', ⟨by have := HK1.out; omega⟩, ⟨by (with_reducible repeat (first | refine blk_drewN ?_ _ | refine blk_drew ?_ | refine blk_alloc ?_ _)); refine blk_far ?_ NB769_771.out _; (with_reducible repeat (first | refine blk_drewN ?_ _ | refine blk_drew ?_ | refine blk_alloc ?_ _)); refine blk_far ?_ NB769_771.out _; (with_reducible repeat (first | refine blk_drewN ?_ _ | refine blk_drew ?_ | refine blk_alloc ?_ _)); refine blk_far ?_ NB769_771.out _; (with_reducible repeat (first | refine blk_drewN ?_ _ | refine blk_drew ?_ | refine blk_alloc ?_ _)); refine blk_far ?_ NB769_771.out _; (with_reducible repeat (first | refine blk_drewN ?_ _ | refine blk_drew ?_ | refine blk_alloc ?_ _)); refine blk_far ?_ NB769_771.out _; (with_reducible repeat (first | refine blk_drewN ?_ _ | refine blk_drew ?_ | refine blk_alloc ?_ _)); refine blk_far ?_ NB769_771.out _; (with_reducible repeat (first | refine blk_drewN ?_ _ | refine blk_drew ?_ | refine blk_alloc ?_ _)); refine blk_far ?_ NB769_771.out _; (with_reducible repeat (first | refine blk_drewN ?_ _ | refine blk_drew ?_ | refine blk_alloc ?_ _)); refine blk_far ?_ NB769_771.out _; (with_reducible repeat (first | refine blk_drewN ?_ _ | refine blk_drew ?_ | refine blk_alloc ?_ _)); refine blk_far ?_ NB769_771.out _; (with_reducible repeat (first | refine blk_drewN ?_ _ | refine blk_drew ?_ | refine blk_alloc ?_ _)); refine blk_far ?_ NB769_771.out _; (with_reducible repeat (first | refine blk_drewN ?_ _ | refine blk_drew ?_ | refine blk_alloc ?_ _)); refine blk_far ?_ NB769_771.out _; (with_reducible repeat (first | refine blk_drewN ?_ _ | refine blk_drew ?_ | refine blk_alloc ?_ _)); refine blk_far ?_ NB769_771.out _; (with_reducible repeat (first | refine blk_drewN ?_ _ | refine blk_drew ?_ | refine blk_alloc ?_ _)); refine blk_far ?_ NB769_771.out _; (with_reducible repeat (first | refine blk_drewN ?_ _ | refine blk_drew ?_ | refine blk_alloc ?_ _)); exact BK769.out⟩, ⟨by repeat (first | (with_reducible first | exact HB.out | apply below_alloc | apply pw_below_drewN | apply below_drew1 | refine below_set ?_ GE769.out | refine below_set ?_ GE771.out) | exact HB.out)⟩⟩
      ·rw [if_neg c8] at H
       have c8b0 : (((rd_T44 l0_0 x11_1).f1) == a1) = false := beq_eq_false_iff_ne.mpr c8
       have c8b1 : (((rd_T44 l0_0 x11_1).f1) != a1) = true := bne_iff_ne.mpr c8
       have H' := Aside0.mk H
       clear H
       have p770 : 0 ≤ (x11_1 : Int) := of_decide_eq_true (by first | (with_reducible assumption) | assumption)
       have q770 : x11_1 < (l0_0.length : Int) := of_decide_eq_true (by first | (with_reducible assumption) | assumption)
       obtain ⟨ad770, e770, hx770_0, hx770_1, hx770_2, hx770_3, hx770_4, hx770_5, hx770_6, hx770_7, hx770_8, hx770_9, hx770_10, hx770_11, hx770_12⟩ := at_T44 HR0_0.out x11_1 p770 q770
       cases e770
       replace hx770_0 := (HB.out.cell (World.block_lt_of_cell? w _ hx770_0)).trans hx770_0
       replace hx770_1 := (HB.out.cell (World.block_lt_of_cell? w _ hx770_1)).trans hx770_1
       replace hx770_2 := (HB.out.cell (World.block_lt_of_cell? w _ hx770_2)).trans hx770_2
       replace hx770_3 := (HB.out.cell (World.block_lt_of_cell? w _ hx770_3)).trans hx770_3
       replace hx770_4 := (HB.out.cell (World.block_lt_of_cell? w _ hx770_4)).trans hx770_4
       replace hx770_5 := (HB.out.cell (World.block_lt_of_cell? w _ hx770_5)).trans hx770_5
       replace hx770_6 := (HB.out.cell (World.block_lt_of_cell? w _ hx770_6)).trans hx770_6
       replace hx770_7 := (HB.out.cell (World.block_lt_of_cell? w _ hx770_7)).trans hx770_7
       replace hx770_8 := (HB.out.cell (World.block_lt_of_cell? w _ hx770_8)).trans hx770_8
       replace hx770_9 := (HB.out.cell (World.block_lt_of_cell? w _ hx770_9)).trans hx770_9
       replace hx770_10 := (HB.out.cell (World.block_lt_of_cell? w _ hx770_10)).trans hx770_10
       replace hx770_11 := (HB.out.cell (World.block_lt_of_cell? w _ hx770_11)).trans hx770_11
       replace hx770_12 := (HB.out.cell (World.block_lt_of_cell? w _ hx770_12)).trans hx770_12
       replace p770 := eq_true p770
       replace q770 := eq_true q770
       go_wp2_with (first | ((with_reducible refine gate_dst (N := 7) rfl ?_); refine box_event ?hg (N := 7) ?hd (cs := #[.string (⟨#[]⟩ : ByteArray), .int .i64 0, .int .i64 0, .int .i64 0, .int .i64 0, .int .i64 0, .int .i64 0, .string (⟨#[]⟩ : ByteArray), .string (⟨#[]⟩ : ByteArray), .string (⟨#[]⟩ : ByteArray), .slice none 0 0, .int .i64 0, .bool false]) (t := 44) ?hr ?_; (case hd => rfl); (case hg => rfl); (case hr => first | (go_simp; done) | (go_simp; rfl)); intro gb771 hg w12 hbox hb; have n0_ := Aside0.mk (blk_below (g := gb769) (o := .cells #[.slice (some ad770) l0_0.length c0_0, .int .i64 a0_1] 35 (0, 0)) (by (with_reducible repeat (first | refine blk_drewN ?_ _ | refine blk_drew ?_ | refine blk_alloc ?_ _)); exact BK769.out) hb); have n1_ := Aside0.mk (below_step (by repeat (first | (with_reducible first | exact HB.out | apply below_alloc | apply pw_below_drewN | apply below_drew1 | refine below_set ?_ GE769.out) | exact HB.out)) hb); have n2_ := Aside0.mk (hbox); have n3_ := Aside0.mk ((by rw [hg]; exact (below_size (by repeat (first | (with_reducible first | exact HB.out | apply below_alloc | apply pw_below_drewN | apply below_drew1 | refine below_set ?_ GE769.out) | exact HB.out))) : w.heap.size ≤ gb771)); have n4_ := Aside0.mk ((by rw [hg]; exact (below_size (by repeat (first | (with_reducible first | exact HB.out | apply below_alloc | apply pw_below_drewN | apply below_drew1 | refine below_set ?_ GE769.out) | exact HB.out))) : w.heap.size ≤ gb771)); have n5_ := Aside0.mk ((by rw [hg]; exact Nat.ne_of_lt (blk_lt (g := gb769) (o := .cells #[.slice (some ad770) l0_0.length c0_0, .int .i64 a0_1] 35 (0, 0)) (by (with_reducible repeat (first | refine blk_drewN ?_ _ | refine blk_drew ?_ | refine blk_alloc ?_ _)); exact BK769.out)) : gb769 ≠ gb771)); have n6_ := Aside0.mk ((by rw [hg]; exact Nat.ne_of_gt (blk_lt (g := gb769) (o := .cells #[.slice (some ad770) l0_0.length c0_0, .int .i64 a0_1] 35 (0, 0)) (by (with_reducible repeat (first | refine blk_drewN ?_ _ | refine blk_drew ?_ | refine blk_alloc ?_ _)); exact BK769.out)) : gb771 ≠ gb769)); clear BK769; clear HB; have BK769 := n0_; have HB := n1_; have BK771 := n2_; have GW771 := n3_; have GE771 := n4_; have NB769_771 := n5_; have NB771_769 := n6_; clear n0_ n1_ n2_ n3_ n4_ n5_ n6_; clear hb hbox hg; have hnb13 := NB771_769.out; have hnc13 := NB769_771.out; have hcz14_0 : w12.cell? ⟨gb771, 0, none⟩ = some (.string (⟨#[]⟩ : ByteArray)) := (blk_cell BK771.out 0).trans rfl; have hcz14_1 : w12.cell? ⟨gb771, 1, none⟩ = some (.int .i64 0) := (blk_cell BK771.out 1).trans rfl; have hcz14_2 : w12.cell? ⟨gb771, 2, none⟩ = some (.int .i64 0) := (blk_cell BK771.out 2).trans rfl; have hcz14_3 : w12.cell? ⟨gb771, 3, none⟩ = some (.int .i64 0) := (blk_cell BK771.out 3).trans rfl; have hcz14_4 : w12.cell? ⟨gb771, 4, none⟩ = some (.int .i64 0) := (blk_cell BK771.out 4).trans rfl; have hcz14_5 : w12.cell? ⟨gb771, 5, none⟩ = some (.int .i64 0) := (blk_cell BK771.out 5).trans rfl; have hcz14_6 : w12.cell? ⟨gb771, 6, none⟩ = some (.int .i64 0) := (blk_cell BK771.out 6).trans rfl; have hcz14_7 : w12.cell? ⟨gb771, 7, none⟩ = some (.string (⟨#[]⟩ : ByteArray)) := (blk_cell BK771.out 7).trans rfl; have hcz14_8 : w12.cell? ⟨gb771, 8, none⟩ = some (.string (⟨#[]⟩ : ByteArray)) := (blk_cell BK771.out 8).trans rfl; have hcz14_9 : w12.cell? ⟨gb771, 9, none⟩ = some (.string (⟨#[]⟩ : ByteArray)) := (blk_cell BK771.out 9).trans rfl; have hcz14_10 : w12.cell? ⟨gb771, 10, none⟩ = some (.slice none 0 0) := (blk_cell BK771.out 10).trans rfl; have hcz14_11 : w12.cell? ⟨gb771, 11, none⟩ = some (.int .i64 0) := (blk_cell BK771.out 11).trans rfl; have hcz14_12 : w12.cell? ⟨gb771, 12, none⟩ = some (.bool false) := (blk_cell BK771.out 12).trans rfl; have hfz14_0 := blk_frozen BK771.out 0; have hfz14_1 := blk_frozen BK771.out 1; have hfz14_2 := blk_frozen BK771.out 2; have hfz14_3 := blk_frozen BK771.out 3; have hfz14_4 := blk_frozen BK771.out 4; have hfz14_5 := blk_frozen BK771.out 5; have hfz14_6 := blk_frozen BK771.out 6; have hfz14_7 := blk_frozen BK771.out 7; have hfz14_8 := blk_frozen BK771.out 8; have hfz14_9 := blk_frozen BK771.out 9; have hfz14_10 := blk_frozen BK771.out 10; have hfz14_11 := blk_frozen BK771.out 11; have hfz14_12 := blk_frozen BK771.out 12))
       go_roundg k1
       case measure => have := HK1.out; omega
       case rel => exact ⟨(x5_1), (wrap64 (x11_1 + 1)), (by first | rfl | (simp; done) | (simp [*]; done)), (by first | rfl | (simp; done) | (simp [*]; done)), H', ⟨by have := HK1.out; omega⟩, ⟨by (with_reducible repeat (first | refine blk_drewN ?_ _ | refine blk_drew ?_ | refine blk_alloc ?_ _)); refine blk_far ?_ NB769_771.out _; (with_reducible repeat (first | refine blk_drewN ?_ _ | refine blk_drew ?_ | refine blk_alloc ?_ _)); refine blk_far ?_ NB769_771.out _; (with_reducible repeat (first | refine blk_drewN ?_ _ | refine blk_drew ?_ | refine blk_alloc ?_ _)); refine blk_far ?_ NB769_771.out _; (with_reducible repeat (first | refine blk_drewN ?_ _ | refine blk_drew ?_ | refine blk_alloc ?_ _)); refine blk_far ?_ NB769_771.out _; (with_reducible repeat (first | refine blk_drewN ?_ _ | refine blk_drew ?_ | refine blk_alloc ?_ _)); refine blk_far ?_ NB769_771.out _; (with_reducible repeat (first | refine blk_drewN ?_ _ | refine blk_drew ?_ | refine blk_alloc ?_ _)); refine blk_far ?_ NB769_771.out _; (with_reducible repeat (first | refine blk_drewN ?_ _ | refine blk_drew ?_ | refine blk_alloc ?_ _)); refine blk_far ?_ NB769_771.out _; (with_reducible repeat (first | refine blk_drewN ?_ _ | refine blk_drew ?_ | refine blk_alloc ?_ _)); refine blk_far ?_ NB769_771.out _; (with_reducible repeat (first | refine blk_drewN ?_ _ | refine blk_drew ?_ | refine blk_alloc ?_ _)); refine blk_far ?_ NB769_771.out _; (with_reducible repeat (first | refine blk_drewN ?_ _ | refine blk_drew ?_ | refine blk_alloc ?_ _)); refine blk_far ?_ NB769_771.out _; (with_reducible repeat (first | refine blk_drewN ?_ _ | refine blk_drew ?_ | refine blk_alloc ?_ _)); refine blk_far ?_ NB769_771.out _; (with_reducible repeat (first | refine blk_drewN ?_ _ | refine blk_drew ?_ | refine blk_alloc ?_ _)); refine blk_far ?_ NB769_771.out _; (with_reducible repeat (first | refine blk_drewN ?_ _ | refine blk_drew ?_ | refine blk_alloc ?_ _)); refine blk_far ?_ NB769_771.out _; (with_reducible repeat (first | refine blk_drewN ?_ _ | refine blk_drew ?_ | refine blk_alloc ?_ _)); exact BK769.out⟩, ⟨by repeat (first | (with_reducible first | exact HB.out | apply below_alloc | apply pw_below_drewN | apply below_drew1 | refine below_set ?_ GE769.out | refine below_set ?_ GE771.out) | exact HB.out)⟩⟩
     ·rw [if_neg c7] at H
      exact absurd H (by simp)
    ·rw [if_neg c6] at H
     exact absurd H (by simp)
   ·rw [if_neg c5] at H
    have c5b0 : decide (x11_1 < (l0_0.length : Int)) = false := decide_eq_false c5
    clear c5
    obtain rfl := Option.some.inj H
    go_wp2
    all_goals (go_ret; exact ⟨by first | rfl | (simp [errW_none, errW_some] <;> rfl) | (simp [*, errW_none, errW_some] <;> rfl), by repeat (first | (with_reducible first | exact HB.out | apply below_alloc | apply pw_below_drewN | apply below_drew1 | refine below_set ?_ GE769.out) | exact HB.out)⟩)

-- NOT PRINTED: function 11 (pannierlaw17_MergeGone)

-- NOT PRINTED: function 13 (pannierlaw17_MergeTwice)

-- NOT PRINTED: function 14 (pannierlaw17_MergeFits)

end Go.Proofs.YtolpamojbiipaaaDoor.XA
