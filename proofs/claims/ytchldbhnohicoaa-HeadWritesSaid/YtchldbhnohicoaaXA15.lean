-- Written by a program of this session (wip/tools/xprint.py) out of the translation's print. Lean checks it.
import Derived.Test.YtchldbhnohicoaaXA0
import Derived.Test.YtchldbhnohicoaaXA1
import Derived.Test.YtchldbhnohicoaaXA8
import Derived.Test.YtchldbhnohicoaaXA9
import Derived.Test.YtchldbhnohicoaaXA12
import Derived.Test.YtchldbhnohicoaaEDecode
import Derived.Test.YtchldbhnohicoaaERefEncode
namespace Go.Proofs.Ytchldbhnohicoaa.XA
open Go.RowKit Go.Proofs.YtchldbhnohicoaaW.PrintWords Go.Proofs.YtchldbhnohicoaaW.PrintLast Go.Proofs.YtchldbhnohicoaaW.PrintMore
attribute [local go_sem] max2_int min2_int max_two min_two max_three min_three max_four min_four   -- for this text's walks alone
set_option linter.unusedVariables false
set_option linter.unusedSimpArgs false

attribute [local go_sem high] eqA25
/-! ### pannierlaw06_HeadWrites: function 4 -/
def pannierlaw06_HeadWrites.j0 : Nat → List Int → Int → Bool → Int → ByteArray → ByteArray → ByteArray → ByteArray → ByteArray → Int → Int → Int → Int → Int → Int → Option (Bool)
 | 0, _, _, _, _, _, _, _, _, _, _, _, _, _, _, _ => none
 | k + 1, x3, x6, x50, x267000, x267001, x267002, x267003, x267004, x267005, x267006, x267007, x267008, x267009, x267010, x267011 => if x50 = true then (some false) else (if x6 = 0 then ((head_Decode.f k x3).bind fun bt286 => (if bt286.2.2.2.2.2.2.2.2.2.2.2.2 = 0 then (some (bt286.1 == 1 && (bt286.2.1.toList == x267001.toList && (bt286.2.2.1.toList == x267002.toList && (bt286.2.2.2.1.toList == x267003.toList && (bt286.2.2.2.2.1.toList == x267004.toList && (bt286.2.2.2.2.2.1.toList == x267005.toList && (bt286.2.2.2.2.2.2.1 == x267006 && (bt286.2.2.2.2.2.2.2.1 == x267007 && (bt286.2.2.2.2.2.2.2.2.1 == x267008 && (bt286.2.2.2.2.2.2.2.2.2.1 == x267009 && (bt286.2.2.2.2.2.2.2.2.2.2.1 == x267010 && (bt286.2.2.2.2.2.2.2.2.2.2.2.1 == x267011))))))))))))) else (some false))) else (some true))
def pannierlaw06_HeadWrites.f (k : Nat) (a0_0 : Int) (a0_1 : ByteArray) (a0_2 : ByteArray) (a0_3 : ByteArray) (a0_4 : ByteArray) (a0_5 : ByteArray) (a0_6 : Int) (a0_7 : Int) (a0_8 : Int) (a0_9 : Int) (a0_10 : Int) (a0_11 : Int) : Option (Bool) := (pannierlaw06_reads.f k).bind fun t267 => (if t267 = true then (if (wrap64 ((wrap64 ((wrap64 ((wrap64 ((a0_1.size : Int) + (a0_2.size : Int))) + (a0_3.size : Int))) + (a0_4.size : Int))) + (a0_5.size : Int))) > 3000 then (some true) else ((head_Encode.f k a0_0 a0_1 a0_2 a0_3 a0_4 a0_5 a0_6 a0_7 a0_8 a0_9 a0_10 a0_11).bind fun bt268 => ((pannierlaw06_plain.f a0_0 a0_1 a0_2 a0_3 a0_4 a0_5 a0_6 a0_7 a0_8 a0_9 a0_10 a0_11).bind fun bt272 => ((pannierref06_Encode.f k bt272.1 bt272.2.1 bt272.2.2.1 bt272.2.2.2.1 bt272.2.2.2.2.1 bt272.2.2.2.2.2.1 bt272.2.2.2.2.2.2.1 bt272.2.2.2.2.2.2.2.1 bt272.2.2.2.2.2.2.2.2.1 bt272.2.2.2.2.2.2.2.2.2.1 bt272.2.2.2.2.2.2.2.2.2.2.1 bt272.2.2.2.2.2.2.2.2.2.2.2).bind fun bt284 => (if bt268.2 = bt284.2 then (pannierlaw06_HeadWrites.j0 k bt268.1 bt284.2 ((strOfNums bt268.1).toList != bt284.1.toList) a0_0 a0_1 a0_2 a0_3 a0_4 a0_5 a0_6 a0_7 a0_8 a0_9 a0_10 a0_11) else (pannierlaw06_HeadWrites.j0 k bt268.1 bt284.2 true a0_0 a0_1 a0_2 a0_3 a0_4 a0_5 a0_6 a0_7 a0_8 a0_9 a0_10 a0_11)))))) else (some false))
theorem pannierlaw06_HeadWrites.mono_l : ∀ k, (∀ y0 y1 y2 y3 y4 y5 y6 y7 y8 y9 y10 y11 y12 y13 y14, LeO (pannierlaw06_HeadWrites.j0 k y0 y1 y2 y3 y4 y5 y6 y7 y8 y9 y10 y11 y12 y13 y14) (pannierlaw06_HeadWrites.j0 (k + 1) y0 y1 y2 y3 y4 y5 y6 y7 y8 y9 y10 y11 y12 y13 y14))
 | 0 => fun _ _ _ _ _ _ _ _ _ _ _ _ _ _ _ r h => by simp [pannierlaw06_HeadWrites.j0] at h
 | k + 1 => by
  have ih0 := pannierlaw06_HeadWrites.mono_l k
  ·intro y0 y1 y2 y3 y4 y5 y6 y7 y8 y9 y10 y11 y12 y13 y14
   unfold pannierlaw06_HeadWrites.j0
   repeat' first
   | (with_reducible exact ih0 _ _ _ _ _ _ _ _ _ _ _ _ _ _ _)
   | (with_reducible exact head_Decode.mono _ _)
   | (with_reducible exact head_Encode.mono _ _ _ _ _ _ _ _ _ _ _ _ _)
   | (with_reducible exact pannierlaw06_reads.mono _)
   | (with_reducible exact pannierref06_Encode.mono _ _ _ _ _ _ _ _ _ _ _ _ _)
   | (with_reducible exact LeO.refl _)
   | (with_reducible exact LeO.none _)
   | (with_reducible refine LeO.ite ?_ ?_)
   | (with_reducible refine LeO.bind ?_ (fun _ => ?_))
   | exact ih0 _ _ _ _ _ _ _ _ _ _ _ _ _ _ _
   | exact head_Decode.mono _ _
   | exact head_Encode.mono _ _ _ _ _ _ _ _ _ _ _ _ _
   | exact pannierlaw06_reads.mono _
   | exact pannierref06_Encode.mono _ _ _ _ _ _ _ _ _ _ _ _ _
   | exact LeO.none _
   | refine LeO.ite ?_ ?_
   | refine LeO.bind ?_ (fun _ => ?_)
theorem pannierlaw06_HeadWrites.mono : ∀ a0 a1 a2 a3 a4 a5 a6 a7 a8 a9 a10 a11 k, LeO (pannierlaw06_HeadWrites.f k a0 a1 a2 a3 a4 a5 a6 a7 a8 a9 a10 a11) (pannierlaw06_HeadWrites.f (k + 1) a0 a1 a2 a3 a4 a5 a6 a7 a8 a9 a10 a11) := by
 intro a0 a1 a2 a3 a4 a5 a6 a7 a8 a9 a10 a11 k
 have ih0 := pannierlaw06_HeadWrites.mono_l k
 unfold pannierlaw06_HeadWrites.f
 repeat' first
   | (with_reducible exact ih0 _ _ _ _ _ _ _ _ _ _ _ _ _ _ _)
   | (with_reducible exact head_Decode.mono _ _)
   | (with_reducible exact head_Encode.mono _ _ _ _ _ _ _ _ _ _ _ _ _)
   | (with_reducible exact pannierlaw06_reads.mono _)
   | (with_reducible exact pannierref06_Encode.mono _ _ _ _ _ _ _ _ _ _ _ _ _)
   | (with_reducible exact LeO.refl _)
   | (with_reducible exact LeO.none _)
   | (with_reducible refine LeO.ite ?_ ?_)
   | (with_reducible refine LeO.bind ?_ (fun _ => ?_))
   | exact ih0 _ _ _ _ _ _ _ _ _ _ _ _ _ _ _
   | exact head_Decode.mono _ _
   | exact head_Encode.mono _ _ _ _ _ _ _ _ _ _ _ _ _
   | exact pannierlaw06_reads.mono _
   | exact pannierref06_Encode.mono _ _ _ _ _ _ _ _ _ _ _ _ _
   | exact LeO.none _
   | refine LeO.ite ?_ ?_
   | refine LeO.bind ?_ (fun _ => ?_)
set_option maxHeartbeats 8000000 in
set_option maxRecDepth 100000 in
theorem pannierlaw06_HeadWrites.calls (k : Nat) (a0_0 : Int) (a0_1 : ByteArray) (a0_2 : ByteArray) (a0_3 : ByteArray) (a0_4 : ByteArray) (a0_5 : ByteArray) (a0_6 : Int) (a0_7 : Int) (a0_8 : Int) (a0_9 : Int) (a0_10 : Int) (a0_11 : Int) (r : Bool) (w : World) (h : pannierlaw06_HeadWrites.f k a0_0 a0_1 a0_2 a0_3 a0_4 a0_5 a0_6 a0_7 a0_8 a0_9 a0_10 a0_11 = some r) :
  Calls Try.prog 4 #[.agg #[.int .i64 a0_0, .string a0_1, .string a0_2, .string a0_3, .string a0_4, .string a0_5, .int .u8 a0_6, .int .i64 a0_7, .int .i64 a0_8, .int .i64 a0_9, .int .i64 a0_10, .int .i64 a0_11]] w fun e w' => e = .returned (.bool r) ∧ Below w.heap.size w w' := by
 have hu25 := Try.underlying25
 have HB := Aside0.mk (Below.refl w.heap.size w)
 have H : ((pannierlaw06_reads.f k).bind fun t267 => (if t267 = true then (if (wrap64 ((wrap64 ((wrap64 ((wrap64 ((a0_1.size : Int) + (a0_2.size : Int))) + (a0_3.size : Int))) + (a0_4.size : Int))) + (a0_5.size : Int))) > 3000 then (some true) else ((head_Encode.f k a0_0 a0_1 a0_2 a0_3 a0_4 a0_5 a0_6 a0_7 a0_8 a0_9 a0_10 a0_11).bind fun bt268 => ((pannierlaw06_plain.f a0_0 a0_1 a0_2 a0_3 a0_4 a0_5 a0_6 a0_7 a0_8 a0_9 a0_10 a0_11).bind fun bt272 => ((pannierref06_Encode.f k bt272.1 bt272.2.1 bt272.2.2.1 bt272.2.2.2.1 bt272.2.2.2.2.1 bt272.2.2.2.2.2.1 bt272.2.2.2.2.2.2.1 bt272.2.2.2.2.2.2.2.1 bt272.2.2.2.2.2.2.2.2.1 bt272.2.2.2.2.2.2.2.2.2.1 bt272.2.2.2.2.2.2.2.2.2.2.1 bt272.2.2.2.2.2.2.2.2.2.2.2).bind fun bt284 => (if bt268.2 = bt284.2 then (pannierlaw06_HeadWrites.j0 k bt268.1 bt284.2 ((strOfNums bt268.1).toList != bt284.1.toList) a0_0 a0_1 a0_2 a0_3 a0_4 a0_5 a0_6 a0_7 a0_8 a0_9 a0_10 a0_11) else (pannierlaw06_HeadWrites.j0 k bt268.1 bt284.2 true a0_0 a0_1 a0_2 a0_3 a0_4 a0_5 a0_6 a0_7 a0_8 a0_9 a0_10 a0_11)))))) else (some false))) = some r := h
 clear h
 replace H := Option.bind_eq_some_iff.mp H
 obtain ⟨t267, A20, H⟩ := H
 replace H : (if t267 = true then (if (wrap64 ((wrap64 ((wrap64 ((wrap64 ((a0_1.size : Int) + (a0_2.size : Int))) + (a0_3.size : Int))) + (a0_4.size : Int))) + (a0_5.size : Int))) > 3000 then (some true) else ((head_Encode.f k a0_0 a0_1 a0_2 a0_3 a0_4 a0_5 a0_6 a0_7 a0_8 a0_9 a0_10 a0_11).bind fun bt268 => ((pannierlaw06_plain.f a0_0 a0_1 a0_2 a0_3 a0_4 a0_5 a0_6 a0_7 a0_8 a0_9 a0_10 a0_11).bind fun bt272 => ((pannierref06_Encode.f k bt272.1 bt272.2.1 bt272.2.2.1 bt272.2.2.2.1 bt272.2.2.2.2.1 bt272.2.2.2.2.2.1 bt272.2.2.2.2.2.2.1 bt272.2.2.2.2.2.2.2.1 bt272.2.2.2.2.2.2.2.2.1 bt272.2.2.2.2.2.2.2.2.2.1 bt272.2.2.2.2.2.2.2.2.2.2.1 bt272.2.2.2.2.2.2.2.2.2.2.2).bind fun bt284 => (if bt268.2 = bt284.2 then (pannierlaw06_HeadWrites.j0 k bt268.1 bt284.2 ((strOfNums bt268.1).toList != bt284.1.toList) a0_0 a0_1 a0_2 a0_3 a0_4 a0_5 a0_6 a0_7 a0_8 a0_9 a0_10 a0_11) else (pannierlaw06_HeadWrites.j0 k bt268.1 bt284.2 true a0_0 a0_1 a0_2 a0_3 a0_4 a0_5 a0_6 a0_7 a0_8 a0_9 a0_10 a0_11)))))) else (some false)) = some r := H
 have A2 := Aside0.mk A20
 clear A20
 by_cases c3 : t267 = true
 ·subst c3
  have H1 : (if (wrap64 ((wrap64 ((wrap64 ((wrap64 ((a0_1.size : Int) + (a0_2.size : Int))) + (a0_3.size : Int))) + (a0_4.size : Int))) + (a0_5.size : Int))) > 3000 then (some true) else ((head_Encode.f k a0_0 a0_1 a0_2 a0_3 a0_4 a0_5 a0_6 a0_7 a0_8 a0_9 a0_10 a0_11).bind fun bt268 => ((pannierlaw06_plain.f a0_0 a0_1 a0_2 a0_3 a0_4 a0_5 a0_6 a0_7 a0_8 a0_9 a0_10 a0_11).bind fun bt272 => ((pannierref06_Encode.f k bt272.1 bt272.2.1 bt272.2.2.1 bt272.2.2.2.1 bt272.2.2.2.2.1 bt272.2.2.2.2.2.1 bt272.2.2.2.2.2.2.1 bt272.2.2.2.2.2.2.2.1 bt272.2.2.2.2.2.2.2.2.1 bt272.2.2.2.2.2.2.2.2.2.1 bt272.2.2.2.2.2.2.2.2.2.2.1 bt272.2.2.2.2.2.2.2.2.2.2.2).bind fun bt284 => (if bt268.2 = bt284.2 then (pannierlaw06_HeadWrites.j0 k bt268.1 bt284.2 ((strOfNums bt268.1).toList != bt284.1.toList) a0_0 a0_1 a0_2 a0_3 a0_4 a0_5 a0_6 a0_7 a0_8 a0_9 a0_10 a0_11) else (pannierlaw06_HeadWrites.j0 k bt268.1 bt284.2 true a0_0 a0_1 a0_2 a0_3 a0_4 a0_5 a0_6 a0_7 a0_8 a0_9 a0_10 a0_11)))))) = some r := by rw [if_pos rfl] at H; exact H
  clear H
  have H := H1
  clear H1
  by_cases c4 : (wrap64 ((wrap64 ((wrap64 ((wrap64 ((a0_1.size : Int) + (a0_2.size : Int))) + (a0_3.size : Int))) + (a0_4.size : Int))) + (a0_5.size : Int))) > 3000
  ·rw [if_pos c4] at H
   have c4b0 : decide (3000 < (wrap64 ((wrap64 ((wrap64 ((wrap64 ((a0_1.size : Int) + (a0_2.size : Int))) + (a0_3.size : Int))) + (a0_4.size : Int))) + (a0_5.size : Int)))) = true := decide_eq_true c4
   clear c4
   obtain rfl := Option.some.inj H
   go_enter Try.func4, Try.ntmps4
   go_wp2_with (first | ((with_reducible refine gate_dst (N := 1) rfl ?_); refine box_event ?hg (N := 1) ?hd (cs := #[.int .i64 a0_0, .string a0_1, .string a0_2, .string a0_3, .string a0_4, .string a0_5, .int .u8 a0_6, .int .i64 a0_7, .int .i64 a0_8, .int .i64 a0_9, .int .i64 a0_10, .int .i64 a0_11]) (t := 25) ?hr ?_; (case hd => rfl); (case hg => rfl); (case hr => first | (go_simp; done) | (go_simp; rfl)); intro gb266 hg w5 hbox hb; have n0_ := Aside0.mk (below_step (by repeat (first | (with_reducible first | exact HB.out | apply below_alloc | apply pw_below_drewN | apply below_drew1) | exact HB.out)) hb); have n1_ := Aside0.mk (hbox); have n2_ := Aside0.mk ((by rw [hg]; exact (below_size (by repeat (first | (with_reducible first | exact HB.out | apply below_alloc | apply pw_below_drewN | apply below_drew1) | exact HB.out))) : w.heap.size ≤ gb266)); have n3_ := Aside0.mk ((by rw [hg]; exact (below_size (by repeat (first | (with_reducible first | exact HB.out | apply below_alloc | apply pw_below_drewN | apply below_drew1) | exact HB.out))) : w.heap.size ≤ gb266)); clear HB; have HB := n0_; have BK266 := n1_; have GW266 := n2_; have GE266 := n3_; clear n0_ n1_ n2_ n3_; clear hb hbox hg) | ((with_reducible refine gate_callee (f := 10) rfl ?_); refine goesL_ (some 9) rfl rfl Try.func10 (by kernel_rfl) rfl #[] rfl (by (try simp only [List.map_toArray, List.map_cons, List.map_nil]); first | done | rfl | (simp only [List.length_drop, List.length_take]; rfl)) ?_; (with_reducible refine (pannierlaw06_reads.calls k  true _ A2.out).mono ?_); rintro e w6 ⟨rfl, hb⟩; refine ⟨_, rfl, ?_⟩; have n0_ := Aside0.mk (blk_below (g := gb266) (o := .cells #[.int .i64 a0_0, .string a0_1, .string a0_2, .string a0_3, .string a0_4, .string a0_5, .int .u8 a0_6, .int .i64 a0_7, .int .i64 a0_8, .int .i64 a0_9, .int .i64 a0_10, .int .i64 a0_11] 25 (0, 0)) (by (with_reducible repeat (first | refine blk_drewN ?_ _ | refine blk_drew ?_ | refine blk_alloc ?_ _)); exact BK266.out) hb); have n1_ := Aside0.mk (below_step (by repeat (first | (with_reducible first | exact HB.out | apply below_alloc | apply pw_below_drewN | apply below_drew1 | refine below_set ?_ GE266.out) | exact HB.out)) hb); clear BK266; clear HB; have BK266 := n0_; have HB := n1_; clear n0_ n1_; (try clear hb); (try clear hb2); (try clear hk); (try clear hi); have hcz7_0 : w6.cell? ⟨gb266, 0, none⟩ = some (.int .i64 a0_0) := (blk_cell BK266.out 0).trans rfl; have hcz7_1 : w6.cell? ⟨gb266, 1, none⟩ = some (.string a0_1) := (blk_cell BK266.out 1).trans rfl; have hcz7_2 : w6.cell? ⟨gb266, 2, none⟩ = some (.string a0_2) := (blk_cell BK266.out 2).trans rfl; have hcz7_3 : w6.cell? ⟨gb266, 3, none⟩ = some (.string a0_3) := (blk_cell BK266.out 3).trans rfl; have hcz7_4 : w6.cell? ⟨gb266, 4, none⟩ = some (.string a0_4) := (blk_cell BK266.out 4).trans rfl; have hcz7_5 : w6.cell? ⟨gb266, 5, none⟩ = some (.string a0_5) := (blk_cell BK266.out 5).trans rfl; have hcz7_6 : w6.cell? ⟨gb266, 6, none⟩ = some (.int .u8 a0_6) := (blk_cell BK266.out 6).trans rfl; have hcz7_7 : w6.cell? ⟨gb266, 7, none⟩ = some (.int .i64 a0_7) := (blk_cell BK266.out 7).trans rfl; have hcz7_8 : w6.cell? ⟨gb266, 8, none⟩ = some (.int .i64 a0_8) := (blk_cell BK266.out 8).trans rfl; have hcz7_9 : w6.cell? ⟨gb266, 9, none⟩ = some (.int .i64 a0_9) := (blk_cell BK266.out 9).trans rfl; have hcz7_10 : w6.cell? ⟨gb266, 10, none⟩ = some (.int .i64 a0_10) := (blk_cell BK266.out 10).trans rfl; have hcz7_11 : w6.cell? ⟨gb266, 11, none⟩ = some (.int .i64 a0_11) := (blk_cell BK266.out 11).trans rfl; have hfz7_0 := blk_frozen BK266.out 0; have hfz7_1 := blk_frozen BK266.out 1; have hfz7_2 := blk_frozen BK266.out 2; have hfz7_3 := blk_frozen BK266.out 3; have hfz7_4 := blk_frozen BK266.out 4; have hfz7_5 := blk_frozen BK266.out 5; have hfz7_6 := blk_frozen BK266.out 6; have hfz7_7 := blk_frozen BK266.out 7; have hfz7_8 := blk_frozen BK266.out 8; have hfz7_9 := blk_frozen BK266.out 9; have hfz7_10 := blk_frozen BK266.out 10; have hfz7_11 := blk_frozen BK266.out 11))
   go_ret
   exact ⟨by first | rfl | (simp [errW_none, errW_some] <;> rfl) | (simp [*, errW_none, errW_some] <;> rfl), by repeat (first | (with_reducible first | exact HB.out | apply below_alloc | apply pw_below_drewN | apply below_drew1 | refine below_set ?_ GE266.out) | exact HB.out)⟩
  ·rw [if_neg c4] at H
   have c4b0 : decide (3000 < (wrap64 ((wrap64 ((wrap64 ((wrap64 ((a0_1.size : Int) + (a0_2.size : Int))) + (a0_3.size : Int))) + (a0_4.size : Int))) + (a0_5.size : Int)))) = false := decide_eq_false c4
   clear c4
   replace H := Option.bind_eq_some_iff.mp H
   obtain ⟨⟨t268, t271⟩, A80, H⟩ := H
   replace H : ((pannierlaw06_plain.f a0_0 a0_1 a0_2 a0_3 a0_4 a0_5 a0_6 a0_7 a0_8 a0_9 a0_10 a0_11).bind fun bt272 => ((pannierref06_Encode.f k bt272.1 bt272.2.1 bt272.2.2.1 bt272.2.2.2.1 bt272.2.2.2.2.1 bt272.2.2.2.2.2.1 bt272.2.2.2.2.2.2.1 bt272.2.2.2.2.2.2.2.1 bt272.2.2.2.2.2.2.2.2.1 bt272.2.2.2.2.2.2.2.2.2.1 bt272.2.2.2.2.2.2.2.2.2.2.1 bt272.2.2.2.2.2.2.2.2.2.2.2).bind fun bt284 => (if t271 = bt284.2 then (pannierlaw06_HeadWrites.j0 k t268 bt284.2 ((strOfNums t268).toList != bt284.1.toList) a0_0 a0_1 a0_2 a0_3 a0_4 a0_5 a0_6 a0_7 a0_8 a0_9 a0_10 a0_11) else (pannierlaw06_HeadWrites.j0 k t268 bt284.2 true a0_0 a0_1 a0_2 a0_3 a0_4 a0_5 a0_6 a0_7 a0_8 a0_9 a0_10 a0_11)))) = some r := H
   have A8 := Aside0.mk A80
   clear A80
   replace H := Option.bind_eq_some_iff.mp H
   obtain ⟨⟨t272, t273, t274, t275, t276, t277, t278, t279, t280, t281, t282, t283⟩, A90, H⟩ := H
   replace H : ((pannierref06_Encode.f k t272 t273 t274 t275 t276 t277 t278 t279 t280 t281 t282 t283).bind fun bt284 => (if t271 = bt284.2 then (pannierlaw06_HeadWrites.j0 k t268 bt284.2 ((strOfNums t268).toList != bt284.1.toList) a0_0 a0_1 a0_2 a0_3 a0_4 a0_5 a0_6 a0_7 a0_8 a0_9 a0_10 a0_11) else (pannierlaw06_HeadWrites.j0 k t268 bt284.2 true a0_0 a0_1 a0_2 a0_3 a0_4 a0_5 a0_6 a0_7 a0_8 a0_9 a0_10 a0_11))) = some r := H
   have A9 := Aside0.mk A90
   clear A90
   replace H := Option.bind_eq_some_iff.mp H
   obtain ⟨⟨t284, t285⟩, A100, H⟩ := H
   replace H : (if t271 = t285 then (pannierlaw06_HeadWrites.j0 k t268 t285 ((strOfNums t268).toList != t284.toList) a0_0 a0_1 a0_2 a0_3 a0_4 a0_5 a0_6 a0_7 a0_8 a0_9 a0_10 a0_11) else (pannierlaw06_HeadWrites.j0 k t268 t285 true a0_0 a0_1 a0_2 a0_3 a0_4 a0_5 a0_6 a0_7 a0_8 a0_9 a0_10 a0_11)) = some r := H
   have A10 := Aside0.mk A100
   clear A100
   have HC11 := Aside0.mk H
   clear H
   go_enter Try.func4, Try.ntmps4
   go_upto_region 7 with (first | ((with_reducible refine gate_dst (N := 1) rfl ?_); refine box_event ?hg (N := 1) ?hd (cs := #[.int .i64 a0_0, .string a0_1, .string a0_2, .string a0_3, .string a0_4, .string a0_5, .int .u8 a0_6, .int .i64 a0_7, .int .i64 a0_8, .int .i64 a0_9, .int .i64 a0_10, .int .i64 a0_11]) (t := 25) ?hr ?_; (case hd => rfl); (case hg => rfl); (case hr => first | (go_simp; done) | (go_simp; rfl)); intro gb266 hg w12 hbox hb; have n0_ := Aside0.mk (below_step (by repeat (first | (with_reducible first | exact HB.out | apply below_alloc | apply pw_below_drewN | apply below_drew1) | exact HB.out)) hb); have n1_ := Aside0.mk (hbox); have n2_ := Aside0.mk ((by rw [hg]; exact (below_size (by repeat (first | (with_reducible first | exact HB.out | apply below_alloc | apply pw_below_drewN | apply below_drew1) | exact HB.out))) : w.heap.size ≤ gb266)); have n3_ := Aside0.mk ((by rw [hg]; exact (below_size (by repeat (first | (with_reducible first | exact HB.out | apply below_alloc | apply pw_below_drewN | apply below_drew1) | exact HB.out))) : w.heap.size ≤ gb266)); clear HB; have HB := n0_; have BK266 := n1_; have GW266 := n2_; have GE266 := n3_; clear n0_ n1_ n2_ n3_; clear hb hbox hg) | ((with_reducible refine gate_callee (f := 10) rfl ?_); refine goesL_ (some 9) rfl rfl Try.func10 (by kernel_rfl) rfl #[] rfl (by (try simp only [List.map_toArray, List.map_cons, List.map_nil]); first | done | rfl | (simp only [List.length_drop, List.length_take]; rfl)) ?_; (with_reducible refine (pannierlaw06_reads.calls k  true _ A2.out).mono ?_); rintro e w13 ⟨rfl, hb⟩; refine ⟨_, rfl, ?_⟩; have n0_ := Aside0.mk (blk_below (g := gb266) (o := .cells #[.int .i64 a0_0, .string a0_1, .string a0_2, .string a0_3, .string a0_4, .string a0_5, .int .u8 a0_6, .int .i64 a0_7, .int .i64 a0_8, .int .i64 a0_9, .int .i64 a0_10, .int .i64 a0_11] 25 (0, 0)) (by (with_reducible repeat (first | refine blk_drewN ?_ _ | refine blk_drew ?_ | refine blk_alloc ?_ _)); exact BK266.out) hb); have n1_ := Aside0.mk (below_step (by repeat (first | (with_reducible first | exact HB.out | apply below_alloc | apply pw_below_drewN | apply below_drew1 | refine below_set ?_ GE266.out) | exact HB.out)) hb); clear BK266; clear HB; have BK266 := n0_; have HB := n1_; clear n0_ n1_; (try clear hb); (try clear hb2); (try clear hk); (try clear hi); have hcz14_0 : w13.cell? ⟨gb266, 0, none⟩ = some (.int .i64 a0_0) := (blk_cell BK266.out 0).trans rfl; have hcz14_1 : w13.cell? ⟨gb266, 1, none⟩ = some (.string a0_1) := (blk_cell BK266.out 1).trans rfl; have hcz14_2 : w13.cell? ⟨gb266, 2, none⟩ = some (.string a0_2) := (blk_cell BK266.out 2).trans rfl; have hcz14_3 : w13.cell? ⟨gb266, 3, none⟩ = some (.string a0_3) := (blk_cell BK266.out 3).trans rfl; have hcz14_4 : w13.cell? ⟨gb266, 4, none⟩ = some (.string a0_4) := (blk_cell BK266.out 4).trans rfl; have hcz14_5 : w13.cell? ⟨gb266, 5, none⟩ = some (.string a0_5) := (blk_cell BK266.out 5).trans rfl; have hcz14_6 : w13.cell? ⟨gb266, 6, none⟩ = some (.int .u8 a0_6) := (blk_cell BK266.out 6).trans rfl; have hcz14_7 : w13.cell? ⟨gb266, 7, none⟩ = some (.int .i64 a0_7) := (blk_cell BK266.out 7).trans rfl; have hcz14_8 : w13.cell? ⟨gb266, 8, none⟩ = some (.int .i64 a0_8) := (blk_cell BK266.out 8).trans rfl; have hcz14_9 : w13.cell? ⟨gb266, 9, none⟩ = some (.int .i64 a0_9) := (blk_cell BK266.out 9).trans rfl; have hcz14_10 : w13.cell? ⟨gb266, 10, none⟩ = some (.int .i64 a0_10) := (blk_cell BK266.out 10).trans rfl; have hcz14_11 : w13.cell? ⟨gb266, 11, none⟩ = some (.int .i64 a0_11) := (blk_cell BK266.out 11).trans rfl; have hfz14_0 := blk_frozen BK266.out 0; have hfz14_1 := blk_frozen BK266.out 1; have hfz14_2 := blk_frozen BK266.out 2; have hfz14_3 := blk_frozen BK266.out 3; have hfz14_4 := blk_frozen BK266.out 4; have hfz14_5 := blk_frozen BK266.out 5; have hfz14_6 := blk_frozen BK266.out 6; have hfz14_7 := blk_frozen BK266.out 7; have hfz14_8 := blk_frozen BK266.out 8; have hfz14_9 := blk_frozen BK266.out 9; have hfz14_10 := blk_frozen BK266.out 10; have hfz14_11 := blk_frozen BK266.out 11) | ((with_reducible refine gate_callee (f := 15) rfl ?_); refine goesL_ (some 33) rfl rfl Try.func15 (by kernel_rfl) rfl #[.agg #[.int .i64 a0_0, .string a0_1, .string a0_2, .string a0_3, .string a0_4, .string a0_5, .int .u8 a0_6, .int .i64 a0_7, .int .i64 a0_8, .int .i64 a0_9, .int .i64 a0_10, .int .i64 a0_11]] rfl (by (try simp only [List.map_toArray, List.map_cons, List.map_nil]); first | done | rfl | (simp only [List.length_drop, List.length_take]; rfl)) ?_; (with_reducible refine (head_Encode.calls k a0_0 a0_1 a0_2 a0_3 a0_4 a0_5 a0_6 a0_7 a0_8 a0_9 a0_10 a0_11 t268 t271 _ A8.out).mono ?_); rintro e w15 ⟨v269, rfl, ho0, hb⟩; refine ⟨_, rfl, ?_⟩; have n0_ := Aside0.mk (Kd.R_lower ho0 (below_size (by repeat (first | (with_reducible first | exact HB.out | apply below_alloc | apply pw_below_drewN | apply below_drew1 | refine below_set ?_ GE266.out) | exact HB.out)))); have n1_ := Aside0.mk (blk_below (g := gb266) (o := .cells #[.int .i64 a0_0, .string a0_1, .string a0_2, .string a0_3, .string a0_4, .string a0_5, .int .u8 a0_6, .int .i64 a0_7, .int .i64 a0_8, .int .i64 a0_9, .int .i64 a0_10, .int .i64 a0_11] 25 (0, 0)) (by (with_reducible repeat (first | refine blk_drewN ?_ _ | refine blk_drew ?_ | refine blk_alloc ?_ _)); exact BK266.out) hb); have n2_ := Aside0.mk (below_step (by repeat (first | (with_reducible first | exact HB.out | apply below_alloc | apply pw_below_drewN | apply below_drew1 | refine below_set ?_ GE266.out) | exact HB.out)) hb); clear BK266; clear HB; have HO270 := n0_; have BK266 := n1_; have HB := n2_; clear n0_ n1_ n2_; (try clear hb); (try clear hb2); (try clear hk); (try clear hi); (try clear ho0); have hcz16_0 : w15.cell? ⟨gb266, 0, none⟩ = some (.int .i64 a0_0) := (blk_cell BK266.out 0).trans rfl; have hcz16_1 : w15.cell? ⟨gb266, 1, none⟩ = some (.string a0_1) := (blk_cell BK266.out 1).trans rfl; have hcz16_2 : w15.cell? ⟨gb266, 2, none⟩ = some (.string a0_2) := (blk_cell BK266.out 2).trans rfl; have hcz16_3 : w15.cell? ⟨gb266, 3, none⟩ = some (.string a0_3) := (blk_cell BK266.out 3).trans rfl; have hcz16_4 : w15.cell? ⟨gb266, 4, none⟩ = some (.string a0_4) := (blk_cell BK266.out 4).trans rfl; have hcz16_5 : w15.cell? ⟨gb266, 5, none⟩ = some (.string a0_5) := (blk_cell BK266.out 5).trans rfl; have hcz16_6 : w15.cell? ⟨gb266, 6, none⟩ = some (.int .u8 a0_6) := (blk_cell BK266.out 6).trans rfl; have hcz16_7 : w15.cell? ⟨gb266, 7, none⟩ = some (.int .i64 a0_7) := (blk_cell BK266.out 7).trans rfl; have hcz16_8 : w15.cell? ⟨gb266, 8, none⟩ = some (.int .i64 a0_8) := (blk_cell BK266.out 8).trans rfl; have hcz16_9 : w15.cell? ⟨gb266, 9, none⟩ = some (.int .i64 a0_9) := (blk_cell BK266.out 9).trans rfl; have hcz16_10 : w15.cell? ⟨gb266, 10, none⟩ = some (.int .i64 a0_10) := (blk_cell BK266.out 10).trans rfl; have hcz16_11 : w15.cell? ⟨gb266, 11, none⟩ = some (.int .i64 a0_11) := (blk_cell BK266.out 11).trans rfl; have hfz16_0 := blk_frozen BK266.out 0; have hfz16_1 := blk_frozen BK266.out 1; have hfz16_2 := blk_frozen BK266.out 2; have hfz16_3 := blk_frozen BK266.out 3; have hfz16_4 := blk_frozen BK266.out 4; have hfz16_5 := blk_frozen BK266.out 5; have hfz16_6 := blk_frozen BK266.out 6; have hfz16_7 := blk_frozen BK266.out 7; have hfz16_8 := blk_frozen BK266.out 8; have hfz16_9 := blk_frozen BK266.out 9; have hfz16_10 := blk_frozen BK266.out 10; have hfz16_11 := blk_frozen BK266.out 11) | ((with_reducible refine gate_callee (f := 13) rfl ?_); refine goesL_ (some 38) rfl rfl Try.func13 (by kernel_rfl) rfl #[.agg #[.int .i64 a0_0, .string a0_1, .string a0_2, .string a0_3, .string a0_4, .string a0_5, .int .u8 a0_6, .int .i64 a0_7, .int .i64 a0_8, .int .i64 a0_9, .int .i64 a0_10, .int .i64 a0_11]] rfl (by (try simp only [List.map_toArray, List.map_cons, List.map_nil]); first | done | rfl | (simp only [List.length_drop, List.length_take]; rfl)) ?_; (with_reducible refine (pannierlaw06_plain.calls a0_0 a0_1 a0_2 a0_3 a0_4 a0_5 a0_6 a0_7 a0_8 a0_9 a0_10 a0_11 t272 t273 t274 t275 t276 t277 t278 t279 t280 t281 t282 t283 _ A9.out).mono ?_); rintro e w17 ⟨rfl, hb⟩; refine ⟨_, rfl, ?_⟩; have n0_ := Aside0.mk (Kd.R_below (by (with_reducible repeat (first | apply Kd.R_alloc | apply Kd.R_drewN | apply Kd.R_drew)); exact HO270.out) hb); have n1_ := Aside0.mk (blk_below (g := gb266) (o := .cells #[.int .i64 a0_0, .string a0_1, .string a0_2, .string a0_3, .string a0_4, .string a0_5, .int .u8 a0_6, .int .i64 a0_7, .int .i64 a0_8, .int .i64 a0_9, .int .i64 a0_10, .int .i64 a0_11] 25 (0, 0)) (by (with_reducible repeat (first | refine blk_drewN ?_ _ | refine blk_drew ?_ | refine blk_alloc ?_ _)); exact BK266.out) hb); have n2_ := Aside0.mk (below_step (by repeat (first | (with_reducible first | exact HB.out | apply below_alloc | apply pw_below_drewN | apply below_drew1 | refine below_set ?_ GE266.out) | exact HB.out)) hb); clear HO270; clear BK266; clear HB; have HO270 := n0_; have BK266 := n1_; have HB := n2_; clear n0_ n1_ n2_; (try clear hb); (try clear hb2); (try clear hk); (try clear hi)) | ((with_reducible refine gate_callee (f := 16) rfl ?_); refine goesL_ (some 39) rfl rfl Try.func16 (by kernel_rfl) rfl #[.agg #[.int .i64 t272, .int .u8 t273, .string t274, .string t275, .string t276, .string t277, .string t278, .int .i64 t279, .int .i64 t280, .int .i64 t281, .int .i64 t282, .int .i64 t283]] rfl (by (try simp only [List.map_toArray, List.map_cons, List.map_nil]); first | done | rfl | (simp only [List.length_drop, List.length_take]; rfl)) ?_; (with_reducible refine (pannierref06_Encode.calls k t272 t273 t274 t275 t276 t277 t278 t279 t280 t281 t282 t283 t284 t285 _ A10.out).mono ?_); rintro e w18 ⟨rfl, hb⟩; refine ⟨_, rfl, ?_⟩; have n0_ := Aside0.mk (Kd.R_below (by (with_reducible repeat (first | apply Kd.R_alloc | apply Kd.R_drewN | apply Kd.R_drew)); exact HO270.out) hb); have n1_ := Aside0.mk (blk_below (g := gb266) (o := .cells #[.int .i64 a0_0, .string a0_1, .string a0_2, .string a0_3, .string a0_4, .string a0_5, .int .u8 a0_6, .int .i64 a0_7, .int .i64 a0_8, .int .i64 a0_9, .int .i64 a0_10, .int .i64 a0_11] 25 (0, 0)) (by (with_reducible repeat (first | refine blk_drewN ?_ _ | refine blk_drew ?_ | refine blk_alloc ?_ _)); exact BK266.out) hb); have n2_ := Aside0.mk (below_step (by repeat (first | (with_reducible first | exact HB.out | apply below_alloc | apply pw_below_drewN | apply below_drew1 | refine below_set ?_ GE266.out) | exact HB.out)) hb); clear HO270; clear BK266; clear HB; have HO270 := n0_; have BK266 := n1_; have HB := n2_; clear n0_ n1_ n2_; (try clear hb); (try clear hb2); (try clear hk); (try clear hi)))
   (try simp only [Act.put, List.setIfInBounds_toArray, List.set_cons_zero, List.set_cons_succ])
   go_cut [50] (fun v50 wc => ∃ (kq : Nat) (x50_10 : Bool), v50 = .bool x50_10 ∧ Aside0 (pannierlaw06_HeadWrites.j0 kq t268 t285 x50_10 a0_0 a0_1 a0_2 a0_3 a0_4 a0_5 a0_6 a0_7 a0_8 a0_9 a0_10 a0_11 = some r) ∧ Aside0 (kq ≤ k) ∧ Aside0 (Kd.R (Kd.int .u8) 5 wc w.heap.size (fun _ => True) v269 t268) ∧ Aside0 (wc.heap[gb266]? = some (.cells #[.int .i64 a0_0, .string a0_1, .string a0_2, .string a0_3, .string a0_4, .string a0_5, .int .u8 a0_6, .int .i64 a0_7, .int .i64 a0_8, .int .i64 a0_9, .int .i64 a0_10, .int .i64 a0_11] 25 (0, 0))) ∧ Aside0 (Below w.heap.size w wc))
   case first =>
    have H := HC11.out
    clear HC11
    by_cases c19 : t271 = t285
    ·rw [if_pos c19] at H
     have c19b0 : (t271 == t285) = true := beq_iff_eq.mpr c19
     have c19b1 : (t271 != t285) = false := bne_eq_false_iff_eq.mpr c19
     clear c19
     (first | rw [c19b0] | (simp only [i64_w, i32_w]; rw [c19b0]) | skip)
     have H' := Aside0.mk H
     clear H
     have hcv20 := own_string (P := Try.prog) Try.underlying22 Try.underlying5 Try.underlying9 (Kd.own_of_R HO270.out)
     have hcv21 := fun (m_ : Nat) => own_string (P := Try.prog) Try.underlying22 Try.underlying5 Try.underlying9 (Kd.own_of_R (Kd.R_drewN HO270.out m_))
     go_wp2
     go_meet
     case rel => exact ⟨_, (((strOfNums t268).toList != t284.toList)), (by first | rfl | (simp; done) | (simp [*]; done)), H', ⟨by first | omega | exact Nat.le_refl _⟩, ⟨by (with_reducible repeat (first | apply Kd.R_alloc | apply Kd.R_drewN | apply Kd.R_drew)); exact HO270.out⟩, ⟨by (with_reducible repeat (first | refine blk_drewN ?_ _ | refine blk_drew ?_ | refine blk_alloc ?_ _)); exact BK266.out⟩, ⟨by repeat (first | (with_reducible first | exact HB.out | apply below_alloc | apply pw_below_drewN | apply below_drew1 | refine below_set ?_ GE266.out) | exact HB.out)⟩⟩
    ·rw [if_neg c19] at H
     have c19b0 : (t271 == t285) = false := beq_eq_false_iff_ne.mpr c19
     have c19b1 : (t271 != t285) = true := bne_iff_ne.mpr c19
     (first | rw [c19b0] | (simp only [i64_w, i32_w]; rw [c19b0]) | skip)
     have H' := Aside0.mk H
     clear H
     go_wp2
     go_meet
     case rel => exact ⟨_, (true), (by first | rfl | (simp; done) | (simp [*]; done)), H', ⟨by first | omega | exact Nat.le_refl _⟩, ⟨by (with_reducible repeat (first | apply Kd.R_alloc | apply Kd.R_drewN | apply Kd.R_drew)); exact HO270.out⟩, ⟨by (with_reducible repeat (first | refine blk_drewN ?_ _ | refine blk_drew ?_ | refine blk_alloc ?_ _)); exact BK266.out⟩, ⟨by repeat (first | (with_reducible first | exact HB.out | apply below_alloc | apply pw_below_drewN | apply below_drew1 | refine below_set ?_ GE266.out) | exact HB.out)⟩⟩
   case rest =>
    clear HC11
    try clear c1
    try clear p2
    try clear hcv2
    try clear c3
    try clear c4
    try clear c4b0
    try clear p6
    try clear c10
    try clear c13
    try clear c15
    try clear c16
    try clear c19
    try clear c19b0
    try clear c19b1
    try clear hcv20
    try clear hcv21
    try clear hcz14_0
    try clear hcz14_1
    try clear hcz14_10
    try clear hcz14_11
    try clear hcz14_2
    try clear hcz14_3
    try clear hcz14_4
    try clear hcz14_5
    try clear hcz14_6
    try clear hcz14_7
    try clear hcz14_8
    try clear hcz14_9
    try clear hcz16_0
    try clear hcz16_1
    try clear hcz16_10
    try clear hcz16_11
    try clear hcz16_2
    try clear hcz16_3
    try clear hcz16_4
    try clear hcz16_5
    try clear hcz16_6
    try clear hcz16_7
    try clear hcz16_8
    try clear hcz16_9
    try clear hcz7_0
    try clear hcz7_1
    try clear hcz7_10
    try clear hcz7_11
    try clear hcz7_2
    try clear hcz7_3
    try clear hcz7_4
    try clear hcz7_5
    try clear hcz7_6
    try clear hcz7_7
    try clear hcz7_8
    try clear hcz7_9
    try clear hfz14_0
    try clear hfz14_1
    try clear hfz14_10
    try clear hfz14_11
    try clear hfz14_2
    try clear hfz14_3
    try clear hfz14_4
    try clear hfz14_5
    try clear hfz14_6
    try clear hfz14_7
    try clear hfz14_8
    try clear hfz14_9
    try clear hfz16_0
    try clear hfz16_1
    try clear hfz16_10
    try clear hfz16_11
    try clear hfz16_2
    try clear hfz16_3
    try clear hfz16_4
    try clear hfz16_5
    try clear hfz16_6
    try clear hfz16_7
    try clear hfz16_8
    try clear hfz16_9
    try clear hfz7_0
    try clear hfz7_1
    try clear hfz7_10
    try clear hfz7_11
    try clear hfz7_2
    try clear hfz7_3
    try clear hfz7_4
    try clear hfz7_5
    try clear hfz7_6
    try clear hfz7_7
    try clear hfz7_8
    try clear hfz7_9
    obtain ⟨kq, x50_10, rfl, HA, HJ10, HO_3, BK266, HB⟩ := hcut
    cases kq with
    | zero => exact absurd HA.out (by simp [pannierlaw06_HeadWrites.j0])
    | succ kj10 =>
     have H := HA.out
     clear HA
     simp only [pannierlaw06_HeadWrites.j0] at H
     by_cases c22 : x50_10 = true
     ·subst c22
      have H1 : (some false) = some r := by rw [if_pos rfl] at H; exact H
      clear H
      have H := H1
      clear H1
      obtain rfl := Option.some.inj H
      go_wp2
      go_ret
      exact ⟨by first | rfl | (simp [errW_none, errW_some] <;> rfl) | (simp [*, errW_none, errW_some] <;> rfl), by repeat (first | (with_reducible first | exact HB.out | apply below_alloc | apply pw_below_drewN | apply below_drew1 | refine below_set ?_ GE266.out) | exact HB.out)⟩
     ·replace c22 := Bool.eq_false_iff.mpr c22
      subst c22
      have H1 : (if t285 = 0 then ((head_Decode.f kj10 t268).bind fun bt286 => (if bt286.2.2.2.2.2.2.2.2.2.2.2.2 = 0 then (some (bt286.1 == 1 && (bt286.2.1.toList == a0_1.toList && (bt286.2.2.1.toList == a0_2.toList && (bt286.2.2.2.1.toList == a0_3.toList && (bt286.2.2.2.2.1.toList == a0_4.toList && (bt286.2.2.2.2.2.1.toList == a0_5.toList && (bt286.2.2.2.2.2.2.1 == a0_6 && (bt286.2.2.2.2.2.2.2.1 == a0_7 && (bt286.2.2.2.2.2.2.2.2.1 == a0_8 && (bt286.2.2.2.2.2.2.2.2.2.1 == a0_9 && (bt286.2.2.2.2.2.2.2.2.2.2.1 == a0_10 && (bt286.2.2.2.2.2.2.2.2.2.2.2.1 == a0_11))))))))))))) else (some false))) else (some true)) = some r := by rw [if_neg (show ¬ (false = true) by decide)] at H; exact H
      clear H
      have H := H1
      clear H1
      by_cases c23 : t285 = 0
      ·rw [if_pos c23] at H
       have c23b0 : (t285 == 0) = true := beq_iff_eq.mpr c23
       have c23b1 : (t285 != 0) = false := bne_eq_false_iff_eq.mpr c23
       clear c23
       replace H := Option.bind_eq_some_iff.mp H
       obtain ⟨⟨t286, t287, t288, t289, t290, t291, t292, t293, t294, t295, t296, t297, t298⟩, A240, H⟩ := H
       replace H : (if t298 = 0 then (some (t286 == 1 && (t287.toList == a0_1.toList && (t288.toList == a0_2.toList && (t289.toList == a0_3.toList && (t290.toList == a0_4.toList && (t291.toList == a0_5.toList && (t292 == a0_6 && (t293 == a0_7 && (t294 == a0_8 && (t295 == a0_9 && (t296 == a0_10 && (t297 == a0_11))))))))))))) else (some false)) = some r := H
       have A24 := Aside0.mk A240
       clear A240
       by_cases c25 : t298 = 0
       ·rw [if_pos c25] at H
        have c25b0 : (t298 == 0) = true := beq_iff_eq.mpr c25
        have c25b1 : (t298 != 0) = false := bne_eq_false_iff_eq.mpr c25
        clear c25
        obtain rfl := Option.some.inj H
        obtain ⟨Ao26, co26, eo26⟩ := Kd.R_slice HO_3.out
        subst eo26
        go_wp2_with (first | ((with_reducible refine gate_callee (f := 11) rfl ?_); refine goesL_ (some 55) rfl rfl Try.func11 (by kernel_rfl) rfl #[.slice Ao26 t268.length co26] rfl (by (try simp only [List.map_toArray, List.map_cons, List.map_nil]); first | done | rfl | (simp only [List.length_drop, List.length_take]; rfl)) ?_; (with_reducible refine (head_Decode.calls kj10 _ _ t268 t286 t287 t288 t289 t290 t291 t292 t293 t294 t295 t296 t297 t298 _ ?side1 ?side2 A24.out).mono ?_); (case side1 => repeat (first | exact (Kd.R_reads' HO_3.out).2.2 | (with_reducible refine Kd.C_alloc ?_ _) | (with_reducible refine Kd.C_drewN ?_ _) | (with_reducible refine Kd.C_drew ?_))); (case side2 => exact (Kd.R_reads' HO_3.out).2.1); rintro e w27 ⟨rfl, hb⟩; refine ⟨_, rfl, ?_⟩; have n0_ := Aside0.mk (Kd.R_below (by (with_reducible repeat (first | apply Kd.R_alloc | apply Kd.R_drewN | apply Kd.R_drew)); exact HO_3.out) hb); have n1_ := Aside0.mk (blk_below (g := gb266) (o := .cells #[.int .i64 a0_0, .string a0_1, .string a0_2, .string a0_3, .string a0_4, .string a0_5, .int .u8 a0_6, .int .i64 a0_7, .int .i64 a0_8, .int .i64 a0_9, .int .i64 a0_10, .int .i64 a0_11] 25 (0, 0)) (by (with_reducible repeat (first | refine blk_drewN ?_ _ | refine blk_drew ?_ | refine blk_alloc ?_ _)); exact BK266.out) hb); have n2_ := Aside0.mk (below_step (by repeat (first | (with_reducible first | exact HB.out | apply below_alloc | apply pw_below_drewN | apply below_drew1 | refine below_set ?_ GE266.out) | exact HB.out)) hb); clear HO_3; clear BK266; clear HB; have HO_3 := n0_; have BK266 := n1_; have HB := n2_; clear n0_ n1_ n2_; (try clear hb); (try clear hb2); (try clear hk); (try clear hi)) | ((with_reducible refine gate_dst (N := 7) rfl ?_); refine box_event ?hg (N := 7) ?hd (cs := #[.int .i64 0, .string (⟨#[]⟩ : ByteArray), .string (⟨#[]⟩ : ByteArray), .string (⟨#[]⟩ : ByteArray), .string (⟨#[]⟩ : ByteArray), .string (⟨#[]⟩ : ByteArray), .int .u8 0, .int .i64 0, .int .i64 0, .int .i64 0, .int .i64 0, .int .i64 0]) (t := 25) ?hr ?_; (case hd => rfl); (case hg => rfl); (case hr => first | (go_simp; done) | (go_simp; rfl)); intro gb299 hg w28 hbox hb; have n0_ := Aside0.mk (Kd.R_below (by (with_reducible repeat (first | apply Kd.R_alloc | apply Kd.R_drewN | apply Kd.R_drew)); exact HO_3.out) hb); have n1_ := Aside0.mk (blk_below (g := gb266) (o := .cells #[.int .i64 a0_0, .string a0_1, .string a0_2, .string a0_3, .string a0_4, .string a0_5, .int .u8 a0_6, .int .i64 a0_7, .int .i64 a0_8, .int .i64 a0_9, .int .i64 a0_10, .int .i64 a0_11] 25 (0, 0)) (by (with_reducible repeat (first | refine blk_drewN ?_ _ | refine blk_drew ?_ | refine blk_alloc ?_ _)); exact BK266.out) hb); have n2_ := Aside0.mk (below_step (by repeat (first | (with_reducible first | exact HB.out | apply below_alloc | apply pw_below_drewN | apply below_drew1 | refine below_set ?_ GE266.out) | exact HB.out)) hb); have n3_ := Aside0.mk (hbox); have n4_ := Aside0.mk ((by rw [hg]; exact (below_size (by repeat (first | (with_reducible first | exact HB.out | apply below_alloc | apply pw_below_drewN | apply below_drew1 | refine below_set ?_ GE266.out) | exact HB.out))) : w.heap.size ≤ gb299)); have n5_ := Aside0.mk ((by rw [hg]; exact (below_size (by repeat (first | (with_reducible first | exact HB.out | apply below_alloc | apply pw_below_drewN | apply below_drew1 | refine below_set ?_ GE266.out) | exact HB.out))) : w.heap.size ≤ gb299)); have n6_ := Aside0.mk ((by rw [hg]; exact Nat.ne_of_lt (blk_lt (g := gb266) (o := .cells #[.int .i64 a0_0, .string a0_1, .string a0_2, .string a0_3, .string a0_4, .string a0_5, .int .u8 a0_6, .int .i64 a0_7, .int .i64 a0_8, .int .i64 a0_9, .int .i64 a0_10, .int .i64 a0_11] 25 (0, 0)) (by (with_reducible repeat (first | refine blk_drewN ?_ _ | refine blk_drew ?_ | refine blk_alloc ?_ _)); exact BK266.out)) : gb266 ≠ gb299)); have n7_ := Aside0.mk ((by rw [hg]; exact Nat.ne_of_gt (blk_lt (g := gb266) (o := .cells #[.int .i64 a0_0, .string a0_1, .string a0_2, .string a0_3, .string a0_4, .string a0_5, .int .u8 a0_6, .int .i64 a0_7, .int .i64 a0_8, .int .i64 a0_9, .int .i64 a0_10, .int .i64 a0_11] 25 (0, 0)) (by (with_reducible repeat (first | refine blk_drewN ?_ _ | refine blk_drew ?_ | refine blk_alloc ?_ _)); exact BK266.out)) : gb299 ≠ gb266)); clear HO_3; clear BK266; clear HB; have HO_3 := n0_; have BK266 := n1_; have HB := n2_; have BK299 := n3_; have GW299 := n4_; have GE299 := n5_; have NB266_299 := n6_; have NB299_266 := n7_; clear n0_ n1_ n2_ n3_ n4_ n5_ n6_ n7_; clear hb hbox hg; have hnb29 := NB299_266.out; have hnc29 := NB266_299.out; have hcz30_0 : w28.cell? ⟨gb299, 0, none⟩ = some (.int .i64 0) := (blk_cell BK299.out 0).trans rfl; have hcz30_1 : w28.cell? ⟨gb299, 1, none⟩ = some (.string (⟨#[]⟩ : ByteArray)) := (blk_cell BK299.out 1).trans rfl; have hcz30_2 : w28.cell? ⟨gb299, 2, none⟩ = some (.string (⟨#[]⟩ : ByteArray)) := (blk_cell BK299.out 2).trans rfl; have hcz30_3 : w28.cell? ⟨gb299, 3, none⟩ = some (.string (⟨#[]⟩ : ByteArray)) := (blk_cell BK299.out 3).trans rfl; have hcz30_4 : w28.cell? ⟨gb299, 4, none⟩ = some (.string (⟨#[]⟩ : ByteArray)) := (blk_cell BK299.out 4).trans rfl; have hcz30_5 : w28.cell? ⟨gb299, 5, none⟩ = some (.string (⟨#[]⟩ : ByteArray)) := (blk_cell BK299.out 5).trans rfl; have hcz30_6 : w28.cell? ⟨gb299, 6, none⟩ = some (.int .u8 0) := (blk_cell BK299.out 6).trans rfl; have hcz30_7 : w28.cell? ⟨gb299, 7, none⟩ = some (.int .i64 0) := (blk_cell BK299.out 7).trans rfl; have hcz30_8 : w28.cell? ⟨gb299, 8, none⟩ = some (.int .i64 0) := (blk_cell BK299.out 8).trans rfl; have hcz30_9 : w28.cell? ⟨gb299, 9, none⟩ = some (.int .i64 0) := (blk_cell BK299.out 9).trans rfl; have hcz30_10 : w28.cell? ⟨gb299, 10, none⟩ = some (.int .i64 0) := (blk_cell BK299.out 10).trans rfl; have hcz30_11 : w28.cell? ⟨gb299, 11, none⟩ = some (.int .i64 0) := (blk_cell BK299.out 11).trans rfl; have hfz30_0 := blk_frozen BK299.out 0; have hfz30_1 := blk_frozen BK299.out 1; have hfz30_2 := blk_frozen BK299.out 2; have hfz30_3 := blk_frozen BK299.out 3; have hfz30_4 := blk_frozen BK299.out 4; have hfz30_5 := blk_frozen BK299.out 5; have hfz30_6 := blk_frozen BK299.out 6; have hfz30_7 := blk_frozen BK299.out 7; have hfz30_8 := blk_frozen BK299.out 8; have hfz30_9 := blk_frozen BK299.out 9; have hfz30_10 := blk_frozen BK299.out 10; have hfz30_11 := blk_frozen BK299.out 11; have hcz31_0 : w28.cell? ⟨gb266, 0, none⟩ = some (.int .i64 a0_0) := (blk_cell BK266.out 0).trans rfl; have hcz31_1 : w28.cell? ⟨gb266, 1, none⟩ = some (.string a0_1) := (blk_cell BK266.out 1).trans rfl; have hcz31_2 : w28.cell? ⟨gb266, 2, none⟩ = some (.string a0_2) := (blk_cell BK266.out 2).trans rfl; have hcz31_3 : w28.cell? ⟨gb266, 3, none⟩ = some (.string a0_3) := (blk_cell BK266.out 3).trans rfl; have hcz31_4 : w28.cell? ⟨gb266, 4, none⟩ = some (.string a0_4) := (blk_cell BK266.out 4).trans rfl; have hcz31_5 : w28.cell? ⟨gb266, 5, none⟩ = some (.string a0_5) := (blk_cell BK266.out 5).trans rfl; have hcz31_6 : w28.cell? ⟨gb266, 6, none⟩ = some (.int .u8 a0_6) := (blk_cell BK266.out 6).trans rfl; have hcz31_7 : w28.cell? ⟨gb266, 7, none⟩ = some (.int .i64 a0_7) := (blk_cell BK266.out 7).trans rfl; have hcz31_8 : w28.cell? ⟨gb266, 8, none⟩ = some (.int .i64 a0_8) := (blk_cell BK266.out 8).trans rfl; have hcz31_9 : w28.cell? ⟨gb266, 9, none⟩ = some (.int .i64 a0_9) := (blk_cell BK266.out 9).trans rfl; have hcz31_10 : w28.cell? ⟨gb266, 10, none⟩ = some (.int .i64 a0_10) := (blk_cell BK266.out 10).trans rfl; have hcz31_11 : w28.cell? ⟨gb266, 11, none⟩ = some (.int .i64 a0_11) := (blk_cell BK266.out 11).trans rfl; have hfz31_0 := blk_frozen BK266.out 0; have hfz31_1 := blk_frozen BK266.out 1; have hfz31_2 := blk_frozen BK266.out 2; have hfz31_3 := blk_frozen BK266.out 3; have hfz31_4 := blk_frozen BK266.out 4; have hfz31_5 := blk_frozen BK266.out 5; have hfz31_6 := blk_frozen BK266.out 6; have hfz31_7 := blk_frozen BK266.out 7; have hfz31_8 := blk_frozen BK266.out 8; have hfz31_9 := blk_frozen BK266.out 9; have hfz31_10 := blk_frozen BK266.out 10; have hfz31_11 := blk_frozen BK266.out 11))
        go_ret
        exact ⟨by first | rfl | (simp [errW_none, errW_some] <;> rfl) | (simp [*, errW_none, errW_some] <;> rfl), by repeat (first | (with_reducible first | exact HB.out | apply below_alloc | apply pw_below_drewN | apply below_drew1 | refine below_set ?_ GE266.out | refine below_set ?_ GE299.out) | exact HB.out)⟩
       ·rw [if_neg c25] at H
        have c25b0 : (t298 == 0) = false := beq_eq_false_iff_ne.mpr c25
        have c25b1 : (t298 != 0) = true := bne_iff_ne.mpr c25
        obtain rfl := Option.some.inj H
        obtain ⟨Ao32, co32, eo32⟩ := Kd.R_slice HO_3.out
        subst eo32
        go_wp2_with (first | ((with_reducible refine gate_callee (f := 11) rfl ?_); refine goesL_ (some 55) rfl rfl Try.func11 (by kernel_rfl) rfl #[.slice Ao32 t268.length co32] rfl (by (try simp only [List.map_toArray, List.map_cons, List.map_nil]); first | done | rfl | (simp only [List.length_drop, List.length_take]; rfl)) ?_; (with_reducible refine (head_Decode.calls kj10 _ _ t268 t286 t287 t288 t289 t290 t291 t292 t293 t294 t295 t296 t297 t298 _ ?side1 ?side2 A24.out).mono ?_); (case side1 => repeat (first | exact (Kd.R_reads' HO_3.out).2.2 | (with_reducible refine Kd.C_alloc ?_ _) | (with_reducible refine Kd.C_drewN ?_ _) | (with_reducible refine Kd.C_drew ?_))); (case side2 => exact (Kd.R_reads' HO_3.out).2.1); rintro e w33 ⟨rfl, hb⟩; refine ⟨_, rfl, ?_⟩; have n0_ := Aside0.mk (Kd.R_below (by (with_reducible repeat (first | apply Kd.R_alloc | apply Kd.R_drewN | apply Kd.R_drew)); exact HO_3.out) hb); have n1_ := Aside0.mk (blk_below (g := gb266) (o := .cells #[.int .i64 a0_0, .string a0_1, .string a0_2, .string a0_3, .string a0_4, .string a0_5, .int .u8 a0_6, .int .i64 a0_7, .int .i64 a0_8, .int .i64 a0_9, .int .i64 a0_10, .int .i64 a0_11] 25 (0, 0)) (by (with_reducible repeat (first | refine blk_drewN ?_ _ | refine blk_drew ?_ | refine blk_alloc ?_ _)); exact BK266.out) hb); have n2_ := Aside0.mk (below_step (by repeat (first | (with_reducible first | exact HB.out | apply below_alloc | apply pw_below_drewN | apply below_drew1 | refine below_set ?_ GE266.out) | exact HB.out)) hb); clear HO_3; clear BK266; clear HB; have HO_3 := n0_; have BK266 := n1_; have HB := n2_; clear n0_ n1_ n2_; (try clear hb); (try clear hb2); (try clear hk); (try clear hi)) | ((with_reducible refine gate_dst (N := 7) rfl ?_); refine box_event ?hg (N := 7) ?hd (cs := #[.int .i64 0, .string (⟨#[]⟩ : ByteArray), .string (⟨#[]⟩ : ByteArray), .string (⟨#[]⟩ : ByteArray), .string (⟨#[]⟩ : ByteArray), .string (⟨#[]⟩ : ByteArray), .int .u8 0, .int .i64 0, .int .i64 0, .int .i64 0, .int .i64 0, .int .i64 0]) (t := 25) ?hr ?_; (case hd => rfl); (case hg => rfl); (case hr => first | (go_simp; done) | (go_simp; rfl)); intro gb299 hg w34 hbox hb; have n0_ := Aside0.mk (Kd.R_below (by (with_reducible repeat (first | apply Kd.R_alloc | apply Kd.R_drewN | apply Kd.R_drew)); exact HO_3.out) hb); have n1_ := Aside0.mk (blk_below (g := gb266) (o := .cells #[.int .i64 a0_0, .string a0_1, .string a0_2, .string a0_3, .string a0_4, .string a0_5, .int .u8 a0_6, .int .i64 a0_7, .int .i64 a0_8, .int .i64 a0_9, .int .i64 a0_10, .int .i64 a0_11] 25 (0, 0)) (by (with_reducible repeat (first | refine blk_drewN ?_ _ | refine blk_drew ?_ | refine blk_alloc ?_ _)); exact BK266.out) hb); have n2_ := Aside0.mk (below_step (by repeat (first | (with_reducible first | exact HB.out | apply below_alloc | apply pw_below_drewN | apply below_drew1 | refine below_set ?_ GE266.out) | exact HB.out)) hb); have n3_ := Aside0.mk (hbox); have n4_ := Aside0.mk ((by rw [hg]; exact (below_size (by repeat (first | (with_reducible first | exact HB.out | apply below_alloc | apply pw_below_drewN | apply below_drew1 | refine below_set ?_ GE266.out) | exact HB.out))) : w.heap.size ≤ gb299)); have n5_ := Aside0.mk ((by rw [hg]; exact (below_size (by repeat (first | (with_reducible first | exact HB.out | apply below_alloc | apply pw_below_drewN | apply below_drew1 | refine below_set ?_ GE266.out) | exact HB.out))) : w.heap.size ≤ gb299)); have n6_ := Aside0.mk ((by rw [hg]; exact Nat.ne_of_lt (blk_lt (g := gb266) (o := .cells #[.int .i64 a0_0, .string a0_1, .string a0_2, .string a0_3, .string a0_4, .string a0_5, .int .u8 a0_6, .int .i64 a0_7, .int .i64 a0_8, .int .i64 a0_9, .int .i64 a0_10, .int .i64 a0_11] 25 (0, 0)) (by (with_reducible repeat (first | refine blk_drewN ?_ _ | refine blk_drew ?_ | refine blk_alloc ?_ _)); exact BK266.out)) : gb266 ≠ gb299)); have n7_ := Aside0.mk ((by rw [hg]; exact Nat.ne_of_gt (blk_lt (g := gb266) (o := .cells #[.int .i64 a0_0, .string a0_1, .string a0_2, .string a0_3, .string a0_4, .string a0_5, .int .u8 a0_6, .int .i64 a0_7, .int .i64 a0_8, .int .i64 a0_9, .int .i64 a0_10, .int .i64 a0_11] 25 (0, 0)) (by (with_reducible repeat (first | refine blk_drewN ?_ _ | refine blk_drew ?_ | refine blk_alloc ?_ _)); exact BK266.out)) : gb299 ≠ gb266)); clear HO_3; clear BK266; clear HB; have HO_3 := n0_; have BK266 := n1_; have HB := n2_; have BK299 := n3_; have GW299 := n4_; have GE299 := n5_; have NB266_299 := n6_; have NB299_266 := n7_; clear n0_ n1_ n2_ n3_ n4_ n5_ n6_ n7_; clear hb hbox hg; have hnb35 := NB299_266.out; have hnc35 := NB266_299.out; have hcz36_0 : w34.cell? ⟨gb299, 0, none⟩ = some (.int .i64 0) := (blk_cell BK299.out 0).trans rfl; have hcz36_1 : w34.cell? ⟨gb299, 1, none⟩ = some (.string (⟨#[]⟩ : ByteArray)) := (blk_cell BK299.out 1).trans rfl; have hcz36_2 : w34.cell? ⟨gb299, 2, none⟩ = some (.string (⟨#[]⟩ : ByteArray)) := (blk_cell BK299.out 2).trans rfl; have hcz36_3 : w34.cell? ⟨gb299, 3, none⟩ = some (.string (⟨#[]⟩ : ByteArray)) := (blk_cell BK299.out 3).trans rfl; have hcz36_4 : w34.cell? ⟨gb299, 4, none⟩ = some (.string (⟨#[]⟩ : ByteArray)) := (blk_cell BK299.out 4).trans rfl; have hcz36_5 : w34.cell? ⟨gb299, 5, none⟩ = some (.string (⟨#[]⟩ : ByteArray)) := (blk_cell BK299.out 5).trans rfl; have hcz36_6 : w34.cell? ⟨gb299, 6, none⟩ = some (.int .u8 0) := (blk_cell BK299.out 6).trans rfl; have hcz36_7 : w34.cell? ⟨gb299, 7, none⟩ = some (.int .i64 0) := (blk_cell BK299.out 7).trans rfl; have hcz36_8 : w34.cell? ⟨gb299, 8, none⟩ = some (.int .i64 0) := (blk_cell BK299.out 8).trans rfl; have hcz36_9 : w34.cell? ⟨gb299, 9, none⟩ = some (.int .i64 0) := (blk_cell BK299.out 9).trans rfl; have hcz36_10 : w34.cell? ⟨gb299, 10, none⟩ = some (.int .i64 0) := (blk_cell BK299.out 10).trans rfl; have hcz36_11 : w34.cell? ⟨gb299, 11, none⟩ = some (.int .i64 0) := (blk_cell BK299.out 11).trans rfl; have hfz36_0 := blk_frozen BK299.out 0; have hfz36_1 := blk_frozen BK299.out 1; have hfz36_2 := blk_frozen BK299.out 2; have hfz36_3 := blk_frozen BK299.out 3; have hfz36_4 := blk_frozen BK299.out 4; have hfz36_5 := blk_frozen BK299.out 5; have hfz36_6 := blk_frozen BK299.out 6; have hfz36_7 := blk_frozen BK299.out 7; have hfz36_8 := blk_frozen BK299.out 8; have hfz36_9 := blk_frozen BK299.out 9; have hfz36_10 := blk_frozen BK299.out 10; have hfz36_11 := blk_frozen BK299.out 11; have hcz37_0 : w34.cell? ⟨gb266, 0, none⟩ = some (.int .i64 a0_0) := (blk_cell BK266.out 0).trans rfl; have hcz37_1 : w34.cell? ⟨gb266, 1, none⟩ = some (.string a0_1) := (blk_cell BK266.out 1).trans rfl; have hcz37_2 : w34.cell? ⟨gb266, 2, none⟩ = some (.string a0_2) := (blk_cell BK266.out 2).trans rfl; have hcz37_3 : w34.cell? ⟨gb266, 3, none⟩ = some (.string a0_3) := (blk_cell BK266.out 3).trans rfl; have hcz37_4 : w34.cell? ⟨gb266, 4, none⟩ = some (.string a0_4) := (blk_cell BK266.out 4).trans rfl; have hcz37_5 : w34.cell? ⟨gb266, 5, none⟩ = some (.string a0_5) := (blk_cell BK266.out 5).trans rfl; have hcz37_6 : w34.cell? ⟨gb266, 6, none⟩ = some (.int .u8 a0_6) := (blk_cell BK266.out 6).trans rfl; have hcz37_7 : w34.cell? ⟨gb266, 7, none⟩ = some (.int .i64 a0_7) := (blk_cell BK266.out 7).trans rfl; have hcz37_8 : w34.cell? ⟨gb266, 8, none⟩ = some (.int .i64 a0_8) := (blk_cell BK266.out 8).trans rfl; have hcz37_9 : w34.cell? ⟨gb266, 9, none⟩ = some (.int .i64 a0_9) := (blk_cell BK266.out 9).trans rfl; have hcz37_10 : w34.cell? ⟨gb266, 10, none⟩ = some (.int .i64 a0_10) := (blk_cell BK266.out 10).trans rfl; have hcz37_11 : w34.cell? ⟨gb266, 11, none⟩ = some (.int .i64 a0_11) := (blk_cell BK266.out 11).trans rfl; have hfz37_0 := blk_frozen BK266.out 0; have hfz37_1 := blk_frozen BK266.out 1; have hfz37_2 := blk_frozen BK266.out 2; have hfz37_3 := blk_frozen BK266.out 3; have hfz37_4 := blk_frozen BK266.out 4; have hfz37_5 := blk_frozen BK266.out 5; have hfz37_6 := blk_frozen BK266.out 6; have hfz37_7 := blk_frozen BK266.out 7; have hfz37_8 := blk_frozen BK266.out 8; have hfz37_9 := blk_frozen BK266.out 9; have hfz37_10 := blk_frozen BK266.out 10; have hfz37_11 := blk_frozen BK266.out 11))
        go_ret
        exact ⟨by first | rfl | (simp [errW_none, errW_some] <;> rfl) | (simp [*, errW_none, errW_some] <;> rfl), by repeat (first | (with_reducible first | exact HB.out | apply below_alloc | apply pw_below_drewN | apply below_drew1 | refine below_set ?_ GE266.out | refine below_set ?_ GE299.out) | exact HB.out)⟩
      ·rw [if_neg c23] at H
       have c23b0 : (t285 == 0) = false := beq_eq_false_iff_ne.mpr c23
       have c23b1 : (t285 != 0) = true := bne_iff_ne.mpr c23
       obtain rfl := Option.some.inj H
       go_wp2
       go_ret
       exact ⟨by first | rfl | (simp [errW_none, errW_some] <;> rfl) | (simp [*, errW_none, errW_some] <;> rfl), by repeat (first | (with_reducible first | exact HB.out | apply below_alloc | apply pw_below_drewN | apply below_drew1 | refine below_set ?_ GE266.out) | exact HB.out)⟩
 ·replace c3 := Bool.eq_false_iff.mpr c3
  subst c3
  have H1 : (some false) = some r := by rw [if_neg (show ¬ (false = true) by decide)] at H; exact H
  clear H
  have H := H1
  clear H1
  obtain rfl := Option.some.inj H
  go_enter Try.func4, Try.ntmps4
  go_wp2_with (first | ((with_reducible refine gate_dst (N := 1) rfl ?_); refine box_event ?hg (N := 1) ?hd (cs := #[.int .i64 a0_0, .string a0_1, .string a0_2, .string a0_3, .string a0_4, .string a0_5, .int .u8 a0_6, .int .i64 a0_7, .int .i64 a0_8, .int .i64 a0_9, .int .i64 a0_10, .int .i64 a0_11]) (t := 25) ?hr ?_; (case hd => rfl); (case hg => rfl); (case hr => first | (go_simp; done) | (go_simp; rfl)); intro gb266 hg w38 hbox hb; have n0_ := Aside0.mk (below_step (by repeat (first | (with_reducible first | exact HB.out | apply below_alloc | apply pw_below_drewN | apply below_drew1) | exact HB.out)) hb); have n1_ := Aside0.mk (hbox); have n2_ := Aside0.mk ((by rw [hg]; exact (below_size (by repeat (first | (with_reducible first | exact HB.out | apply below_alloc | apply pw_below_drewN | apply below_drew1) | exact HB.out))) : w.heap.size ≤ gb266)); have n3_ := Aside0.mk ((by rw [hg]; exact (below_size (by repeat (first | (with_reducible first | exact HB.out | apply below_alloc | apply pw_below_drewN | apply below_drew1) | exact HB.out))) : w.heap.size ≤ gb266)); clear HB; have HB := n0_; have BK266 := n1_; have GW266 := n2_; have GE266 := n3_; clear n0_ n1_ n2_ n3_; clear hb hbox hg) | ((with_reducible refine gate_callee (f := 10) rfl ?_); refine goesL_ (some 9) rfl rfl Try.func10 (by kernel_rfl) rfl #[] rfl (by (try simp only [List.map_toArray, List.map_cons, List.map_nil]); first | done | rfl | (simp only [List.length_drop, List.length_take]; rfl)) ?_; (with_reducible refine (pannierlaw06_reads.calls k  false _ A2.out).mono ?_); rintro e w39 ⟨rfl, hb⟩; refine ⟨_, rfl, ?_⟩; have n0_ := Aside0.mk (blk_below (g := gb266) (o := .cells #[.int .i64 a0_0, .string a0_1, .string a0_2, .string a0_3, .string a0_4, .string a0_5, .int .u8 a0_6, .int .i64 a0_7, .int .i64 a0_8, .int .i64 a0_9, .int .i64 a0_10, .int .i64 a0_11] 25 (0, 0)) (by (with_reducible repeat (first | refine blk_drewN ?_ _ | refine blk_drew ?_ | refine blk_alloc ?_ _)); exact BK266.out) hb); have n1_ := Aside0.mk (below_step (by repeat (first | (with_reducible first | exact HB.out | apply below_alloc | apply pw_below_drewN | apply below_drew1 | refine below_set ?_ GE266.out) | exact HB.out)) hb); clear BK266; clear HB; have BK266 := n0_; have HB := n1_; clear n0_ n1_; (try clear hb); (try clear hb2); (try clear hk); (try clear hi)))
  go_ret
  exact ⟨by first | rfl | (simp [errW_none, errW_some] <;> rfl) | (simp [*, errW_none, errW_some] <;> rfl), by repeat (first | (with_reducible first | exact HB.out | apply below_alloc | apply pw_below_drewN | apply below_drew1 | refine below_set ?_ GE266.out) | exact HB.out)⟩
/-- THE ONE PURE STATEMENT of pannierlaw06_HeadWrites. -/
def pannierlaw06_HeadWrites.Pure : Prop := ∀ (a0_0 : Int) (a0_1 : ByteArray) (a0_2 : ByteArray) (a0_3 : ByteArray) (a0_4 : ByteArray) (a0_5 : ByteArray) (a0_6 : Int) (a0_7 : Int) (a0_8 : Int) (a0_9 : Int) (a0_10 : Int) (a0_11 : Int), (Lit.int .i64 a0_0).wf = true → a0_1.size ≤ 9223372036854775807 → a0_2.size ≤ 9223372036854775807 → a0_3.size ≤ 9223372036854775807 → a0_4.size ≤ 9223372036854775807 → a0_5.size ≤ 9223372036854775807 → (Lit.int .u8 a0_6).wf = true → (Lit.int .i64 a0_7).wf = true → (Lit.int .i64 a0_8).wf = true → (Lit.int .i64 a0_9).wf = true → (Lit.int .i64 a0_10).wf = true → (Lit.int .i64 a0_11).wf = true → ∃ k, pannierlaw06_HeadWrites.f k a0_0 a0_1 a0_2 a0_3 a0_4 a0_5 a0_6 a0_7 a0_8 a0_9 a0_10 a0_11 = some true

end Go.Proofs.Ytchldbhnohicoaa.XA
