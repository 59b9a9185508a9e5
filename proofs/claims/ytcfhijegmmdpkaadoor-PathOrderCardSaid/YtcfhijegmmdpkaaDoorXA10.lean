-- Written by a program of this session (wip/tools/xprint.py) out of the translation's print. Lean checks it.
import Derived.Test.YtcfhijegmmdpkaaDoorXA0
import Derived.Test.YtcfhijegmmdpkaaDoorESound
import Derived.Test.YtcfhijegmmdpkaaDoorXA1
import Derived.Test.YtcfhijegmmdpkaaDoorXA2
import Derived.Test.YtcfhijegmmdpkaaDoorXA3
import Derived.Test.YtcfhijegmmdpkaaDoorXA6
namespace Go.Proofs.YtcfhijegmmdpkaaDoor.XA
open Go.RowKit Go.Proofs.YtcfhijegmmdpkaaDoorW.PrintWords Go.Proofs.YtcfhijegmmdpkaaDoorW.PrintLast Go.Proofs.YtcfhijegmmdpkaaDoorW.PrintMore
attribute [local go_sem] max2_int min2_int max_two min_two max_three min_three max_four min_four   -- for this text's walks alone
set_option linter.unusedVariables false
set_option linter.unusedSimpArgs false

/-! ### pannierlaw10_PathOrder: function 4 -/
mutual
def pannierlaw10_PathOrder.l0 : Nat → List ByteArray → Int → Int → ByteArray → ByteArray → ByteArray → Option (Bool)
 | 0, _, _, _, _, _, _ => none
 | k + 1, x21, x22, x23, x185000, x185001, x185002 => if x23 < x22 then (if 0 ≤ x23 then (if x23 < (x21.length : Int) then ((path_Clean.f k (rdOf ByteArray.empty x21 x23)).bind fun bt189 => (if bt189.2 = 0 then (if ((rdOf ByteArray.empty x21 x23).size : Int) > 1000 then (some true) else ((path_Join.f bt189.1).bind fun t193 => (if x23 = 0 then (pannierlaw10_PathOrder.l0 k x21 x22 (wrap64 (x23 + 1)) t193 x185001 x185002) else (if x23 = 1 then (pannierlaw10_PathOrder.l0 k x21 x22 (wrap64 (x23 + 1)) x185000 t193 x185002) else (if x23 = 2 then (pannierlaw10_PathOrder.l0 k x21 x22 (wrap64 (x23 + 1)) x185000 x185001 t193) else (none)))))) else (some true))) else (none)) else (none)) else ((path_Compare.f k x185000 x185001).bind fun t194 => ((path_Compare.f k x185001 x185002).bind fun t195 => ((path_Compare.f k x185000 x185002).bind fun t196 => ((pannierref10_Less.f k x185000 x185001).bind fun t197 => (if ((decide (t194 < 0)) != t197) = true then (pannierlaw10_PathOrder.j1 k t194 t195 true x185000 x185001 x185002) else (if ((t194 == 0) != (x185000.toList == x185001.toList)) = true then (pannierlaw10_PathOrder.j1 k t194 t195 true x185000 x185001 x185002) else ((path_Compare.f k x185001 x185000).bind fun t198 => (if ((decide (t198 < 0)) != (decide (t194 > 0))) = true then (pannierlaw10_PathOrder.j1 k t194 t195 true x185000 x185001 x185002) else (if t194 ≤ 0 then (if t195 ≤ 0 then (pannierlaw10_PathOrder.j1 k t194 t195 (decide (t196 > 0)) x185000 x185001 x185002) else (pannierlaw10_PathOrder.j1 k t194 t195 false x185000 x185001 x185002)) else (pannierlaw10_PathOrder.j1 k t194 t195 false x185000 x185001 x185002))))))))))
def pannierlaw10_PathOrder.j1 : Nat → Int → Int → Bool → ByteArray → ByteArray → ByteArray → Option (Bool)
 | 0, _, _, _, _, _, _ => none
 | k + 1, x12, x13, x100, x185000, x185001, x185002 => if x100 = true then (some false) else ((path_Under.f x185000 x185002).bind fun t199 => (if t199 = true then (if x12 < 0 then (if x13 < 0 then ((path_Under.f x185000 x185001).bind fun t200 => (some t200)) else (some true)) else (some true)) else (some true)))
end
def pannierlaw10_PathOrder.f (k : Nat) (a0 : ByteArray) (a1 : ByteArray) (a2 : ByteArray) : Option (Bool) := (pannierlaw10_cleans.f k).bind fun t183 => (if t183 = true then ((some (([a0, a1, a2] : List ByteArray) : List ByteArray)).bind fun y185 => (pannierlaw10_PathOrder.l0 k y185 (y185.length : Int) 0 (⟨#[]⟩ : ByteArray) (⟨#[]⟩ : ByteArray) (⟨#[]⟩ : ByteArray))) else (some false))
theorem pannierlaw10_PathOrder.mono_l : ∀ k, (∀ y0 y1 y2 y3 y4 y5, LeO (pannierlaw10_PathOrder.l0 k y0 y1 y2 y3 y4 y5) (pannierlaw10_PathOrder.l0 (k + 1) y0 y1 y2 y3 y4 y5)) ∧ (∀ y0 y1 y2 y3 y4 y5, LeO (pannierlaw10_PathOrder.j1 k y0 y1 y2 y3 y4 y5) (pannierlaw10_PathOrder.j1 (k + 1) y0 y1 y2 y3 y4 y5))
 | 0 => ⟨fun _ _ _ _ _ _ r h => by simp [pannierlaw10_PathOrder.l0] at h, fun _ _ _ _ _ _ r h => by simp [pannierlaw10_PathOrder.j1] at h⟩
 | k + 1 => by
  obtain ⟨ih0, ih1⟩ := pannierlaw10_PathOrder.mono_l k
  refine ⟨?_, ?_⟩
  ·intro y0 y1 y2 y3 y4 y5
   unfold pannierlaw10_PathOrder.l0
   repeat' first
   | (with_reducible exact ih0 _ _ _ _ _ _)
   | (with_reducible exact ih1 _ _ _ _ _ _)
   | (with_reducible exact pannierlaw10_cleans.mono _)
   | (with_reducible exact pannierref10_Less.mono _ _ _)
   | (with_reducible exact path_Clean.mono _ _)
   | (with_reducible exact path_Compare.mono _ _ _)
   | (with_reducible exact LeO.refl _)
   | (with_reducible exact LeO.none _)
   | (with_reducible refine LeO.ite ?_ ?_)
   | (with_reducible refine LeO.bind ?_ (fun _ => ?_))
   | exact ih0 _ _ _ _ _ _
   | exact ih1 _ _ _ _ _ _
   | exact pannierlaw10_cleans.mono _
   | exact pannierref10_Less.mono _ _ _
   | exact path_Clean.mono _ _
   | exact path_Compare.mono _ _ _
   | exact LeO.none _
   | refine LeO.ite ?_ ?_
   | refine LeO.bind ?_ (fun _ => ?_)
  ·intro y0 y1 y2 y3 y4 y5
   unfold pannierlaw10_PathOrder.j1
   repeat' first
   | (with_reducible exact ih0 _ _ _ _ _ _)
   | (with_reducible exact ih1 _ _ _ _ _ _)
   | (with_reducible exact pannierlaw10_cleans.mono _)
   | (with_reducible exact pannierref10_Less.mono _ _ _)
   | (with_reducible exact path_Clean.mono _ _)
   | (with_reducible exact path_Compare.mono _ _ _)
   | (with_reducible exact LeO.refl _)
   | (with_reducible exact LeO.none _)
   | (with_reducible refine LeO.ite ?_ ?_)
   | (with_reducible refine LeO.bind ?_ (fun _ => ?_))
   | exact ih0 _ _ _ _ _ _
   | exact ih1 _ _ _ _ _ _
   | exact pannierlaw10_cleans.mono _
   | exact pannierref10_Less.mono _ _ _
   | exact path_Clean.mono _ _
   | exact path_Compare.mono _ _ _
   | exact LeO.none _
   | refine LeO.ite ?_ ?_
   | refine LeO.bind ?_ (fun _ => ?_)
theorem pannierlaw10_PathOrder.mono : ∀ a0 a1 a2 k, LeO (pannierlaw10_PathOrder.f k a0 a1 a2) (pannierlaw10_PathOrder.f (k + 1) a0 a1 a2) := by
 intro a0 a1 a2 k
 obtain ⟨ih0, ih1⟩ := pannierlaw10_PathOrder.mono_l k
 unfold pannierlaw10_PathOrder.f
 repeat' first
   | (with_reducible exact ih0 _ _ _ _ _ _)
   | (with_reducible exact ih1 _ _ _ _ _ _)
   | (with_reducible exact pannierlaw10_cleans.mono _)
   | (with_reducible exact pannierref10_Less.mono _ _ _)
   | (with_reducible exact path_Clean.mono _ _)
   | (with_reducible exact path_Compare.mono _ _ _)
   | (with_reducible exact LeO.refl _)
   | (with_reducible exact LeO.none _)
   | (with_reducible refine LeO.ite ?_ ?_)
   | (with_reducible refine LeO.bind ?_ (fun _ => ?_))
   | exact ih0 _ _ _ _ _ _
   | exact ih1 _ _ _ _ _ _
   | exact pannierlaw10_cleans.mono _
   | exact pannierref10_Less.mono _ _ _
   | exact path_Clean.mono _ _
   | exact path_Compare.mono _ _ _
   | exact LeO.none _
   | refine LeO.ite ?_ ?_
   | refine LeO.bind ?_ (fun _ => ?_)
def pannierlaw10_PathOrder.T12 : Bool × List (List Nat × List Nat) := (true, [([], []), ([0], [0]), ([], []), ([2], [2]), ([1, 3], [1, 3]), ([], []), ([5], [5]), ([], []), ([7], [7]), ([6, 8, 4], [6, 8]), ([], []), ([10], [10]), ([], []), ([12], [12]), ([11, 13, 9], [11, 13]), ([4, 14, 0, 1, 2, 3, 4], [4]), ([9, 15, 0, 1, 2, 3, 4, 5, 6, 7, 8, 9, 15], [9]), ([14, 16, 0, 1, 2, 3, 4, 5, 6, 7, 8, 9, 10, 11, 12, 13, 14, 15, 16], [14])])
def pannierlaw10_PathOrder.B12 : List Nat := [0, 1, 0, 4, 15, 0, 32, 0, 128, 511, 0, 1024, 0, 4096, 16383, 32767, 65535, 131071]
theorem pannierlaw10_PathOrder.tab12 : rtab .any (opsOf Tryd.f4 12) = pannierlaw10_PathOrder.T12 := by kernel_rfl
theorem pannierlaw10_PathOrder.bits12 : waitsOk pannierlaw10_PathOrder.T12.2 pannierlaw10_PathOrder.B12 = true := by kernel_rfl
set_option maxHeartbeats 8000000 in
set_option maxRecDepth 100000 in
theorem pannierlaw10_PathOrder.calls (k : Nat) (a0 : ByteArray) (a1 : ByteArray) (a2 : ByteArray) (r : Bool) (w : World) (h : pannierlaw10_PathOrder.f k a0 a1 a2 = some r) (hGG0 : GG w) :
  Calls Tryd.prog 4 #[.string a0, .string a1, .string a2] w fun e w' => e = .returned (.bool r) ∧ Below w.heap.size w w' := by
 have HGG := Aside0.mk hGG0
 clear hGG0
 have hu36 := Tryd.underlying36
 have HB := Aside0.mk (Below.refl w.heap.size w)
 have H : ((pannierlaw10_cleans.f k).bind fun t183 => (if t183 = true then ((some (([a0, a1, a2] : List ByteArray) : List ByteArray)).bind fun y185 => (pannierlaw10_PathOrder.l0 k y185 (y185.length : Int) 0 (⟨#[]⟩ : ByteArray) (⟨#[]⟩ : ByteArray) (⟨#[]⟩ : ByteArray))) else (some false))) = some r := h
 clear h
 replace H := Option.bind_eq_some_iff.mp H
 obtain ⟨t183, A40, H⟩ := H
 replace H : (if t183 = true then ((some (([a0, a1, a2] : List ByteArray) : List ByteArray)).bind fun y185 => (pannierlaw10_PathOrder.l0 k y185 (y185.length : Int) 0 (⟨#[]⟩ : ByteArray) (⟨#[]⟩ : ByteArray) (⟨#[]⟩ : ByteArray))) else (some false)) = some r := H
 have A4 := Aside0.mk A40
 clear A40
 by_cases c5 : t183 = true
 ·subst c5
  have H1 : ((some (([a0, a1, a2] : List ByteArray) : List ByteArray)).bind fun y185 => (pannierlaw10_PathOrder.l0 k y185 (y185.length : Int) 0 (⟨#[]⟩ : ByteArray) (⟨#[]⟩ : ByteArray) (⟨#[]⟩ : ByteArray))) = some r := by rw [if_pos rfl] at H; exact H
  clear H
  have H := H1
  clear H1
  obtain ⟨y185, hy185⟩ : ∃ y_ : List ByteArray, y_ = (([a0, a1, a2] : List ByteArray)) := ⟨_, rfl⟩
  replace H : (pannierlaw10_PathOrder.l0 k y185 (y185.length : Int) 0 (⟨#[]⟩ : ByteArray) (⟨#[]⟩ : ByteArray) (⟨#[]⟩ : ByteArray)) = some r := by first | (rw [hy185]; with_reducible exact H) | (have H2_ := (Option.bind_some _ _).symm.trans H; rw [hy185]; with_reducible exact H2_) | (have H2_ := (Option.bind_some _ _).symm.trans H; with_reducible exact H2_) | with_reducible exact H | (rw [hy185]; exact H) | exact H
  have Ny185 := Aside0.mk hy185
  clear hy185
  have H' := Aside0.mk H
  clear H
  go_enter Tryd.func4, Tryd.ntmps4
  go_wp2_with (first | ((with_reducible refine gate_callee (f := 16) rfl ?_); refine goesL_ (some 15) rfl rfl Tryd.func16 (by kernel_rfl) rfl #[] rfl (by (try simp only [List.map_toArray, List.map_cons, List.map_nil]); first | done | rfl | (simp only [List.length_drop, List.length_take]; rfl)) ?_; (with_reducible refine (pannierlaw10_cleans.calls k  true _ A4.out ?hGG).mono ?_); (case hGG => exact GG_below HGG.out (by repeat (first | (with_reducible first | exact HB.out | apply below_alloc | apply pw_below_drewN | apply below_drew1) | exact HB.out))); rintro e w6 ⟨rfl, hb⟩; refine ⟨_, rfl, ?_⟩; have n0_ := Aside0.mk (below_step (by repeat (first | (with_reducible first | exact HB.out | apply below_alloc | apply pw_below_drewN | apply below_drew1) | exact HB.out)) hb); clear HB; have HB := n0_; clear n0_; (try clear hb); (try clear hb2); (try clear hk); (try clear hi)) | ((with_reducible refine gate_dst (N := 7) rfl ?_); (try (refine gate_guard (by rfl) ?_; dsimp only)); refine box_event ?hg (N := 7) ?hd (cs := #[.string (⟨#[]⟩ : ByteArray), .string (⟨#[]⟩ : ByteArray), .string (⟨#[]⟩ : ByteArray)]) (t := 36) ?hr ?_; (case hd => rfl); (case hg => rfl); (case hr => first | (go_simp; done) | (go_simp; rfl)); intro gb184 hg w7 hbox hb; have n0_ := Aside0.mk (below_step (by repeat (first | (with_reducible first | exact HB.out | apply below_alloc | apply pw_below_drewN | apply below_drew1) | exact HB.out)) hb); have n1_ := Aside0.mk (hbox); have n2_ := Aside0.mk ((by rw [hg]; exact (below_size (by repeat (first | (with_reducible first | exact HB.out | apply below_alloc | apply pw_below_drewN | apply below_drew1) | exact HB.out))) : w.heap.size ≤ gb184)); have n3_ := Aside0.mk ((by rw [hg]; exact (below_size (by repeat (first | (with_reducible first | exact HB.out | apply below_alloc | apply pw_below_drewN | apply below_drew1) | exact HB.out))) : w.heap.size ≤ gb184)); clear HB; have HB := n0_; have BK184 := n1_; have GW184 := n2_; have GE184 := n3_; clear n0_ n1_ n2_ n3_; clear hb hbox hg; have hcz8_0 : w7.cell? ⟨gb184, 0, none⟩ = some (.string (⟨#[]⟩ : ByteArray)) := (blk_cell BK184.out 0).trans rfl; have hcz8_1 : w7.cell? ⟨gb184, 1, none⟩ = some (.string (⟨#[]⟩ : ByteArray)) := (blk_cell BK184.out 1).trans rfl; have hcz8_2 : w7.cell? ⟨gb184, 2, none⟩ = some (.string (⟨#[]⟩ : ByteArray)) := (blk_cell BK184.out 2).trans rfl; have hfz8_0 := blk_frozen BK184.out 0; have hfz8_1 := blk_frozen BK184.out 1; have hfz8_2 := blk_frozen BK184.out 2) | ((with_reducible refine gate_dst (N := 21) rfl ?_); (try (refine gate_guard (by rfl) ?_; dsimp only)); refine Kd.R_lit Kd.string _ 9 ?hg (N := 21) ?hd (xs := ([a0, a1, a2] : List ByteArray)) (inner := [.string a0, .string a1, .string a2]) (ok := fun _ => True) (okp := fun _ => True) ?hr ?hp (fun _ hk => hk) trivial (Below.refl _ _) (Nat.le_refl _) (by simp) ?_; (case hd => rfl); (case hg => rfl); (case hr => first | (go_simp; done) | (go_simp; rfl)); (case hp => exact (Reps.one (show Kd.M Kd.string _ _ _ a0 [.string a0] from rfl) (Reps.one (show Kd.M Kd.string _ _ _ a1 [.string a1] from rfl) (Reps.one (show Kd.M Kd.string _ _ _ a2 [.string a2] from rfl) (Reps.none _ _))))); intro v186 w9 ho10 hb hg_ hnew_; clear hg_ hnew_; (first | rw [← Ny185.out] at ho10 | (simp only [Int.reduceToNat] at ho10; rw [← Ny185.out] at ho10)); have n0_ := Aside0.mk (Kd.R_lower ho10 (below_size (by repeat (first | (with_reducible first | exact HB.out | apply below_alloc | apply pw_below_drewN | apply below_drew1 | refine below_set ?_ GE184.out) | exact HB.out)))); have n1_ := Aside0.mk (blk_below (g := gb184) (o := .cells #[.string (⟨#[]⟩ : ByteArray), .string (⟨#[]⟩ : ByteArray), .string (⟨#[]⟩ : ByteArray)] 36 (0, 0)) (by (with_reducible repeat (first | refine blk_drewN ?_ _ | refine blk_drew ?_ | refine blk_alloc ?_ _)); refine blk_put (cs := #[.string (⟨#[]⟩ : ByteArray), .string (⟨#[]⟩ : ByteArray), .string (⟨#[]⟩ : ByteArray)]) ?_ 2 _ rfl; (with_reducible repeat (first | refine blk_drewN ?_ _ | refine blk_drew ?_ | refine blk_alloc ?_ _)); refine blk_put (cs := #[.string (⟨#[]⟩ : ByteArray), .string (⟨#[]⟩ : ByteArray), .string (⟨#[]⟩ : ByteArray)]) ?_ 1 _ rfl; (with_reducible repeat (first | refine blk_drewN ?_ _ | refine blk_drew ?_ | refine blk_alloc ?_ _)); refine blk_put (cs := #[.string (⟨#[]⟩ : ByteArray), .string (⟨#[]⟩ : ByteArray), .string (⟨#[]⟩ : ByteArray)]) ?_ 0 _ rfl; (with_reducible repeat (first | refine blk_drewN ?_ _ | refine blk_drew ?_ | refine blk_alloc ?_ _)); exact BK184.out) hb); have n2_ := Aside0.mk (below_step (by repeat (first | (with_reducible first | exact HB.out | apply below_alloc | apply pw_below_drewN | apply below_drew1 | refine below_set ?_ GE184.out) | exact HB.out)) hb); clear BK184; clear HB; have HO187 := n0_; have BK184 := n1_; have HB := n2_; clear n0_ n1_ n2_; clear hb ho10; obtain ⟨Ao11, co11, eo11⟩ := Kd.R_slice HO187.out; subst eo11))
  go_loopg [23] k (fun kq v23 w' => ∃ (x23_1 : Int) (x185000_1 : ByteArray) (x185001_1 : ByteArray) (x185002_1 : ByteArray), v23 = .int .i64 x23_1 ∧ Aside0 (pannierlaw10_PathOrder.l0 kq y185 (y185.length : Int) x23_1 x185000_1 x185001_1 x185002_1 = some r) ∧ Aside0 (kq ≤ k) ∧ Aside0 (Kd.R Kd.string 9 w' w.heap.size (fun _ => True) (.slice Ao11 y185.length co11) y185) ∧ Aside0 (w'.heap[gb184]? = some (.cells #[.string x185000_1, .string x185001_1, .string x185002_1] 36 (0, 0))) ∧ Aside0 (Below w.heap.size w w'))
  case atStart => exact ⟨(0), ((⟨#[]⟩ : ByteArray)), ((⟨#[]⟩ : ByteArray)), ((⟨#[]⟩ : ByteArray)), (by first | rfl | (simp; done) | (simp [*]; done) | (simp [wrap64]; done)), H', ⟨Nat.le_refl _⟩, ⟨by (with_reducible repeat (first | apply Kd.R_alloc | apply Kd.R_drewN | apply Kd.R_drew)); exact HO187.out⟩, ⟨by (with_reducible repeat (first | refine blk_drewN ?_ _ | refine blk_drew ?_ | refine blk_alloc ?_ _)); exact BK184.out⟩, ⟨by repeat (first | (with_reducible first | exact HB.out | apply below_alloc | apply pw_below_drewN | apply below_drew1 | refine below_set ?_ GE184.out) | exact HB.out)⟩⟩
  case round =>
   clear H'
   try clear c1
   try clear p2
   try clear c4
   try clear c5
   try clear hcz8_0
   try clear hcz8_1
   try clear hcz8_2
   try clear hfz8_0
   try clear hfz8_1
   try clear hfz8_2
   obtain ⟨x23_1, x185000_1, x185001_1, x185002_1, rfl, HA, HK1, HO_21, BK184, HB⟩ := hrel
   cases gk with
   | zero => exact absurd HA.out (by simp [pannierlaw10_PathOrder.l0])
   | succ k1 =>
    have H := HA.out
    clear HA
    simp only [pannierlaw10_PathOrder.l0] at H
    by_cases c12 : x23_1 < (y185.length : Int)
    ·rw [if_pos c12] at H
     have c12b0 : decide (x23_1 < (y185.length : Int)) = true := decide_eq_true c12
     clear c12
     by_cases c13 : 0 ≤ x23_1
     ·rw [if_pos c13] at H
      have c13b0 : decide (0 ≤ x23_1) = true := decide_eq_true c13
      clear c13
      by_cases c14 : x23_1 < (y185.length : Int)
      ·rw [if_pos c14] at H
       have c14b0 : decide (x23_1 < (y185.length : Int)) = true := decide_eq_true c14
       clear c14
       replace H := Option.bind_eq_some_iff.mp H
       obtain ⟨⟨t189, t190⟩, A150, H⟩ := H
       replace H : (if t190 = 0 then (if ((rdOf ByteArray.empty y185 x23_1).size : Int) > 1000 then (some true) else ((path_Join.f t189).bind fun t193 => (if x23_1 = 0 then (pannierlaw10_PathOrder.l0 k1 y185 (y185.length : Int) (wrap64 (x23_1 + 1)) t193 x185001_1 x185002_1) else (if x23_1 = 1 then (pannierlaw10_PathOrder.l0 k1 y185 (y185.length : Int) (wrap64 (x23_1 + 1)) x185000_1 t193 x185002_1) else (if x23_1 = 2 then (pannierlaw10_PathOrder.l0 k1 y185 (y185.length : Int) (wrap64 (x23_1 + 1)) x185000_1 x185001_1 t193) else (none)))))) else (some true)) = some r := H
       have A15 := Aside0.mk A150
       clear A150
       by_cases c16 : t190 = 0
       ·rw [if_pos c16] at H
        have c16b0 : (t190 == 0) = true := beq_iff_eq.mpr c16
        have c16b1 : (t190 != 0) = false := bne_eq_false_iff_eq.mpr c16
        clear c16
        by_cases c17 : ((rdOf ByteArray.empty y185 x23_1).size : Int) > 1000
        ·rw [if_pos c17] at H
         have c17b0 : decide (1000 < ((rdOf ByteArray.empty y185 x23_1).size : Int)) = true := decide_eq_true c17
         have c17b1 : decide (1000 < (rdOf ByteArray.empty y185 x23_1).size) = true := decide_eq_true (by omega)
         clear c17
         obtain rfl := Option.some.inj H
         have p188 : 0 ≤ (x23_1 : Int) := of_decide_eq_true (by first | (with_reducible assumption) | assumption)
         have q188 : x23_1 < (y185.length : Int) := of_decide_eq_true (by first | (with_reducible assumption) | assumption)
         obtain ⟨ad188, e188, hx188_0⟩ := Kd.at_string (Kd.R_reads' HO_21.out).2.2 x23_1 p188 q188
         cases e188
         replace p188 := eq_true p188
         replace q188 := eq_true q188
         go_wp2_with (first | ((with_reducible refine gate_callee (f := 17) rfl ?_); refine goesL_ (some 30) rfl rfl Tryd.func17 (by kernel_rfl) rfl #[.string (rdOf ByteArray.empty y185 x23_1)] rfl (by (try simp only [List.map_toArray, List.map_cons, List.map_nil]); first | done | rfl | (simp only [List.length_drop, List.length_take]; rfl)) ?_; (with_reducible refine (path_Clean.calls k1 (rdOf ByteArray.empty y185 x23_1) t189 t190 _ A15.out ?hGG).mono ?_); (case hGG => exact GG_below HGG.out (by repeat (first | (with_reducible first | exact HB.out | apply below_alloc | apply pw_below_drewN | apply below_drew1) | exact HB.out))); rintro e w18 ⟨v191, rfl, ho0, hb⟩; refine ⟨_, rfl, ?_⟩; have n0_ := Aside0.mk (Kd.R_elder' (by (with_reducible repeat (first | apply Kd.R_alloc | apply Kd.R_drewN | apply Kd.R_drew)); exact HO_21.out) (Kd.R_base ho0) hb); have n1_ := Aside0.mk (Kd.R_lower (Kd.R_new' ho0 (Kd.R_lt (by (with_reducible repeat (first | apply Kd.R_alloc | apply Kd.R_drewN | apply Kd.R_drew)); exact HO_21.out))) (below_size (by repeat (first | (with_reducible first | exact HB.out | apply below_alloc | apply pw_below_drewN | apply below_drew1 | refine below_set ?_ GE184.out) | exact HB.out)))); have n2_ := Aside0.mk (blk_below (g := gb184) (o := .cells #[.string x185000_1, .string x185001_1, .string x185002_1] 36 (0, 0)) (by (with_reducible repeat (first | refine blk_drewN ?_ _ | refine blk_drew ?_ | refine blk_alloc ?_ _)); exact BK184.out) hb); have n3_ := Aside0.mk (below_step (by repeat (first | (with_reducible first | exact HB.out | apply below_alloc | apply pw_below_drewN | apply below_drew1 | refine below_set ?_ GE184.out) | exact HB.out)) hb); clear HO_21; clear BK184; clear HB; have HO_21 := n0_; have HO192 := n1_; have BK184 := n2_; have HB := n3_; clear n0_ n1_ n2_ n3_; (try clear hb); (try clear hb2); (try clear hk); (try clear hi); (try clear ho0)))
         all_goals (go_ret; exact ⟨by first | rfl | (simp [errW_none, errW_some] <;> rfl) | (simp [*, errW_none, errW_some] <;> rfl), by repeat (first | (with_reducible first | exact HB.out | apply below_alloc | apply pw_below_drewN | apply below_drew1 | refine below_set ?_ GE184.out) | exact HB.out)⟩)
        ·rw [if_neg c17] at H
         have c17b0 : decide (1000 < ((rdOf ByteArray.empty y185 x23_1).size : Int)) = false := decide_eq_false c17
         have c17b1 : decide (1000 < (rdOf ByteArray.empty y185 x23_1).size) = false := decide_eq_false (by omega)
         clear c17
         replace H := Option.bind_eq_some_iff.mp H
         obtain ⟨t193, A190, H⟩ := H
         replace H : (if x23_1 = 0 then (pannierlaw10_PathOrder.l0 k1 y185 (y185.length : Int) (wrap64 (x23_1 + 1)) t193 x185001_1 x185002_1) else (if x23_1 = 1 then (pannierlaw10_PathOrder.l0 k1 y185 (y185.length : Int) (wrap64 (x23_1 + 1)) x185000_1 t193 x185002_1) else (if x23_1 = 2 then (pannierlaw10_PathOrder.l0 k1 y185 (y185.length : Int) (wrap64 (x23_1 + 1)) x185000_1 x185001_1 t193) else (none)))) = some r := H
         have A19 := Aside0.mk A190
         clear A190
         by_cases c20 : x23_1 = 0
         ·subst c20
          have H1 : (pannierlaw10_PathOrder.l0 k1 y185 (y185.length : Int) (wrap64 (0 + 1)) t193 x185001_1 x185002_1) = some r := by rw [if_pos rfl] at H; exact H
          clear H
          have H := H1
          clear H1
          have H' := Aside0.mk H
          clear H
          have p188 : 0 ≤ (0 : Int) := (by omega)
          have q188 : 0 < (y185.length : Int) := of_decide_eq_true (by first | (with_reducible assumption) | assumption)
          obtain ⟨ad188, e188, hx188_0⟩ := Kd.at_string (Kd.R_reads' HO_21.out).2.2 0 p188 q188
          cases e188
          have qi188 : (0 < y185.length) = True := eq_true (by omega)
          (try rw [show ((0 : Int)).toNat = 0 from rfl] at hx188_0)
          (try rw [Addr.add_zero'] at hx188_0)
          replace p188 := eq_true p188
          replace q188 := eq_true q188
          go_wp2_with (first | ((with_reducible refine gate_callee (f := 17) rfl ?_); refine goesL_ (some 30) rfl rfl Tryd.func17 (by kernel_rfl) rfl #[.string (rdOf ByteArray.empty y185 0)] rfl (by (try simp only [List.map_toArray, List.map_cons, List.map_nil]); first | done | rfl | (simp only [List.length_drop, List.length_take]; rfl)) ?_; (with_reducible refine (path_Clean.calls k1 (rdOf ByteArray.empty y185 0) t189 t190 _ A15.out ?hGG).mono ?_); (case hGG => exact GG_below HGG.out (by repeat (first | (with_reducible first | exact HB.out | apply below_alloc | apply pw_below_drewN | apply below_drew1) | exact HB.out))); rintro e w21 ⟨v191, rfl, ho0, hb⟩; refine ⟨_, rfl, ?_⟩; have n0_ := Aside0.mk (Kd.R_elder' (by (with_reducible repeat (first | apply Kd.R_alloc | apply Kd.R_drewN | apply Kd.R_drew)); exact HO_21.out) (Kd.R_base ho0) hb); have n1_ := Aside0.mk (Kd.R_lower (Kd.R_new' ho0 (Kd.R_lt (by (with_reducible repeat (first | apply Kd.R_alloc | apply Kd.R_drewN | apply Kd.R_drew)); exact HO_21.out))) (below_size (by repeat (first | (with_reducible first | exact HB.out | apply below_alloc | apply pw_below_drewN | apply below_drew1 | refine below_set ?_ GE184.out) | exact HB.out)))); have n2_ := Aside0.mk (blk_below (g := gb184) (o := .cells #[.string x185000_1, .string x185001_1, .string x185002_1] 36 (0, 0)) (by (with_reducible repeat (first | refine blk_drewN ?_ _ | refine blk_drew ?_ | refine blk_alloc ?_ _)); exact BK184.out) hb); have n3_ := Aside0.mk (below_step (by repeat (first | (with_reducible first | exact HB.out | apply below_alloc | apply pw_below_drewN | apply below_drew1 | refine below_set ?_ GE184.out) | exact HB.out)) hb); clear HO_21; clear BK184; clear HB; have HO_21 := n0_; have HO192 := n1_; have BK184 := n2_; have HB := n3_; clear n0_ n1_ n2_ n3_; (try clear hb); (try clear hb2); (try clear hk); (try clear hi); (try clear ho0); obtain ⟨Ao22, co22, eo22⟩ := Kd.R_slice HO192.out; subst eo22) | ((with_reducible refine gate_callee (f := 22) rfl ?_); refine goesL_ (some 42) rfl rfl Tryd.func22 (by kernel_rfl) rfl #[.slice Ao22 t189.length co22] rfl (by (try simp only [List.map_toArray, List.map_cons, List.map_nil]); first | done | rfl | (simp only [List.length_drop, List.length_take]; rfl)) ?_; (with_reducible refine (path_Join.calls _ _ t189 t193 _ ?side1 ?side2 A19.out).mono ?_); (case side1 => repeat (first | exact (Kd.R_reads' HO192.out).2.2 | (with_reducible refine Kd.C_alloc ?_ _) | (with_reducible refine Kd.C_drewN ?_ _) | (with_reducible refine Kd.C_drew ?_))); (case side2 => exact (Kd.R_reads' HO192.out).2.1); rintro e w23 ⟨rfl, hb⟩; refine ⟨_, rfl, ?_⟩; have n0_ := Aside0.mk (Kd.R_below (by (with_reducible repeat (first | apply Kd.R_alloc | apply Kd.R_drewN | apply Kd.R_drew)); exact HO_21.out) hb); have n1_ := Aside0.mk (Kd.R_below (by (with_reducible repeat (first | apply Kd.R_alloc | apply Kd.R_drewN | apply Kd.R_drew)); exact HO192.out) hb); have n2_ := Aside0.mk (blk_below (g := gb184) (o := .cells #[.string x185000_1, .string x185001_1, .string x185002_1] 36 (0, 0)) (by (with_reducible repeat (first | refine blk_drewN ?_ _ | refine blk_drew ?_ | refine blk_alloc ?_ _)); exact BK184.out) hb); have n3_ := Aside0.mk (below_step (by repeat (first | (with_reducible first | exact HB.out | apply below_alloc | apply pw_below_drewN | apply below_drew1 | refine below_set ?_ GE184.out) | exact HB.out)) hb); clear HO_21; clear HO192; clear BK184; clear HB; have HO_21 := n0_; have HO192 := n1_; have BK184 := n2_; have HB := n3_; clear n0_ n1_ n2_ n3_; (try clear hb); (try clear hb2); (try clear hk); (try clear hi); have hcz24_0 : w23.cell? ⟨gb184, 0, none⟩ = some (.string x185000_1) := (blk_cell BK184.out 0).trans rfl; have hcz24_1 : w23.cell? ⟨gb184, 1, none⟩ = some (.string x185001_1) := (blk_cell BK184.out 1).trans rfl; have hcz24_2 : w23.cell? ⟨gb184, 2, none⟩ = some (.string x185002_1) := (blk_cell BK184.out 2).trans rfl; have hfz24_0 := blk_frozen BK184.out 0; have hfz24_1 := blk_frozen BK184.out 1; have hfz24_2 := blk_frozen BK184.out 2))
          go_roundg k1
          case measure => have := HK1.out; omega
          case rel => exact ⟨(wrap64 (0 + 1)), (t193), (x185001_1), (x185002_1), (by first | rfl | (simp; done) | (simp [*]; done) | (simp [wrap64]; done)), H', ⟨by have := HK1.out; omega⟩, ⟨by (with_reducible repeat (first | apply Kd.R_alloc | apply Kd.R_drewN | apply Kd.R_drew)); exact Kd.R_mono (Kd.R_far (p := ⟨gb184, 0, none⟩) (Kd.R_types HO_21.out BK184.out (by decide)) (fun _ hk => hk.2) (.string t193)) (fun _ hk => trivial)⟩, ⟨by (with_reducible repeat (first | refine blk_drewN ?_ _ | refine blk_drew ?_ | refine blk_alloc ?_ _)); refine blk_put (cs := #[.string x185000_1, .string x185001_1, .string x185002_1]) ?_ 0 _ rfl; (with_reducible repeat (first | refine blk_drewN ?_ _ | refine blk_drew ?_ | refine blk_alloc ?_ _)); exact BK184.out⟩, ⟨by repeat (first | (with_reducible first | exact HB.out | apply below_alloc | apply pw_below_drewN | apply below_drew1 | refine below_set ?_ GE184.out) | exact HB.out)⟩⟩
         ·have H1 : (if x23_1 = 1 then (pannierlaw10_PathOrder.l0 k1 y185 (y185.length : Int) (wrap64 (x23_1 + 1)) x185000_1 t193 x185002_1) else (if x23_1 = 2 then (pannierlaw10_PathOrder.l0 k1 y185 (y185.length : Int) (wrap64 (x23_1 + 1)) x185000_1 x185001_1 t193) else (none))) = some r := by rw [if_neg c20] at H; exact H
          clear H
          have H := H1
          clear H1
          by_cases c25 : x23_1 = 1
          ·subst c25
           have H1 : (pannierlaw10_PathOrder.l0 k1 y185 (y185.length : Int) (wrap64 (1 + 1)) x185000_1 t193 x185002_1) = some r := by rw [if_pos rfl] at H; exact H
           clear H
           have H := H1
           clear H1
           have H' := Aside0.mk H
           clear H
           have p188 : 0 ≤ (1 : Int) := (by omega)
           have q188 : 1 < (y185.length : Int) := of_decide_eq_true (by first | (with_reducible assumption) | assumption)
           obtain ⟨ad188, e188, hx188_0⟩ := Kd.at_string (Kd.R_reads' HO_21.out).2.2 1 p188 q188
           cases e188
           (try simp only [show (1 : Int).toNat = 1 from rfl, Nat.reduceMul, Nat.reduceEqDiff, Go.Addr.add, ↓reduceIte] at hx188_0)
           have qi188 : (1 < y185.length) = True := eq_true (by omega)
           (try rw [show ((1 : Int)).toNat = 1 from rfl] at hx188_0)
           replace p188 := eq_true p188
           replace q188 := eq_true q188
           go_wp2_with (first | ((with_reducible refine gate_callee (f := 17) rfl ?_); refine goesL_ (some 30) rfl rfl Tryd.func17 (by kernel_rfl) rfl #[.string (rdOf ByteArray.empty y185 1)] rfl (by (try simp only [List.map_toArray, List.map_cons, List.map_nil]); first | done | rfl | (simp only [List.length_drop, List.length_take]; rfl)) ?_; (with_reducible refine (path_Clean.calls k1 (rdOf ByteArray.empty y185 1) t189 t190 _ A15.out ?hGG).mono ?_); (case hGG => exact GG_below HGG.out (by repeat (first | (with_reducible first | exact HB.out | apply below_alloc | apply pw_below_drewN | apply below_drew1) | exact HB.out))); rintro e w26 ⟨v191, rfl, ho0, hb⟩; refine ⟨_, rfl, ?_⟩; have n0_ := Aside0.mk (Kd.R_elder' (by (with_reducible repeat (first | apply Kd.R_alloc | apply Kd.R_drewN | apply Kd.R_drew)); exact HO_21.out) (Kd.R_base ho0) hb); have n1_ := Aside0.mk (Kd.R_lower (Kd.R_new' ho0 (Kd.R_lt (by (with_reducible repeat (first | apply Kd.R_alloc | apply Kd.R_drewN | apply Kd.R_drew)); exact HO_21.out))) (below_size (by repeat (first | (with_reducible first | exact HB.out | apply below_alloc | apply pw_below_drewN | apply below_drew1 | refine below_set ?_ GE184.out) | exact HB.out)))); have n2_ := Aside0.mk (blk_below (g := gb184) (o := .cells #[.string x185000_1, .string x185001_1, .string x185002_1] 36 (0, 0)) (by (with_reducible repeat (first | refine blk_drewN ?_ _ | refine blk_drew ?_ | refine blk_alloc ?_ _)); exact BK184.out) hb); have n3_ := Aside0.mk (below_step (by repeat (first | (with_reducible first | exact HB.out | apply below_alloc | apply pw_below_drewN | apply below_drew1 | refine below_set ?_ GE184.out) | exact HB.out)) hb); clear HO_21; clear BK184; clear HB; have HO_21 := n0_; have HO192 := n1_; have BK184 := n2_; have HB := n3_; clear n0_ n1_ n2_ n3_; (try clear hb); (try clear hb2); (try clear hk); (try clear hi); (try clear ho0); obtain ⟨Ao27, co27, eo27⟩ := Kd.R_slice HO192.out; subst eo27) | ((with_reducible refine gate_callee (f := 22) rfl ?_); refine goesL_ (some 42) rfl rfl Tryd.func22 (by kernel_rfl) rfl #[.slice Ao27 t189.length co27] rfl (by (try simp only [List.map_toArray, List.map_cons, List.map_nil]); first | done | rfl | (simp only [List.length_drop, List.length_take]; rfl)) ?_; (with_reducible refine (path_Join.calls _ _ t189 t193 _ ?side1 ?side2 A19.out).mono ?_); (case side1 => repeat (first | exact (Kd.R_reads' HO192.out).2.2 | (with_reducible refine Kd.C_alloc ?_ _) | (with_reducible refine Kd.C_drewN ?_ _) | (with_reducible refine Kd.C_drew ?_))); (case side2 => exact (Kd.R_reads' HO192.out).2.1); rintro e w28 ⟨rfl, hb⟩; refine ⟨_, rfl, ?_⟩; have n0_ := Aside0.mk (Kd.R_below (by (with_reducible repeat (first | apply Kd.R_alloc | apply Kd.R_drewN | apply Kd.R_drew)); exact HO_21.out) hb); have n1_ := Aside0.mk (Kd.R_below (by (with_reducible repeat (first | apply Kd.R_alloc | apply Kd.R_drewN | apply Kd.R_drew)); exact HO192.out) hb); have n2_ := Aside0.mk (blk_below (g := gb184) (o := .cells #[.string x185000_1, .string x185001_1, .string x185002_1] 36 (0, 0)) (by (with_reducible repeat (first | refine blk_drewN ?_ _ | refine blk_drew ?_ | refine blk_alloc ?_ _)); exact BK184.out) hb); have n3_ := Aside0.mk (below_step (by repeat (first | (with_reducible first | exact HB.out | apply below_alloc | apply pw_below_drewN | apply below_drew1 | refine below_set ?_ GE184.out) | exact HB.out)) hb); clear HO_21; clear HO192; clear BK184; clear HB; have HO_21 := n0_; have HO192 := n1_; have BK184 := n2_; have HB := n3_; clear n0_ n1_ n2_ n3_; (try clear hb); (try clear hb2); (try clear hk); (try clear hi); have hcz29_0 : w28.cell? ⟨gb184, 0, none⟩ = some (.string x185000_1) := (blk_cell BK184.out 0).trans rfl; have hcz29_1 : w28.cell? ⟨gb184, 1, none⟩ = some (.string x185001_1) := (blk_cell BK184.out 1).trans rfl; have hcz29_2 : w28.cell? ⟨gb184, 2, none⟩ = some (.string x185002_1) := (blk_cell BK184.out 2).trans rfl; have hfz29_0 := blk_frozen BK184.out 0; have hfz29_1 := blk_frozen BK184.out 1; have hfz29_2 := blk_frozen BK184.out 2))
           go_roundg k1
           case measure => have := HK1.out; omega
           case rel => exact ⟨(wrap64 (1 + 1)), (x185000_1), (t193), (x185002_1), (by first | rfl | (simp; done) | (simp [*]; done) | (simp [wrap64]; done)), H', ⟨by have := HK1.out; omega⟩, ⟨by (with_reducible repeat (first | apply Kd.R_alloc | apply Kd.R_drewN | apply Kd.R_drew)); exact Kd.R_mono (Kd.R_far (p := ⟨gb184, 1, none⟩) (Kd.R_types HO_21.out BK184.out (by decide)) (fun _ hk => hk.2) (.string t193)) (fun _ hk => trivial)⟩, ⟨by (with_reducible repeat (first | refine blk_drewN ?_ _ | refine blk_drew ?_ | refine blk_alloc ?_ _)); refine blk_put (cs := #[.string x185000_1, .string x185001_1, .string x185002_1]) ?_ 1 _ rfl; (with_reducible repeat (first | refine blk_drewN ?_ _ | refine blk_drew ?_ | refine blk_alloc ?_ _)); exact BK184.out⟩, ⟨by repeat (first | (with_reducible first | exact HB.out | apply below_alloc | apply pw_below_drewN | apply below_drew1 | refine below_set ?_ GE184.out) | exact HB.out)⟩⟩
          ·have H1 : (if x23_1 = 2 then (pannierlaw10_PathOrder.l0 k1 y185 (y185.length : Int) (wrap64 (x23_1 + 1)) x185000_1 x185001_1 t193) else (none)) = some r := by rw [if_neg c25] at H; exact H
           clear H
           have H := H1
           clear H1
           by_cases c30 : x23_1 = 2
           ·subst c30
            have H1 : (pannierlaw10_PathOrder.l0 k1 y185 (y185.length : Int) (wrap64 (2 + 1)) x185000_1 x185001_1 t193) = some r := by rw [if_pos rfl] at H; exact H
            clear H
            have H := H1
            clear H1
            have H' := Aside0.mk H
            clear H
            have p188 : 0 ≤ (2 : Int) := (by omega)
            have q188 : 2 < (y185.length : Int) := of_decide_eq_true (by first | (with_reducible assumption) | assumption)
            obtain ⟨ad188, e188, hx188_0⟩ := Kd.at_string (Kd.R_reads' HO_21.out).2.2 2 p188 q188
            cases e188
            (try simp only [show (2 : Int).toNat = 2 from rfl, Nat.reduceMul, Nat.reduceEqDiff, Go.Addr.add, ↓reduceIte] at hx188_0)
            have qi188 : (2 < y185.length) = True := eq_true (by omega)
            (try rw [show ((2 : Int)).toNat = 2 from rfl] at hx188_0)
            replace p188 := eq_true p188
            replace q188 := eq_true q188
            go_wp2_with (first | ((with_reducible refine gate_callee (f := 17) rfl ?_); refine goesL_ (some 30) rfl rfl Tryd.func17 (by kernel_rfl) rfl #[.string (rdOf ByteArray.empty y185 2)] rfl (by (try simp only [List.map_toArray, List.map_cons, List.map_nil]); first | done | rfl | (simp only [List.length_drop, List.length_take]; rfl)) ?_; (with_reducible refine (path_Clean.calls k1 (rdOf ByteArray.empty y185 2) t189 t190 _ A15.out ?hGG).mono ?_); (case hGG => exact GG_below HGG.out (by repeat (first | (with_reducible first | exact HB.out | apply below_alloc | apply pw_below_drewN | apply below_drew1) | exact HB.out))); rintro e w31 ⟨v191, rfl, ho0, hb⟩; refine ⟨_, rfl, ?_⟩; have n0_ := Aside0.mk (Kd.R_elder' (by (with_reducible repeat (first | apply Kd.R_alloc | apply Kd.R_drewN | apply Kd.R_drew)); exact HO_21.out) (Kd.R_base ho0) hb); have n1_ := Aside0.mk (Kd.R_lower (Kd.R_new' ho0 (Kd.R_lt (by (with_reducible repeat (first | apply Kd.R_alloc | apply Kd.R_drewN | apply Kd.R_drew)); exact HO_21.out))) (below_size (by repeat (first | (with_reducible first | exact HB.out | apply below_alloc | apply pw_below_drewN | apply below_drew1 | refine below_set ?_ GE184.out) | exact HB.out)))); have n2_ := Aside0.mk (blk_below (g := gb184) (o := .cells #[.string x185000_1, .string x185001_1, .string x185002_1] 36 (0, 0)) (by (with_reducible repeat (first | refine blk_drewN ?_ _ | refine blk_drew ?_ | refine blk_alloc ?_ _)); exact BK184.out) hb); have n3_ := Aside0.mk (below_step (by repeat (first | (with_reducible first | exact HB.out | apply below_alloc | apply pw_below_drewN | apply below_drew1 | refine below_set ?_ GE184.out) | exact HB.out)) hb); clear HO_21; clear BK184; clear HB; have HO_21 := n0_; have HO192 := n1_; have BK184 := n2_; have HB := n3_; clear n0_ n1_ n2_ n3_; (try clear hb); (try clear hb2); (try clear hk); (try clear hi); (try clear ho0); obtain ⟨Ao32, co32, eo32⟩ := Kd.R_slice HO192.out; subst eo32) | ((with_reducible refine gate_callee (f := 22) rfl ?_); refine goesL_ (some 42) rfl rfl Tryd.func22 (by kernel_rfl) rfl #[.slice Ao32 t189.length co32] rfl (by (try simp only [List.map_toArray, List.map_cons, List.map_nil]); first | done | rfl | (simp only [List.length_drop, List.length_take]; rfl)) ?_; (with_reducible refine (path_Join.calls _ _ t189 t193 _ ?side1 ?side2 A19.out).mono ?_); (case side1 => repeat (first | exact (Kd.R_reads' HO192.out).2.2 | (with_reducible refine Kd.C_alloc ?_ _) | (with_reducible refine Kd.C_drewN ?_ _) | (with_reducible refine Kd.C_drew ?_))); (case side2 => exact (Kd.R_reads' HO192.out).2.1); rintro e w33 ⟨rfl, hb⟩; refine ⟨_, rfl, ?_⟩; have n0_ := Aside0.mk (Kd.R_below (by (with_reducible repeat (first | apply Kd.R_alloc | apply Kd.R_drewN | apply Kd.R_drew)); exact HO_21.out) hb); have n1_ := Aside0.mk (Kd.R_below (by (with_reducible repeat (first | apply Kd.R_alloc | apply Kd.R_drewN | apply Kd.R_drew)); exact HO192.out) hb); have n2_ := Aside0.mk (blk_below (g := gb184) (o := .cells #[.string x185000_1, .string x185001_1, .string x185002_1] 36 (0, 0)) (by (with_reducible repeat (first | refine blk_drewN ?_ _ | refine blk_drew ?_ | refine blk_alloc ?_ _)); exact BK184.out) hb); have n3_ := Aside0.mk (below_step (by repeat (first | (with_reducible first | exact HB.out | apply below_alloc | apply pw_below_drewN | apply below_drew1 | refine below_set ?_ GE184.out) | exact HB.out)) hb); clear HO_21; clear HO192; clear BK184; clear HB; have HO_21 := n0_; have HO192 := n1_; have BK184 := n2_; have HB := n3_; clear n0_ n1_ n2_ n3_; (try clear hb); (try clear hb2); (try clear hk); (try clear hi); have hcz34_0 : w33.cell? ⟨gb184, 0, none⟩ = some (.string x185000_1) := (blk_cell BK184.out 0).trans rfl; have hcz34_1 : w33.cell? ⟨gb184, 1, none⟩ = some (.string x185001_1) := (blk_cell BK184.out 1).trans rfl; have hcz34_2 : w33.cell? ⟨gb184, 2, none⟩ = some (.string x185002_1) := (blk_cell BK184.out 2).trans rfl; have hfz34_0 := blk_frozen BK184.out 0; have hfz34_1 := blk_frozen BK184.out 1; have hfz34_2 := blk_frozen BK184.out 2))
            go_roundg k1
            case measure => have := HK1.out; omega
            case rel => exact ⟨(wrap64 (2 + 1)), (x185000_1), (x185001_1), (t193), (by first | rfl | (simp; done) | (simp [*]; done) | (simp [wrap64]; done)), H', ⟨by have := HK1.out; omega⟩, ⟨by (with_reducible repeat (first | apply Kd.R_alloc | apply Kd.R_drewN | apply Kd.R_drew)); exact Kd.R_mono (Kd.R_far (p := ⟨gb184, 2, none⟩) (Kd.R_types HO_21.out BK184.out (by decide)) (fun _ hk => hk.2) (.string t193)) (fun _ hk => trivial)⟩, ⟨by (with_reducible repeat (first | refine blk_drewN ?_ _ | refine blk_drew ?_ | refine blk_alloc ?_ _)); refine blk_put (cs := #[.string x185000_1, .string x185001_1, .string x185002_1]) ?_ 2 _ rfl; (with_reducible repeat (first | refine blk_drewN ?_ _ | refine blk_drew ?_ | refine blk_alloc ?_ _)); exact BK184.out⟩, ⟨by repeat (first | (with_reducible first | exact HB.out | apply below_alloc | apply pw_below_drewN | apply below_drew1 | refine below_set ?_ GE184.out) | exact HB.out)⟩⟩
           ·have H1 : (none) = some r := by rw [if_neg c30] at H; exact H
            clear H
            have H := H1
            clear H1
            exact absurd H (by simp)
       ·rw [if_neg c16] at H
        have c16b0 : (t190 == 0) = false := beq_eq_false_iff_ne.mpr c16
        have c16b1 : (t190 != 0) = true := bne_iff_ne.mpr c16
        obtain rfl := Option.some.inj H
        have p188 : 0 ≤ (x23_1 : Int) := of_decide_eq_true (by first | (with_reducible assumption) | assumption)
        have q188 : x23_1 < (y185.length : Int) := of_decide_eq_true (by first | (with_reducible assumption) | assumption)
        obtain ⟨ad188, e188, hx188_0⟩ := Kd.at_string (Kd.R_reads' HO_21.out).2.2 x23_1 p188 q188
        cases e188
        replace p188 := eq_true p188
        replace q188 := eq_true q188
        go_wp2_with (first | ((with_reducible refine gate_callee (f := 17) rfl ?_); refine goesL_ (some 30) rfl rfl Tryd.func17 (by kernel_rfl) rfl #[.string (rdOf ByteArray.empty y185 x23_1)] rfl (by (try simp only [List.map_toArray, List.map_cons, List.map_nil]); first | done | rfl | (simp only [List.length_drop, List.length_take]; rfl)) ?_; (with_reducible refine (path_Clean.calls k1 (rdOf ByteArray.empty y185 x23_1) t189 t190 _ A15.out ?hGG).mono ?_); (case hGG => exact GG_below HGG.out (by repeat (first | (with_reducible first | exact HB.out | apply below_alloc | apply pw_below_drewN | apply below_drew1) | exact HB.out))); rintro e w35 ⟨v191, rfl, ho0, hb⟩; refine ⟨_, rfl, ?_⟩; have n0_ := Aside0.mk (Kd.R_elder' (by (with_reducible repeat (first | apply Kd.R_alloc | apply Kd.R_drewN | apply Kd.R_drew)); exact HO_21.out) (Kd.R_base ho0) hb); have n1_ := Aside0.mk (Kd.R_lower (Kd.R_new' ho0 (Kd.R_lt (by (with_reducible repeat (first | apply Kd.R_alloc | apply Kd.R_drewN | apply Kd.R_drew)); exact HO_21.out))) (below_size (by repeat (first | (with_reducible first | exact HB.out | apply below_alloc | apply pw_below_drewN | apply below_drew1 | refine below_set ?_ GE184.out) | exact HB.out)))); have n2_ := Aside0.mk (blk_below (g := gb184) (o := .cells #[.string x185000_1, .string x185001_1, .string x185002_1] 36 (0, 0)) (by (with_reducible repeat (first | refine blk_drewN ?_ _ | refine blk_drew ?_ | refine blk_alloc ?_ _)); exact BK184.out) hb); have n3_ := Aside0.mk (below_step (by repeat (first | (with_reducible first | exact HB.out | apply below_alloc | apply pw_below_drewN | apply below_drew1 | refine below_set ?_ GE184.out) | exact HB.out)) hb); clear HO_21; clear BK184; clear HB; have HO_21 := n0_; have HO192 := n1_; have BK184 := n2_; have HB := n3_; clear n0_ n1_ n2_ n3_; (try clear hb); (try clear hb2); (try clear hk); (try clear hi); (try clear ho0)))
        all_goals (go_ret; exact ⟨by first | rfl | (simp [errW_none, errW_some] <;> rfl) | (simp [*, errW_none, errW_some] <;> rfl), by repeat (first | (with_reducible first | exact HB.out | apply below_alloc | apply pw_below_drewN | apply below_drew1 | refine below_set ?_ GE184.out) | exact HB.out)⟩)
      ·rw [if_neg c14] at H
       exact absurd H (by simp)
     ·rw [if_neg c13] at H
      exact absurd H (by simp)
    ·rw [if_neg c12] at H
     have c12b0 : decide (x23_1 < (y185.length : Int)) = false := decide_eq_false c12
     clear c12
     replace H := Option.bind_eq_some_iff.mp H
     obtain ⟨t194, A360, H⟩ := H
     replace H : ((path_Compare.f k1 x185001_1 x185002_1).bind fun t195 => ((path_Compare.f k1 x185000_1 x185002_1).bind fun t196 => ((pannierref10_Less.f k1 x185000_1 x185001_1).bind fun t197 => (if ((decide (t194 < 0)) != t197) = true then (pannierlaw10_PathOrder.j1 k1 t194 t195 true x185000_1 x185001_1 x185002_1) else (if ((t194 == 0) != (x185000_1.toList == x185001_1.toList)) = true then (pannierlaw10_PathOrder.j1 k1 t194 t195 true x185000_1 x185001_1 x185002_1) else ((path_Compare.f k1 x185001_1 x185000_1).bind fun t198 => (if ((decide (t198 < 0)) != (decide (t194 > 0))) = true then (pannierlaw10_PathOrder.j1 k1 t194 t195 true x185000_1 x185001_1 x185002_1) else (if t194 ≤ 0 then (if t195 ≤ 0 then (pannierlaw10_PathOrder.j1 k1 t194 t195 (decide (t196 > 0)) x185000_1 x185001_1 x185002_1) else (pannierlaw10_PathOrder.j1 k1 t194 t195 false x185000_1 x185001_1 x185002_1)) else (pannierlaw10_PathOrder.j1 k1 t194 t195 false x185000_1 x185001_1 x185002_1))))))))) = some r := H
     have A36 := Aside0.mk A360
     clear A360
     replace H := Option.bind_eq_some_iff.mp H
     obtain ⟨t195, A370, H⟩ := H
     replace H : ((path_Compare.f k1 x185000_1 x185002_1).bind fun t196 => ((pannierref10_Less.f k1 x185000_1 x185001_1).bind fun t197 => (if ((decide (t194 < 0)) != t197) = true then (pannierlaw10_PathOrder.j1 k1 t194 t195 true x185000_1 x185001_1 x185002_1) else (if ((t194 == 0) != (x185000_1.toList == x185001_1.toList)) = true then (pannierlaw10_PathOrder.j1 k1 t194 t195 true x185000_1 x185001_1 x185002_1) else ((path_Compare.f k1 x185001_1 x185000_1).bind fun t198 => (if ((decide (t198 < 0)) != (decide (t194 > 0))) = true then (pannierlaw10_PathOrder.j1 k1 t194 t195 true x185000_1 x185001_1 x185002_1) else (if t194 ≤ 0 then (if t195 ≤ 0 then (pannierlaw10_PathOrder.j1 k1 t194 t195 (decide (t196 > 0)) x185000_1 x185001_1 x185002_1) else (pannierlaw10_PathOrder.j1 k1 t194 t195 false x185000_1 x185001_1 x185002_1)) else (pannierlaw10_PathOrder.j1 k1 t194 t195 false x185000_1 x185001_1 x185002_1)))))))) = some r := H
     have A37 := Aside0.mk A370
     clear A370
     replace H := Option.bind_eq_some_iff.mp H
     obtain ⟨t196, A380, H⟩ := H
     replace H : ((pannierref10_Less.f k1 x185000_1 x185001_1).bind fun t197 => (if ((decide (t194 < 0)) != t197) = true then (pannierlaw10_PathOrder.j1 k1 t194 t195 true x185000_1 x185001_1 x185002_1) else (if ((t194 == 0) != (x185000_1.toList == x185001_1.toList)) = true then (pannierlaw10_PathOrder.j1 k1 t194 t195 true x185000_1 x185001_1 x185002_1) else ((path_Compare.f k1 x185001_1 x185000_1).bind fun t198 => (if ((decide (t198 < 0)) != (decide (t194 > 0))) = true then (pannierlaw10_PathOrder.j1 k1 t194 t195 true x185000_1 x185001_1 x185002_1) else (if t194 ≤ 0 then (if t195 ≤ 0 then (pannierlaw10_PathOrder.j1 k1 t194 t195 (decide (t196 > 0)) x185000_1 x185001_1 x185002_1) else (pannierlaw10_PathOrder.j1 k1 t194 t195 false x185000_1 x185001_1 x185002_1)) else (pannierlaw10_PathOrder.j1 k1 t194 t195 false x185000_1 x185001_1 x185002_1))))))) = some r := H
     have A38 := Aside0.mk A380
     clear A380
     have HC39 := Aside0.mk H
     clear H
     try go_wp2
     have n0_ := Aside0.mk (Kd.R_drew HO_21.out)
     have n1_ := Aside0.mk (blk_drew BK184.out)
     have n2_ := Aside0.mk (below_drew1 HB.out)
     clear HO_21
     clear BK184
     clear HB
     have HO_21 := n0_
     have BK184 := n1_
     have HB := n2_
     clear n0_ n1_ n2_
     refine start_ (n := 18) (S := fun w' => w'.cell? ⟨gb184, 0, none⟩ = some (.string x185000_1) ∧ w'.cell? ⟨gb184, 1, none⟩ = some (.string x185001_1) ∧ w'.cell? ⟨gb184, 2, none⟩ = some (.string x185002_1)) (ds := []) #[false, false, false, false, false, false, false, false, false, false, false, false, false, false, false, false, false, false] (by kernel_rfl) rfl rfl ⟨(blk_cell BK184.out 0).trans rfl, (blk_cell BK184.out 1).trans rfl, (blk_cell BK184.out 2).trans rfl⟩ (fun hHeld => ?_); refine with_tabW pannierlaw10_PathOrder.tab12 pannierlaw10_PathOrder.bits12 (fun HT_ HW_ => ?_)
     generalize wr.drew = w40 at HO_21 BK184 HB hHeld ⊢
     refine pure_ (i := 0) (N := some 45) (v := ?_) (a' := ?_) #[true, false, false, false, false, false, false, false, false, false, false, false, false, false, false, false, false, false] rfl rfl (any_of HT_.out (by kernel_rfl)) (fun _ _ _ h => h) (Or.inl ⟨by rfl, ?_⟩) ?_ ?_
     rotate_left
     ·intro w'
      go_simp
      with_reducible rfl
     rotate_left
     ·simp only [Act.put, List.setIfInBounds_toArray, List.set_cons_zero, List.set_cons_succ, i64_w, i32_w]
      rfl
     refine pure_ (i := 2) (N := some 47) (v := ?_) (a' := ?_) #[true, false, true, false, false, false, false, false, false, false, false, false, false, false, false, false, false, false] rfl rfl (any_of HT_.out (by kernel_rfl)) (fun _ _ _ h => h) (Or.inl ⟨by rfl, ?_⟩) ?_ ?_
     rotate_left
     ·intro w'
      go_simp
      with_reducible rfl
     rotate_left
     ·simp only [Act.put, List.setIfInBounds_toArray, List.set_cons_zero, List.set_cons_succ, i64_w, i32_w]
      rfl
     refine pure_ (i := 5) (N := some 50) (v := ?_) (a' := ?_) #[true, false, true, false, false, true, false, false, false, false, false, false, false, false, false, false, false, false] rfl rfl (any_of HT_.out (by kernel_rfl)) (fun _ _ _ h => h) (Or.inl ⟨by rfl, ?_⟩) ?_ ?_
     rotate_left
     ·intro w'
      go_simp
      with_reducible rfl
     rotate_left
     ·simp only [Act.put, List.setIfInBounds_toArray, List.set_cons_zero, List.set_cons_succ, i64_w, i32_w]
      rfl
     refine pure_ (i := 7) (N := some 52) (v := ?_) (a' := ?_) #[true, false, true, false, false, true, false, true, false, false, false, false, false, false, false, false, false, false] rfl rfl (any_of HT_.out (by kernel_rfl)) (fun _ _ _ h => h) (Or.inl ⟨by rfl, ?_⟩) ?_ ?_
     rotate_left
     ·intro w'
      go_simp
      with_reducible rfl
     rotate_left
     ·simp only [Act.put, List.setIfInBounds_toArray, List.set_cons_zero, List.set_cons_succ, i64_w, i32_w]
      rfl
     refine pure_ (i := 10) (N := some 55) (v := ?_) (a' := ?_) #[true, false, true, false, false, true, false, true, false, false, true, false, false, false, false, false, false, false] rfl rfl (any_of HT_.out (by kernel_rfl)) (fun _ _ _ h => h) (Or.inl ⟨by rfl, ?_⟩) ?_ ?_
     rotate_left
     ·intro w'
      go_simp
      with_reducible rfl
     rotate_left
     ·simp only [Act.put, List.setIfInBounds_toArray, List.set_cons_zero, List.set_cons_succ, i64_w, i32_w]
      rfl
     refine pure_ (i := 12) (N := some 57) (v := ?_) (a' := ?_) #[true, false, true, false, false, true, false, true, false, false, true, false, true, false, false, false, false, false] rfl rfl (any_of HT_.out (by kernel_rfl)) (fun _ _ _ h => h) (Or.inl ⟨by rfl, ?_⟩) ?_ ?_
     rotate_left
     ·intro w'
      go_simp
      with_reducible rfl
     rotate_left
     ·simp only [Act.put, List.setIfInBounds_toArray, List.set_cons_zero, List.set_cons_succ, i64_w, i32_w]
      rfl
     refine take_ (i := 1) (N := some 46) (v := ?_) (a' := ?_) #[true, true, true, false, false, true, false, true, false, false, true, false, true, false, false, false, false, false] rfl rfl (take_ofW HT_.out HW_.out (by kernel_rfl)) (fun _ _ _ h => h) (Or.inl ⟨by rfl, ?_⟩) hHeld ?_ ?_
     rotate_left
     ·rintro w' ⟨s0, s1, s2⟩
      go_simp
      with_reducible rfl
     rotate_left
     ·simp only [Act.put, List.setIfInBounds_toArray, List.set_cons_zero, List.set_cons_succ, i64_w, i32_w]
      rfl
     refine take_ (i := 3) (N := some 48) (v := ?_) (a' := ?_) #[true, true, true, true, false, true, false, true, false, false, true, false, true, false, false, false, false, false] rfl rfl (take_ofW HT_.out HW_.out (by kernel_rfl)) (fun _ _ _ h => h) (Or.inl ⟨by rfl, ?_⟩) hHeld ?_ ?_
     rotate_left
     ·rintro w' ⟨s0, s1, s2⟩
      go_simp
      with_reducible rfl
     rotate_left
     ·simp only [Act.put, List.setIfInBounds_toArray, List.set_cons_zero, List.set_cons_succ, i64_w, i32_w]
      rfl
     refine take_ (i := 6) (N := some 51) (v := ?_) (a' := ?_) #[true, true, true, true, false, true, true, true, false, false, true, false, true, false, false, false, false, false] rfl rfl (take_ofW HT_.out HW_.out (by kernel_rfl)) (fun _ _ _ h => h) (Or.inl ⟨by rfl, ?_⟩) hHeld ?_ ?_
     rotate_left
     ·rintro w' ⟨s0, s1, s2⟩
      go_simp
      with_reducible rfl
     rotate_left
     ·simp only [Act.put, List.setIfInBounds_toArray, List.set_cons_zero, List.set_cons_succ, i64_w, i32_w]
      rfl
     refine take_ (i := 8) (N := some 53) (v := ?_) (a' := ?_) #[true, true, true, true, false, true, true, true, true, false, true, false, true, false, false, false, false, false] rfl rfl (take_ofW HT_.out HW_.out (by kernel_rfl)) (fun _ _ _ h => h) (Or.inl ⟨by rfl, ?_⟩) hHeld ?_ ?_
     rotate_left
     ·rintro w' ⟨s0, s1, s2⟩
      go_simp
      with_reducible rfl
     rotate_left
     ·simp only [Act.put, List.setIfInBounds_toArray, List.set_cons_zero, List.set_cons_succ, i64_w, i32_w]
      rfl
     refine take_ (i := 11) (N := some 56) (v := ?_) (a' := ?_) #[true, true, true, true, false, true, true, true, true, false, true, true, true, false, false, false, false, false] rfl rfl (take_ofW HT_.out HW_.out (by kernel_rfl)) (fun _ _ _ h => h) (Or.inl ⟨by rfl, ?_⟩) hHeld ?_ ?_
     rotate_left
     ·rintro w' ⟨s0, s1, s2⟩
      go_simp
      with_reducible rfl
     rotate_left
     ·simp only [Act.put, List.setIfInBounds_toArray, List.set_cons_zero, List.set_cons_succ, i64_w, i32_w]
      rfl
     refine take_ (i := 13) (N := some 58) (v := ?_) (a' := ?_) #[true, true, true, true, false, true, true, true, true, false, true, true, true, true, false, false, false, false] rfl rfl (take_ofW HT_.out HW_.out (by kernel_rfl)) (fun _ _ _ h => h) (Or.inl ⟨by rfl, ?_⟩) hHeld ?_ ?_
     rotate_left
     ·rintro w' ⟨s0, s1, s2⟩
      go_simp
      with_reducible rfl
     rotate_left
     ·simp only [Act.put, List.setIfInBounds_toArray, List.set_cons_zero, List.set_cons_succ, i64_w, i32_w]
      rfl
     refine one_ (i := 4) (N := some 49) #[true, true, true, true, true, true, true, true, true, false, true, true, true, true, false, false, false, false] rfl rfl (one_of HT_.out (by kernel_rfl)) (by decide) (fun K hK => ?_)
     refine goes_ Tryd.func25 (by kernel_rfl) rfl #[.string x185000_1, .string x185001_1] (by rfl) rfl rfl (by (try simp only [List.map_toArray, List.map_cons, List.map_nil]); first | done | rfl | (simp only [List.length_drop, List.length_take]; rfl)) ?_
     with_reducible refine (path_Compare.calls k1 x185000_1 x185001_1 t194 _ A36.out).mono ?_
     rintro e w41 ⟨rfl, hb⟩
     refine ⟨_, rfl, ?_⟩
     have n0_ := Aside0.mk (Kd.R_below (by (with_reducible repeat (first | apply Kd.R_alloc | apply Kd.R_drewN | apply Kd.R_drew)); exact HO_21.out) hb)
     have n1_ := Aside0.mk (blk_below (g := gb184) (o := .cells #[.string x185000_1, .string x185001_1, .string x185002_1] 36 (0, 0)) (by (with_reducible repeat (first | refine blk_drewN ?_ _ | refine blk_drew ?_ | refine blk_alloc ?_ _)); exact BK184.out) hb)
     have n2_ := Aside0.mk (below_step (by repeat (first | (with_reducible first | exact HB.out | apply below_alloc | apply pw_below_drewN | apply below_drew1 | refine below_set ?_ GE184.out) | exact HB.out)) hb)
     clear HO_21
     clear BK184
     clear HB
     have HO_21 := n0_
     have BK184 := n1_
     have HB := n2_
     clear n0_ n1_ n2_
     (try clear hb)
     (try clear hb2)
     (try clear hk)
     (try clear hi)
     refine hK.out _ _ ⟨(blk_cell BK184.out 0).trans rfl, (blk_cell BK184.out 1).trans rfl, (blk_cell BK184.out 2).trans rfl⟩ (fun hHeld => ?_)
     clear hK K
     refine norm_ (a' := ?_) ?_ ?_
     rotate_left
     ·show Act.put _ (some 49) _ = _
      simp only [Act.put, List.setIfInBounds_toArray, List.set_cons_zero, List.set_cons_succ, i64_w, i32_w]
      rfl
     refine one_ (i := 9) (N := some 54) #[true, true, true, true, true, true, true, true, true, true, true, true, true, true, false, false, false, false] rfl rfl (one_of HT_.out (by kernel_rfl)) (by decide) (fun K hK => ?_)
     refine goes_ Tryd.func25 (by kernel_rfl) rfl #[.string x185001_1, .string x185002_1] (by rfl) rfl rfl (by (try simp only [List.map_toArray, List.map_cons, List.map_nil]); first | done | rfl | (simp only [List.length_drop, List.length_take]; rfl)) ?_
     with_reducible refine (path_Compare.calls k1 x185001_1 x185002_1 t195 _ A37.out).mono ?_
     rintro e w42 ⟨rfl, hb⟩
     refine ⟨_, rfl, ?_⟩
     have n0_ := Aside0.mk (Kd.R_below (by (with_reducible repeat (first | apply Kd.R_alloc | apply Kd.R_drewN | apply Kd.R_drew)); exact HO_21.out) hb)
     have n1_ := Aside0.mk (blk_below (g := gb184) (o := .cells #[.string x185000_1, .string x185001_1, .string x185002_1] 36 (0, 0)) (by (with_reducible repeat (first | refine blk_drewN ?_ _ | refine blk_drew ?_ | refine blk_alloc ?_ _)); exact BK184.out) hb)
     have n2_ := Aside0.mk (below_step (by repeat (first | (with_reducible first | exact HB.out | apply below_alloc | apply pw_below_drewN | apply below_drew1 | refine below_set ?_ GE184.out) | exact HB.out)) hb)
     clear HO_21
     clear BK184
     clear HB
     have HO_21 := n0_
     have BK184 := n1_
     have HB := n2_
     clear n0_ n1_ n2_
     (try clear hb)
     (try clear hb2)
     (try clear hk)
     (try clear hi)
     refine hK.out _ _ ⟨(blk_cell BK184.out 0).trans rfl, (blk_cell BK184.out 1).trans rfl, (blk_cell BK184.out 2).trans rfl⟩ (fun hHeld => ?_)
     clear hK K
     refine norm_ (a' := ?_) ?_ ?_
     rotate_left
     ·show Act.put _ (some 54) _ = _
      simp only [Act.put, List.setIfInBounds_toArray, List.set_cons_zero, List.set_cons_succ, i64_w, i32_w]
      rfl
     refine one_ (i := 14) (N := some 59) #[true, true, true, true, true, true, true, true, true, true, true, true, true, true, true, false, false, false] rfl rfl (one_of HT_.out (by kernel_rfl)) (by decide) (fun K hK => ?_)
     refine goes_ Tryd.func25 (by kernel_rfl) rfl #[.string x185000_1, .string x185002_1] (by rfl) rfl rfl (by (try simp only [List.map_toArray, List.map_cons, List.map_nil]); first | done | rfl | (simp only [List.length_drop, List.length_take]; rfl)) ?_
     with_reducible refine (path_Compare.calls k1 x185000_1 x185002_1 t196 _ A38.out).mono ?_
     rintro e w43 ⟨rfl, hb⟩
     refine ⟨_, rfl, ?_⟩
     have n0_ := Aside0.mk (Kd.R_below (by (with_reducible repeat (first | apply Kd.R_alloc | apply Kd.R_drewN | apply Kd.R_drew)); exact HO_21.out) hb)
     have n1_ := Aside0.mk (blk_below (g := gb184) (o := .cells #[.string x185000_1, .string x185001_1, .string x185002_1] 36 (0, 0)) (by (with_reducible repeat (first | refine blk_drewN ?_ _ | refine blk_drew ?_ | refine blk_alloc ?_ _)); exact BK184.out) hb)
     have n2_ := Aside0.mk (below_step (by repeat (first | (with_reducible first | exact HB.out | apply below_alloc | apply pw_below_drewN | apply below_drew1 | refine below_set ?_ GE184.out) | exact HB.out)) hb)
     clear HO_21
     clear BK184
     clear HB
     have HO_21 := n0_
     have BK184 := n1_
     have HB := n2_
     clear n0_ n1_ n2_
     (try clear hb)
     (try clear hb2)
     (try clear hk)
     (try clear hi)
     refine hK.out _ _ ⟨(blk_cell BK184.out 0).trans rfl, (blk_cell BK184.out 1).trans rfl, (blk_cell BK184.out 2).trans rfl⟩ (fun hHeld => ?_)
     clear hK K
     refine norm_ (a' := ?_) ?_ ?_
     rotate_left
     ·show Act.put _ (some 59) _ = _
      simp only [Act.put, List.setIfInBounds_toArray, List.set_cons_zero, List.set_cons_succ, i64_w, i32_w]
      rfl
     refine pure_ (i := 15) (N := some 12) (v := ?_) (a' := ?_) #[true, true, true, true, true, true, true, true, true, true, true, true, true, true, true, true, false, false] rfl rfl (any_of HT_.out (by kernel_rfl)) (fun _ _ _ h => h) (Or.inl ⟨by rfl, ?_⟩) ?_ ?_
     rotate_left
     ·intro w'
      go_simp
      with_reducible rfl
     rotate_left
     ·simp only [Act.put, List.setIfInBounds_toArray, List.set_cons_zero, List.set_cons_succ, i64_w, i32_w]
      rfl
     refine pure_ (i := 16) (N := some 13) (v := ?_) (a' := ?_) #[true, true, true, true, true, true, true, true, true, true, true, true, true, true, true, true, true, false] rfl rfl (any_of HT_.out (by kernel_rfl)) (fun _ _ _ h => h) (Or.inl ⟨by rfl, ?_⟩) ?_ ?_
     rotate_left
     ·intro w'
      go_simp
      with_reducible rfl
     rotate_left
     ·simp only [Act.put, List.setIfInBounds_toArray, List.set_cons_zero, List.set_cons_succ, i64_w, i32_w]
      rfl
     refine pure_ (i := 17) (N := some 14) (v := ?_) (a' := ?_) #[true, true, true, true, true, true, true, true, true, true, true, true, true, true, true, true, true, true] rfl rfl (any_of HT_.out (by kernel_rfl)) (fun _ _ _ h => h) (Or.inl ⟨by rfl, ?_⟩) ?_ ?_
     rotate_left
     ·intro w'
      go_simp
      with_reducible rfl
     rotate_left
     ·simp only [Act.put, List.setIfInBounds_toArray, List.set_cons_zero, List.set_cons_succ, i64_w, i32_w]
      rfl
     refine done_ (done_of HT_.out (by kernel_rfl)) ?_
     go_upto_region 13 with (fail)
     go_cut [100] (fun v100 wc => ∃ (kq : Nat) (x100_38 : Bool), v100 = .bool x100_38 ∧ Aside0 (pannierlaw10_PathOrder.j1 kq t194 t195 x100_38 x185000_1 x185001_1 x185002_1 = some r) ∧ Aside0 (kq ≤ k1) ∧ Aside0 (wc.heap[gb184]? = some (.cells #[.string x185000_1, .string x185001_1, .string x185002_1] 36 (0, 0))) ∧ Aside0 (Below w.heap.size w wc))
     case first =>
      have H := HC39.out
      clear HC39
      replace H := Option.bind_eq_some_iff.mp H
      obtain ⟨t197, A440, H⟩ := H
      replace H : (if ((decide (t194 < 0)) != t197) = true then (pannierlaw10_PathOrder.j1 k1 t194 t195 true x185000_1 x185001_1 x185002_1) else (if ((t194 == 0) != (x185000_1.toList == x185001_1.toList)) = true then (pannierlaw10_PathOrder.j1 k1 t194 t195 true x185000_1 x185001_1 x185002_1) else ((path_Compare.f k1 x185001_1 x185000_1).bind fun t198 => (if ((decide (t198 < 0)) != (decide (t194 > 0))) = true then (pannierlaw10_PathOrder.j1 k1 t194 t195 true x185000_1 x185001_1 x185002_1) else (if t194 ≤ 0 then (if t195 ≤ 0 then (pannierlaw10_PathOrder.j1 k1 t194 t195 (decide (t196 > 0)) x185000_1 x185001_1 x185002_1) else (pannierlaw10_PathOrder.j1 k1 t194 t195 false x185000_1 x185001_1 x185002_1)) else (pannierlaw10_PathOrder.j1 k1 t194 t195 false x185000_1 x185001_1 x185002_1)))))) = some r := H
      have A44 := Aside0.mk A440
      clear A440
      by_cases c45 : ((decide (t194 < 0)) != t197) = true
      ·rw [if_pos c45] at H
       have c45b0 : ((decide (t194 < 0)) != t197) = true := c45
       (try (have c45b1 : decide ((decide (t194 < 0)) = t197) = false := by simpa using c45))
       (try (have c45b2 : ((decide (t194 < 0)) == t197) = false := by simpa using c45))
       (try (have c45b3 : ¬ ((decide (t194 < 0)) = t197) := by simpa using c45))
       clear c45
       (first | rw [c45b0] | (simp only [i64_w, i32_w]; rw [c45b0]) | skip)
       have H' := Aside0.mk H
       clear H
       have hcz46_0 : w43.cell? ⟨gb184, 0, none⟩ = some (.string x185000_1) := (blk_cell BK184.out 0).trans rfl
       have hcz46_1 : w43.cell? ⟨gb184, 1, none⟩ = some (.string x185001_1) := (blk_cell BK184.out 1).trans rfl
       have hcz46_2 : w43.cell? ⟨gb184, 2, none⟩ = some (.string x185002_1) := (blk_cell BK184.out 2).trans rfl
       have hfz46_0 := blk_frozen BK184.out 0
       have hfz46_1 := blk_frozen BK184.out 1
       have hfz46_2 := blk_frozen BK184.out 2
       go_wp2_with (first | ((with_reducible refine gate_callee (f := 26) rfl ?_); refine goesL_ (some 66) rfl rfl Tryd.func26 (by kernel_rfl) rfl #[.string x185000_1, .string x185001_1] rfl (by (try simp only [List.map_toArray, List.map_cons, List.map_nil]); first | done | rfl | (simp only [List.length_drop, List.length_take]; rfl)) ?_; (with_reducible refine (pannierref10_Less.calls k1 x185000_1 x185001_1 t197 _ A44.out).mono ?_); rintro e w47 ⟨rfl, hb⟩; refine ⟨_, rfl, ?_⟩; have n0_ := Aside0.mk (Kd.R_below (by (with_reducible repeat (first | apply Kd.R_alloc | apply Kd.R_drewN | apply Kd.R_drew)); exact HO_21.out) hb); have n1_ := Aside0.mk (blk_below (g := gb184) (o := .cells #[.string x185000_1, .string x185001_1, .string x185002_1] 36 (0, 0)) (by (with_reducible repeat (first | refine blk_drewN ?_ _ | refine blk_drew ?_ | refine blk_alloc ?_ _)); exact BK184.out) hb); have n2_ := Aside0.mk (below_step (by repeat (first | (with_reducible first | exact HB.out | apply below_alloc | apply pw_below_drewN | apply below_drew1 | refine below_set ?_ GE184.out) | exact HB.out)) hb); clear HO_21; clear BK184; clear HB; have HO_21 := n0_; have BK184 := n1_; have HB := n2_; clear n0_ n1_ n2_; (try clear hb); (try clear hb2); (try clear hk); (try clear hi)))
       go_meet
       case rel => exact ⟨_, (true), (by first | rfl | (simp; done) | (simp [*]; done) | (simp [wrap64]; done)), H', ⟨by have := HK1.out; first | omega | exact Nat.le_refl _⟩, ⟨by (with_reducible repeat (first | refine blk_drewN ?_ _ | refine blk_drew ?_ | refine blk_alloc ?_ _)); exact BK184.out⟩, ⟨by repeat (first | (with_reducible first | exact HB.out | apply below_alloc | apply pw_below_drewN | apply below_drew1 | refine below_set ?_ GE184.out) | exact HB.out)⟩⟩
      ·rw [if_neg c45] at H
       have c45b0 : ((decide (t194 < 0)) != t197) = false := by simpa using c45
       (try (have c45b1 : decide ((decide (t194 < 0)) = t197) = true := by simpa using c45))
       (try (have c45b2 : ((decide (t194 < 0)) == t197) = true := by simpa using c45))
       clear c45
       (first | rw [c45b0] | (simp only [i64_w, i32_w]; rw [c45b0]) | skip)
       by_cases c48 : ((t194 == 0) != (x185000_1.toList == x185001_1.toList)) = true
       ·rw [if_pos c48] at H
        have c48b0 : ((t194 == 0) != (x185000_1.toList == x185001_1.toList)) = true := c48
        (try (have c48b1 : decide ((t194 == 0) = (x185000_1.toList == x185001_1.toList)) = false := by simpa using c48))
        (try (have c48b2 : ((t194 == 0) == (x185000_1.toList == x185001_1.toList)) = false := by simpa using c48))
        (try (have c48b3 : ¬ ((t194 == 0) = (x185000_1.toList == x185001_1.toList)) := by simpa using c48))
        clear c48
        have H' := Aside0.mk H
        clear H
        have hcz49_0 : w43.cell? ⟨gb184, 0, none⟩ = some (.string x185000_1) := (blk_cell BK184.out 0).trans rfl
        have hcz49_1 : w43.cell? ⟨gb184, 1, none⟩ = some (.string x185001_1) := (blk_cell BK184.out 1).trans rfl
        have hcz49_2 : w43.cell? ⟨gb184, 2, none⟩ = some (.string x185002_1) := (blk_cell BK184.out 2).trans rfl
        have hfz49_0 := blk_frozen BK184.out 0
        have hfz49_1 := blk_frozen BK184.out 1
        have hfz49_2 := blk_frozen BK184.out 2
        go_wp2_with (first | ((with_reducible refine gate_callee (f := 26) rfl ?_); refine goesL_ (some 66) rfl rfl Tryd.func26 (by kernel_rfl) rfl #[.string x185000_1, .string x185001_1] rfl (by (try simp only [List.map_toArray, List.map_cons, List.map_nil]); first | done | rfl | (simp only [List.length_drop, List.length_take]; rfl)) ?_; (with_reducible refine (pannierref10_Less.calls k1 x185000_1 x185001_1 t197 _ A44.out).mono ?_); rintro e w50 ⟨rfl, hb⟩; refine ⟨_, rfl, ?_⟩; have n0_ := Aside0.mk (Kd.R_below (by (with_reducible repeat (first | apply Kd.R_alloc | apply Kd.R_drewN | apply Kd.R_drew)); exact HO_21.out) hb); have n1_ := Aside0.mk (blk_below (g := gb184) (o := .cells #[.string x185000_1, .string x185001_1, .string x185002_1] 36 (0, 0)) (by (with_reducible repeat (first | refine blk_drewN ?_ _ | refine blk_drew ?_ | refine blk_alloc ?_ _)); exact BK184.out) hb); have n2_ := Aside0.mk (below_step (by repeat (first | (with_reducible first | exact HB.out | apply below_alloc | apply pw_below_drewN | apply below_drew1 | refine below_set ?_ GE184.out) | exact HB.out)) hb); clear HO_21; clear BK184; clear HB; have HO_21 := n0_; have BK184 := n1_; have HB := n2_; clear n0_ n1_ n2_; (try clear hb); (try clear hb2); (try clear hk); (try clear hi); have hcz51_0 : w50.cell? ⟨gb184, 0, none⟩ = some (.string x185000_1) := (blk_cell BK184.out 0).trans rfl; have hcz51_1 : w50.cell? ⟨gb184, 1, none⟩ = some (.string x185001_1) := (blk_cell BK184.out 1).trans rfl; have hcz51_2 : w50.cell? ⟨gb184, 2, none⟩ = some (.string x185002_1) := (blk_cell BK184.out 2).trans rfl; have hfz51_0 := blk_frozen BK184.out 0; have hfz51_1 := blk_frozen BK184.out 1; have hfz51_2 := blk_frozen BK184.out 2))
        go_meet
        case rel => exact ⟨_, (true), (by first | rfl | (simp; done) | (simp [*]; done) | (simp [wrap64]; done)), H', ⟨by have := HK1.out; first | omega | exact Nat.le_refl _⟩, ⟨by (with_reducible repeat (first | refine blk_drewN ?_ _ | refine blk_drew ?_ | refine blk_alloc ?_ _)); exact BK184.out⟩, ⟨by repeat (first | (with_reducible first | exact HB.out | apply below_alloc | apply pw_below_drewN | apply below_drew1 | refine below_set ?_ GE184.out) | exact HB.out)⟩⟩
       ·rw [if_neg c48] at H
        have c48b0 : ((t194 == 0) != (x185000_1.toList == x185001_1.toList)) = false := by simpa using c48
        (try (have c48b1 : decide ((t194 == 0) = (x185000_1.toList == x185001_1.toList)) = true := by simpa using c48))
        (try (have c48b2 : ((t194 == 0) == (x185000_1.toList == x185001_1.toList)) = true := by simpa using c48))
        clear c48
        replace H := Option.bind_eq_some_iff.mp H
        obtain ⟨t198, A520, H⟩ := H
        replace H : (if ((decide (t198 < 0)) != (decide (t194 > 0))) = true then (pannierlaw10_PathOrder.j1 k1 t194 t195 true x185000_1 x185001_1 x185002_1) else (if t194 ≤ 0 then (if t195 ≤ 0 then (pannierlaw10_PathOrder.j1 k1 t194 t195 (decide (t196 > 0)) x185000_1 x185001_1 x185002_1) else (pannierlaw10_PathOrder.j1 k1 t194 t195 false x185000_1 x185001_1 x185002_1)) else (pannierlaw10_PathOrder.j1 k1 t194 t195 false x185000_1 x185001_1 x185002_1))) = some r := H
        have A52 := Aside0.mk A520
        clear A520
        by_cases c53 : ((decide (t198 < 0)) != (decide (t194 > 0))) = true
        ·rw [if_pos c53] at H
         have c53b0 : ((decide (t198 < 0)) != (decide (t194 > 0))) = true := c53
         (try (have c53b1 : decide ((decide (t198 < 0)) = (decide (t194 > 0))) = false := by simpa using c53))
         (try (have c53b2 : ((decide (t198 < 0)) == (decide (t194 > 0))) = false := by simpa using c53))
         (try (have c53b3 : ¬ ((decide (t198 < 0)) = (decide (t194 > 0))) := by simpa using c53))
         clear c53
         have H' := Aside0.mk H
         clear H
         have hcz54_0 : w43.cell? ⟨gb184, 0, none⟩ = some (.string x185000_1) := (blk_cell BK184.out 0).trans rfl
         have hcz54_1 : w43.cell? ⟨gb184, 1, none⟩ = some (.string x185001_1) := (blk_cell BK184.out 1).trans rfl
         have hcz54_2 : w43.cell? ⟨gb184, 2, none⟩ = some (.string x185002_1) := (blk_cell BK184.out 2).trans rfl
         have hfz54_0 := blk_frozen BK184.out 0
         have hfz54_1 := blk_frozen BK184.out 1
         have hfz54_2 := blk_frozen BK184.out 2
         go_wp2_with (first | ((with_reducible refine gate_callee (f := 26) rfl ?_); refine goesL_ (some 66) rfl rfl Tryd.func26 (by kernel_rfl) rfl #[.string x185000_1, .string x185001_1] rfl (by (try simp only [List.map_toArray, List.map_cons, List.map_nil]); first | done | rfl | (simp only [List.length_drop, List.length_take]; rfl)) ?_; (with_reducible refine (pannierref10_Less.calls k1 x185000_1 x185001_1 t197 _ A44.out).mono ?_); rintro e w55 ⟨rfl, hb⟩; refine ⟨_, rfl, ?_⟩; have n0_ := Aside0.mk (Kd.R_below (by (with_reducible repeat (first | apply Kd.R_alloc | apply Kd.R_drewN | apply Kd.R_drew)); exact HO_21.out) hb); have n1_ := Aside0.mk (blk_below (g := gb184) (o := .cells #[.string x185000_1, .string x185001_1, .string x185002_1] 36 (0, 0)) (by (with_reducible repeat (first | refine blk_drewN ?_ _ | refine blk_drew ?_ | refine blk_alloc ?_ _)); exact BK184.out) hb); have n2_ := Aside0.mk (below_step (by repeat (first | (with_reducible first | exact HB.out | apply below_alloc | apply pw_below_drewN | apply below_drew1 | refine below_set ?_ GE184.out) | exact HB.out)) hb); clear HO_21; clear BK184; clear HB; have HO_21 := n0_; have BK184 := n1_; have HB := n2_; clear n0_ n1_ n2_; (try clear hb); (try clear hb2); (try clear hk); (try clear hi); have hcz56_0 : w55.cell? ⟨gb184, 0, none⟩ = some (.string x185000_1) := (blk_cell BK184.out 0).trans rfl; have hcz56_1 : w55.cell? ⟨gb184, 1, none⟩ = some (.string x185001_1) := (blk_cell BK184.out 1).trans rfl; have hcz56_2 : w55.cell? ⟨gb184, 2, none⟩ = some (.string x185002_1) := (blk_cell BK184.out 2).trans rfl; have hfz56_0 := blk_frozen BK184.out 0; have hfz56_1 := blk_frozen BK184.out 1; have hfz56_2 := blk_frozen BK184.out 2) | (go_at_call 25; (with_reducible refine (path_Compare.calls k1 x185001_1 x185000_1 t198 _ A52.out).mono ?_); rintro e w57 ⟨rfl, hb⟩; have n0_ := Aside0.mk (Kd.R_below (by (with_reducible repeat (first | apply Kd.R_alloc | apply Kd.R_drewN | apply Kd.R_drew)); exact HO_21.out) hb); have n1_ := Aside0.mk (blk_below (g := gb184) (o := .cells #[.string x185000_1, .string x185001_1, .string x185002_1] 36 (0, 0)) (by (with_reducible repeat (first | refine blk_drewN ?_ _ | refine blk_drew ?_ | refine blk_alloc ?_ _)); exact BK184.out) hb); have n2_ := Aside0.mk (below_step (by repeat (first | (with_reducible first | exact HB.out | apply below_alloc | apply pw_below_drewN | apply below_drew1 | refine below_set ?_ GE184.out) | exact HB.out)) hb); clear HO_21; clear BK184; clear HB; have HO_21 := n0_; have BK184 := n1_; have HB := n2_; clear n0_ n1_ n2_; (try clear hb); (try clear hb2); (try clear hk); (try clear hi)))
         go_meet
         case rel => exact ⟨_, (true), (by first | rfl | (simp; done) | (simp [*]; done) | (simp [wrap64]; done)), H', ⟨by have := HK1.out; first | omega | exact Nat.le_refl _⟩, ⟨by (with_reducible repeat (first | refine blk_drewN ?_ _ | refine blk_drew ?_ | refine blk_alloc ?_ _)); exact BK184.out⟩, ⟨by repeat (first | (with_reducible first | exact HB.out | apply below_alloc | apply pw_below_drewN | apply below_drew1 | refine below_set ?_ GE184.out) | exact HB.out)⟩⟩
        ·rw [if_neg c53] at H
         have c53b0 : ((decide (t198 < 0)) != (decide (t194 > 0))) = false := by simpa using c53
         (try (have c53b1 : decide ((decide (t198 < 0)) = (decide (t194 > 0))) = true := by simpa using c53))
         (try (have c53b2 : ((decide (t198 < 0)) == (decide (t194 > 0))) = true := by simpa using c53))
         clear c53
         by_cases c58 : t194 ≤ 0
         ·rw [if_pos c58] at H
          have c58b0 : decide (t194 ≤ 0) = true := decide_eq_true c58
          clear c58
          by_cases c59 : t195 ≤ 0
          ·rw [if_pos c59] at H
           have c59b0 : decide (t195 ≤ 0) = true := decide_eq_true c59
           clear c59
           have H' := Aside0.mk H
           clear H
           have hcz60_0 : w43.cell? ⟨gb184, 0, none⟩ = some (.string x185000_1) := (blk_cell BK184.out 0).trans rfl
           have hcz60_1 : w43.cell? ⟨gb184, 1, none⟩ = some (.string x185001_1) := (blk_cell BK184.out 1).trans rfl
           have hcz60_2 : w43.cell? ⟨gb184, 2, none⟩ = some (.string x185002_1) := (blk_cell BK184.out 2).trans rfl
           have hfz60_0 := blk_frozen BK184.out 0
           have hfz60_1 := blk_frozen BK184.out 1
           have hfz60_2 := blk_frozen BK184.out 2
           go_wp2_with (first | ((with_reducible refine gate_callee (f := 26) rfl ?_); refine goesL_ (some 66) rfl rfl Tryd.func26 (by kernel_rfl) rfl #[.string x185000_1, .string x185001_1] rfl (by (try simp only [List.map_toArray, List.map_cons, List.map_nil]); first | done | rfl | (simp only [List.length_drop, List.length_take]; rfl)) ?_; (with_reducible refine (pannierref10_Less.calls k1 x185000_1 x185001_1 t197 _ A44.out).mono ?_); rintro e w61 ⟨rfl, hb⟩; refine ⟨_, rfl, ?_⟩; have n0_ := Aside0.mk (Kd.R_below (by (with_reducible repeat (first | apply Kd.R_alloc | apply Kd.R_drewN | apply Kd.R_drew)); exact HO_21.out) hb); have n1_ := Aside0.mk (blk_below (g := gb184) (o := .cells #[.string x185000_1, .string x185001_1, .string x185002_1] 36 (0, 0)) (by (with_reducible repeat (first | refine blk_drewN ?_ _ | refine blk_drew ?_ | refine blk_alloc ?_ _)); exact BK184.out) hb); have n2_ := Aside0.mk (below_step (by repeat (first | (with_reducible first | exact HB.out | apply below_alloc | apply pw_below_drewN | apply below_drew1 | refine below_set ?_ GE184.out) | exact HB.out)) hb); clear HO_21; clear BK184; clear HB; have HO_21 := n0_; have BK184 := n1_; have HB := n2_; clear n0_ n1_ n2_; (try clear hb); (try clear hb2); (try clear hk); (try clear hi); have hcz62_0 : w61.cell? ⟨gb184, 0, none⟩ = some (.string x185000_1) := (blk_cell BK184.out 0).trans rfl; have hcz62_1 : w61.cell? ⟨gb184, 1, none⟩ = some (.string x185001_1) := (blk_cell BK184.out 1).trans rfl; have hcz62_2 : w61.cell? ⟨gb184, 2, none⟩ = some (.string x185002_1) := (blk_cell BK184.out 2).trans rfl; have hfz62_0 := blk_frozen BK184.out 0; have hfz62_1 := blk_frozen BK184.out 1; have hfz62_2 := blk_frozen BK184.out 2) | (go_at_call 25; (with_reducible refine (path_Compare.calls k1 x185001_1 x185000_1 t198 _ A52.out).mono ?_); rintro e w63 ⟨rfl, hb⟩; have n0_ := Aside0.mk (Kd.R_below (by (with_reducible repeat (first | apply Kd.R_alloc | apply Kd.R_drewN | apply Kd.R_drew)); exact HO_21.out) hb); have n1_ := Aside0.mk (blk_below (g := gb184) (o := .cells #[.string x185000_1, .string x185001_1, .string x185002_1] 36 (0, 0)) (by (with_reducible repeat (first | refine blk_drewN ?_ _ | refine blk_drew ?_ | refine blk_alloc ?_ _)); exact BK184.out) hb); have n2_ := Aside0.mk (below_step (by repeat (first | (with_reducible first | exact HB.out | apply below_alloc | apply pw_below_drewN | apply below_drew1 | refine below_set ?_ GE184.out) | exact HB.out)) hb); clear HO_21; clear BK184; clear HB; have HO_21 := n0_; have BK184 := n1_; have HB := n2_; clear n0_ n1_ n2_; (try clear hb); (try clear hb2); (try clear hk); (try clear hi)))
           go_meet
           case rel => exact ⟨_, (decide (t196 > 0)), (by first | rfl | (simp; done) | (simp [*]; done) | (simp [wrap64]; done)), H', ⟨by have := HK1.out; first | omega | exact Nat.le_refl _⟩, ⟨by (with_reducible repeat (first | refine blk_drewN ?_ _ | refine blk_drew ?_ | refine blk_alloc ?_ _)); exact BK184.out⟩, ⟨by repeat (first | (with_reducible first | exact HB.out | apply below_alloc | apply pw_below_drewN | apply below_drew1 | refine below_set ?_ GE184.out) | exact HB.out)⟩⟩
          ·rw [if_neg c59] at H
           have c59b0 : decide (t195 ≤ 0) = false := decide_eq_false c59
           clear c59
           have H' := Aside0.mk H
           clear H
           have hcz64_0 : w43.cell? ⟨gb184, 0, none⟩ = some (.string x185000_1) := (blk_cell BK184.out 0).trans rfl
           have hcz64_1 : w43.cell? ⟨gb184, 1, none⟩ = some (.string x185001_1) := (blk_cell BK184.out 1).trans rfl
           have hcz64_2 : w43.cell? ⟨gb184, 2, none⟩ = some (.string x185002_1) := (blk_cell BK184.out 2).trans rfl
           have hfz64_0 := blk_frozen BK184.out 0
           have hfz64_1 := blk_frozen BK184.out 1
           have hfz64_2 := blk_frozen BK184.out 2
           go_wp2_with (first | ((with_reducible refine gate_callee (f := 26) rfl ?_); refine goesL_ (some 66) rfl rfl Tryd.func26 (by kernel_rfl) rfl #[.string x185000_1, .string x185001_1] rfl (by (try simp only [List.map_toArray, List.map_cons, List.map_nil]); first | done | rfl | (simp only [List.length_drop, List.length_take]; rfl)) ?_; (with_reducible refine (pannierref10_Less.calls k1 x185000_1 x185001_1 t197 _ A44.out).mono ?_); rintro e w65 ⟨rfl, hb⟩; refine ⟨_, rfl, ?_⟩; have n0_ := Aside0.mk (Kd.R_below (by (with_reducible repeat (first | apply Kd.R_alloc | apply Kd.R_drewN | apply Kd.R_drew)); exact HO_21.out) hb); have n1_ := Aside0.mk (blk_below (g := gb184) (o := .cells #[.string x185000_1, .string x185001_1, .string x185002_1] 36 (0, 0)) (by (with_reducible repeat (first | refine blk_drewN ?_ _ | refine blk_drew ?_ | refine blk_alloc ?_ _)); exact BK184.out) hb); have n2_ := Aside0.mk (below_step (by repeat (first | (with_reducible first | exact HB.out | apply below_alloc | apply pw_below_drewN | apply below_drew1 | refine below_set ?_ GE184.out) | exact HB.out)) hb); clear HO_21; clear BK184; clear HB; have HO_21 := n0_; have BK184 := n1_; have HB := n2_; clear n0_ n1_ n2_; (try clear hb); (try clear hb2); (try clear hk); (try clear hi); have hcz66_0 : w65.cell? ⟨gb184, 0, none⟩ = some (.string x185000_1) := (blk_cell BK184.out 0).trans rfl; have hcz66_1 : w65.cell? ⟨gb184, 1, none⟩ = some (.string x185001_1) := (blk_cell BK184.out 1).trans rfl; have hcz66_2 : w65.cell? ⟨gb184, 2, none⟩ = some (.string x185002_1) := (blk_cell BK184.out 2).trans rfl; have hfz66_0 := blk_frozen BK184.out 0; have hfz66_1 := blk_frozen BK184.out 1; have hfz66_2 := blk_frozen BK184.out 2) | (go_at_call 25; (with_reducible refine (path_Compare.calls k1 x185001_1 x185000_1 t198 _ A52.out).mono ?_); rintro e w67 ⟨rfl, hb⟩; have n0_ := Aside0.mk (Kd.R_below (by (with_reducible repeat (first | apply Kd.R_alloc | apply Kd.R_drewN | apply Kd.R_drew)); exact HO_21.out) hb); have n1_ := Aside0.mk (blk_below (g := gb184) (o := .cells #[.string x185000_1, .string x185001_1, .string x185002_1] 36 (0, 0)) (by (with_reducible repeat (first | refine blk_drewN ?_ _ | refine blk_drew ?_ | refine blk_alloc ?_ _)); exact BK184.out) hb); have n2_ := Aside0.mk (below_step (by repeat (first | (with_reducible first | exact HB.out | apply below_alloc | apply pw_below_drewN | apply below_drew1 | refine below_set ?_ GE184.out) | exact HB.out)) hb); clear HO_21; clear BK184; clear HB; have HO_21 := n0_; have BK184 := n1_; have HB := n2_; clear n0_ n1_ n2_; (try clear hb); (try clear hb2); (try clear hk); (try clear hi)))
           go_meet
           case rel => exact ⟨_, (false), (by first | rfl | (simp; done) | (simp [*]; done) | (simp [wrap64]; done)), H', ⟨by have := HK1.out; first | omega | exact Nat.le_refl _⟩, ⟨by (with_reducible repeat (first | refine blk_drewN ?_ _ | refine blk_drew ?_ | refine blk_alloc ?_ _)); exact BK184.out⟩, ⟨by repeat (first | (with_reducible first | exact HB.out | apply below_alloc | apply pw_below_drewN | apply below_drew1 | refine below_set ?_ GE184.out) | exact HB.out)⟩⟩
         ·rw [if_neg c58] at H
          have c58b0 : decide (t194 ≤ 0) = false := decide_eq_false c58
          clear c58
          have H' := Aside0.mk H
          clear H
          have hcz68_0 : w43.cell? ⟨gb184, 0, none⟩ = some (.string x185000_1) := (blk_cell BK184.out 0).trans rfl
          have hcz68_1 : w43.cell? ⟨gb184, 1, none⟩ = some (.string x185001_1) := (blk_cell BK184.out 1).trans rfl
          have hcz68_2 : w43.cell? ⟨gb184, 2, none⟩ = some (.string x185002_1) := (blk_cell BK184.out 2).trans rfl
          have hfz68_0 := blk_frozen BK184.out 0
          have hfz68_1 := blk_frozen BK184.out 1
          have hfz68_2 := blk_frozen BK184.out 2
          go_wp2_with (first | ((with_reducible refine gate_callee (f := 26) rfl ?_); refine goesL_ (some 66) rfl rfl Tryd.func26 (by kernel_rfl) rfl #[.string x185000_1, .string x185001_1] rfl (by (try simp only [List.map_toArray, List.map_cons, List.map_nil]); first | done | rfl | (simp only [List.length_drop, List.length_take]; rfl)) ?_; (with_reducible refine (pannierref10_Less.calls k1 x185000_1 x185001_1 t197 _ A44.out).mono ?_); rintro e w69 ⟨rfl, hb⟩; refine ⟨_, rfl, ?_⟩; have n0_ := Aside0.mk (Kd.R_below (by (with_reducible repeat (first | apply Kd.R_alloc | apply Kd.R_drewN | apply Kd.R_drew)); exact HO_21.out) hb); have n1_ := Aside0.mk (blk_below (g := gb184) (o := .cells #[.string x185000_1, .string x185001_1, .string x185002_1] 36 (0, 0)) (by (with_reducible repeat (first | refine blk_drewN ?_ _ | refine blk_drew ?_ | refine blk_alloc ?_ _)); exact BK184.out) hb); have n2_ := Aside0.mk (below_step (by repeat (first | (with_reducible first | exact HB.out | apply below_alloc | apply pw_below_drewN | apply below_drew1 | refine below_set ?_ GE184.out) | exact HB.out)) hb); clear HO_21; clear BK184; clear HB; have HO_21 := n0_; have BK184 := n1_; have HB := n2_; clear n0_ n1_ n2_; (try clear hb); (try clear hb2); (try clear hk); (try clear hi); have hcz70_0 : w69.cell? ⟨gb184, 0, none⟩ = some (.string x185000_1) := (blk_cell BK184.out 0).trans rfl; have hcz70_1 : w69.cell? ⟨gb184, 1, none⟩ = some (.string x185001_1) := (blk_cell BK184.out 1).trans rfl; have hcz70_2 : w69.cell? ⟨gb184, 2, none⟩ = some (.string x185002_1) := (blk_cell BK184.out 2).trans rfl; have hfz70_0 := blk_frozen BK184.out 0; have hfz70_1 := blk_frozen BK184.out 1; have hfz70_2 := blk_frozen BK184.out 2) | (go_at_call 25; (with_reducible refine (path_Compare.calls k1 x185001_1 x185000_1 t198 _ A52.out).mono ?_); rintro e w71 ⟨rfl, hb⟩; have n0_ := Aside0.mk (Kd.R_below (by (with_reducible repeat (first | apply Kd.R_alloc | apply Kd.R_drewN | apply Kd.R_drew)); exact HO_21.out) hb); have n1_ := Aside0.mk (blk_below (g := gb184) (o := .cells #[.string x185000_1, .string x185001_1, .string x185002_1] 36 (0, 0)) (by (with_reducible repeat (first | refine blk_drewN ?_ _ | refine blk_drew ?_ | refine blk_alloc ?_ _)); exact BK184.out) hb); have n2_ := Aside0.mk (below_step (by repeat (first | (with_reducible first | exact HB.out | apply below_alloc | apply pw_below_drewN | apply below_drew1 | refine below_set ?_ GE184.out) | exact HB.out)) hb); clear HO_21; clear BK184; clear HB; have HO_21 := n0_; have BK184 := n1_; have HB := n2_; clear n0_ n1_ n2_; (try clear hb); (try clear hb2); (try clear hk); (try clear hi)))
          go_meet
          case rel => exact ⟨_, (false), (by first | rfl | (simp; done) | (simp [*]; done) | (simp [wrap64]; done)), H', ⟨by have := HK1.out; first | omega | exact Nat.le_refl _⟩, ⟨by (with_reducible repeat (first | refine blk_drewN ?_ _ | refine blk_drew ?_ | refine blk_alloc ?_ _)); exact BK184.out⟩, ⟨by repeat (first | (with_reducible first | exact HB.out | apply below_alloc | apply pw_below_drewN | apply below_drew1 | refine below_set ?_ GE184.out) | exact HB.out)⟩⟩
     case rest =>
      clear HC39
      try clear c1
      try clear p1
      try clear q1
      try clear hx1
      try clear qi1
      try clear c2
      try clear p2
      try clear c3
      try clear c4
      try clear c5
      try clear p6
      try clear c12
      try clear c12b0
      try clear c13
      try clear c13b0
      try clear c14
      try clear c14b0
      try clear c16
      try clear c16b0
      try clear c16b1
      try clear c17
      try clear c17b0
      try clear c17b1
      try clear p18
      try clear q18
      try clear hx18
      try clear qi18
      try clear c20
      try clear c22
      try clear c25
      try clear c26
      try clear c30
      try clear c45
      try clear c45b0
      try clear c45b1
      try clear c45b2
      try clear c48
      try clear c48b0
      try clear c48b1
      try clear c48b2
      try clear c53
      try clear c53b0
      try clear c53b1
      try clear c53b2
      try clear c58
      try clear c58b0
      try clear c59
      try clear c59b0
      try clear p64
      try clear hcz24_0
      try clear hcz24_1
      try clear hcz24_2
      try clear hcz29_0
      try clear hcz29_1
      try clear hcz29_2
      try clear hcz34_0
      try clear hcz34_1
      try clear hcz34_2
      try clear hcz46_0
      try clear hcz46_1
      try clear hcz46_2
      try clear hcz49_0
      try clear hcz49_1
      try clear hcz49_2
      try clear hcz51_0
      try clear hcz51_1
      try clear hcz51_2
      try clear hcz54_0
      try clear hcz54_1
      try clear hcz54_2
      try clear hcz56_0
      try clear hcz56_1
      try clear hcz56_2
      try clear hcz60_0
      try clear hcz60_1
      try clear hcz60_2
      try clear hcz62_0
      try clear hcz62_1
      try clear hcz62_2
      try clear hcz64_0
      try clear hcz64_1
      try clear hcz64_2
      try clear hcz66_0
      try clear hcz66_1
      try clear hcz66_2
      try clear hcz68_0
      try clear hcz68_1
      try clear hcz68_2
      try clear hcz70_0
      try clear hcz70_1
      try clear hcz70_2
      try clear hcz8_0
      try clear hcz8_1
      try clear hcz8_2
      try clear hfz24_0
      try clear hfz24_1
      try clear hfz24_2
      try clear hfz29_0
      try clear hfz29_1
      try clear hfz29_2
      try clear hfz34_0
      try clear hfz34_1
      try clear hfz34_2
      try clear hfz46_0
      try clear hfz46_1
      try clear hfz46_2
      try clear hfz49_0
      try clear hfz49_1
      try clear hfz49_2
      try clear hfz51_0
      try clear hfz51_1
      try clear hfz51_2
      try clear hfz54_0
      try clear hfz54_1
      try clear hfz54_2
      try clear hfz56_0
      try clear hfz56_1
      try clear hfz56_2
      try clear hfz60_0
      try clear hfz60_1
      try clear hfz60_2
      try clear hfz62_0
      try clear hfz62_1
      try clear hfz62_2
      try clear hfz64_0
      try clear hfz64_1
      try clear hfz64_2
      try clear hfz66_0
      try clear hfz66_1
      try clear hfz66_2
      try clear hfz68_0
      try clear hfz68_1
      try clear hfz68_2
      try clear hfz70_0
      try clear hfz70_1
      try clear hfz70_2
      try clear hfz8_0
      try clear hfz8_1
      try clear hfz8_2
      try clear hx188_0
      try clear p188
      try clear p2
      try clear q188
      obtain ⟨kq, x100_38, rfl, HA, HJ38, BK184, HB⟩ := hcut
      cases kq with
      | zero => exact absurd HA.out (by simp [pannierlaw10_PathOrder.j1])
      | succ kj38 =>
       have H := HA.out
       clear HA
       simp only [pannierlaw10_PathOrder.j1] at H
       by_cases c72 : x100_38 = true
       ·subst c72
        have H1 : (some false) = some r := by rw [if_pos rfl] at H; exact H
        clear H
        have H := H1
        clear H1
        obtain rfl := Option.some.inj H
        go_wp2
        all_goals (go_ret; exact ⟨by first | rfl | (simp [errW_none, errW_some] <;> rfl) | (simp [*, errW_none, errW_some] <;> rfl), by repeat (first | (with_reducible first | exact HB.out | apply below_alloc | apply pw_below_drewN | apply below_drew1 | refine below_set ?_ GE184.out) | exact HB.out)⟩)
       ·replace c72 := Bool.eq_false_iff.mpr c72
        subst c72
        have H1 : ((path_Under.f x185000_1 x185002_1).bind fun t199 => (if t199 = true then (if t194 < 0 then (if t195 < 0 then ((path_Under.f x185000_1 x185001_1).bind fun t200 => (some t200)) else (some true)) else (some true)) else (some true))) = some r := by rw [if_neg (show ¬ (false = true) by decide)] at H; exact H
        clear H
        have H := H1
        clear H1
        replace H := Option.bind_eq_some_iff.mp H
        obtain ⟨t199, A730, H⟩ := H
        replace H : (if t199 = true then (if t194 < 0 then (if t195 < 0 then ((path_Under.f x185000_1 x185001_1).bind fun t200 => (some t200)) else (some true)) else (some true)) else (some true)) = some r := H
        have A73 := Aside0.mk A730
        clear A730
        by_cases c74 : t199 = true
        ·subst c74
         have H1 : (if t194 < 0 then (if t195 < 0 then ((path_Under.f x185000_1 x185001_1).bind fun t200 => (some t200)) else (some true)) else (some true)) = some r := by rw [if_pos rfl] at H; exact H
         clear H
         have H := H1
         clear H1
         by_cases c75 : t194 < 0
         ·rw [if_pos c75] at H
          have c75b0 : decide (t194 < 0) = true := decide_eq_true c75
          clear c75
          by_cases c76 : t195 < 0
          ·rw [if_pos c76] at H
           have c76b0 : decide (t195 < 0) = true := decide_eq_true c76
           clear c76
           replace H := Option.bind_eq_some_iff.mp H
           obtain ⟨t200, A770, H⟩ := H
           replace H : (some t200) = some r := H
           have A77 := Aside0.mk A770
           clear A770
           obtain rfl := Option.some.inj H
           have hcz78_0 : wc.cell? ⟨gb184, 0, none⟩ = some (.string x185000_1) := (blk_cell BK184.out 0).trans rfl
           have hcz78_1 : wc.cell? ⟨gb184, 1, none⟩ = some (.string x185001_1) := (blk_cell BK184.out 1).trans rfl
           have hcz78_2 : wc.cell? ⟨gb184, 2, none⟩ = some (.string x185002_1) := (blk_cell BK184.out 2).trans rfl
           have hfz78_0 := blk_frozen BK184.out 0
           have hfz78_1 := blk_frozen BK184.out 1
           have hfz78_2 := blk_frozen BK184.out 2
           go_wp2_with (first | ((with_reducible refine gate_callee (f := 27) rfl ?_); refine goesL_ (some 105) rfl rfl Tryd.func27 (by kernel_rfl) rfl #[.string x185000_1, .string x185002_1] rfl (by (try simp only [List.map_toArray, List.map_cons, List.map_nil]); first | done | rfl | (simp only [List.length_drop, List.length_take]; rfl)) ?_; (with_reducible refine (path_Under.calls x185000_1 x185002_1 true _ A73.out).mono ?_); rintro e w' ⟨rfl, ⟨nd, rfl⟩⟩; refine ⟨_, rfl, ?_⟩) | (go_at_call 27; (with_reducible refine (path_Under.calls x185000_1 x185001_1 t200 _ A77.out).mono ?_); rintro e w' ⟨rfl, ⟨nd, rfl⟩⟩))
           all_goals (go_ret; exact ⟨by first | rfl | (simp [errW_none, errW_some] <;> rfl) | (simp [*, errW_none, errW_some] <;> rfl), by repeat (first | (with_reducible first | exact HB.out | apply below_alloc | apply pw_below_drewN | apply below_drew1 | refine below_set ?_ GE184.out) | exact HB.out)⟩)
          ·rw [if_neg c76] at H
           have c76b0 : decide (t195 < 0) = false := decide_eq_false c76
           clear c76
           obtain rfl := Option.some.inj H
           have hcz79_0 : wc.cell? ⟨gb184, 0, none⟩ = some (.string x185000_1) := (blk_cell BK184.out 0).trans rfl
           have hcz79_1 : wc.cell? ⟨gb184, 1, none⟩ = some (.string x185001_1) := (blk_cell BK184.out 1).trans rfl
           have hcz79_2 : wc.cell? ⟨gb184, 2, none⟩ = some (.string x185002_1) := (blk_cell BK184.out 2).trans rfl
           have hfz79_0 := blk_frozen BK184.out 0
           have hfz79_1 := blk_frozen BK184.out 1
           have hfz79_2 := blk_frozen BK184.out 2
           go_wp2_with (first | ((with_reducible refine gate_callee (f := 27) rfl ?_); refine goesL_ (some 105) rfl rfl Tryd.func27 (by kernel_rfl) rfl #[.string x185000_1, .string x185002_1] rfl (by (try simp only [List.map_toArray, List.map_cons, List.map_nil]); first | done | rfl | (simp only [List.length_drop, List.length_take]; rfl)) ?_; (with_reducible refine (path_Under.calls x185000_1 x185002_1 true _ A73.out).mono ?_); rintro e w' ⟨rfl, ⟨nd, rfl⟩⟩; refine ⟨_, rfl, ?_⟩))
           all_goals (go_ret; exact ⟨by first | rfl | (simp [errW_none, errW_some] <;> rfl) | (simp [*, errW_none, errW_some] <;> rfl), by repeat (first | (with_reducible first | exact HB.out | apply below_alloc | apply pw_below_drewN | apply below_drew1 | refine below_set ?_ GE184.out) | exact HB.out)⟩)
         ·rw [if_neg c75] at H
          have c75b0 : decide (t194 < 0) = false := decide_eq_false c75
          clear c75
          obtain rfl := Option.some.inj H
          have hcz80_0 : wc.cell? ⟨gb184, 0, none⟩ = some (.string x185000_1) := (blk_cell BK184.out 0).trans rfl
          have hcz80_1 : wc.cell? ⟨gb184, 1, none⟩ = some (.string x185001_1) := (blk_cell BK184.out 1).trans rfl
          have hcz80_2 : wc.cell? ⟨gb184, 2, none⟩ = some (.string x185002_1) := (blk_cell BK184.out 2).trans rfl
          have hfz80_0 := blk_frozen BK184.out 0
          have hfz80_1 := blk_frozen BK184.out 1
          have hfz80_2 := blk_frozen BK184.out 2
          go_wp2_with (first | ((with_reducible refine gate_callee (f := 27) rfl ?_); refine goesL_ (some 105) rfl rfl Tryd.func27 (by kernel_rfl) rfl #[.string x185000_1, .string x185002_1] rfl (by (try simp only [List.map_toArray, List.map_cons, List.map_nil]); first | done | rfl | (simp only [List.length_drop, List.length_take]; rfl)) ?_; (with_reducible refine (path_Under.calls x185000_1 x185002_1 true _ A73.out).mono ?_); rintro e w' ⟨rfl, ⟨nd, rfl⟩⟩; refine ⟨_, rfl, ?_⟩))
          all_goals (go_ret; exact ⟨by first | rfl | (simp [errW_none, errW_some] <;> rfl) | (simp [*, errW_none, errW_some] <;> rfl), by repeat (first | (with_reducible first | exact HB.out | apply below_alloc | apply pw_below_drewN | apply below_drew1 | refine below_set ?_ GE184.out) | exact HB.out)⟩)
        ·replace c74 := Bool.eq_false_iff.mpr c74
         subst c74
         have H1 : (some true) = some r := by rw [if_neg (show ¬ (false = true) by decide)] at H; exact H
         clear H
         have H := H1
         clear H1
         obtain rfl := Option.some.inj H
         have hcz81_0 : wc.cell? ⟨gb184, 0, none⟩ = some (.string x185000_1) := (blk_cell BK184.out 0).trans rfl
         have hcz81_1 : wc.cell? ⟨gb184, 1, none⟩ = some (.string x185001_1) := (blk_cell BK184.out 1).trans rfl
         have hcz81_2 : wc.cell? ⟨gb184, 2, none⟩ = some (.string x185002_1) := (blk_cell BK184.out 2).trans rfl
         have hfz81_0 := blk_frozen BK184.out 0
         have hfz81_1 := blk_frozen BK184.out 1
         have hfz81_2 := blk_frozen BK184.out 2
         go_wp2_with (first | ((with_reducible refine gate_callee (f := 27) rfl ?_); refine goesL_ (some 105) rfl rfl Tryd.func27 (by kernel_rfl) rfl #[.string x185000_1, .string x185002_1] rfl (by (try simp only [List.map_toArray, List.map_cons, List.map_nil]); first | done | rfl | (simp only [List.length_drop, List.length_take]; rfl)) ?_; (with_reducible refine (path_Under.calls x185000_1 x185002_1 false _ A73.out).mono ?_); rintro e w' ⟨rfl, ⟨nd, rfl⟩⟩; refine ⟨_, rfl, ?_⟩))
         all_goals (go_ret; exact ⟨by first | rfl | (simp [errW_none, errW_some] <;> rfl) | (simp [*, errW_none, errW_some] <;> rfl), by repeat (first | (with_reducible first | exact HB.out | apply below_alloc | apply pw_below_drewN | apply below_drew1 | refine below_set ?_ GE184.out) | exact HB.out)⟩)
 ·replace c5 := Bool.eq_false_iff.mpr c5
  subst c5
  have H1 : (some false) = some r := by rw [if_neg (show ¬ (false = true) by decide)] at H; exact H
  clear H
  have H := H1
  clear H1
  obtain rfl := Option.some.inj H
  go_enter Tryd.func4, Tryd.ntmps4
  go_wp2_with (first | ((with_reducible refine gate_callee (f := 16) rfl ?_); refine goesL_ (some 15) rfl rfl Tryd.func16 (by kernel_rfl) rfl #[] rfl (by (try simp only [List.map_toArray, List.map_cons, List.map_nil]); first | done | rfl | (simp only [List.length_drop, List.length_take]; rfl)) ?_; (with_reducible refine (pannierlaw10_cleans.calls k  false _ A4.out ?hGG).mono ?_); (case hGG => exact GG_below HGG.out (by repeat (first | (with_reducible first | exact HB.out | apply below_alloc | apply pw_below_drewN | apply below_drew1) | exact HB.out))); rintro e w82 ⟨rfl, hb⟩; refine ⟨_, rfl, ?_⟩; have n0_ := Aside0.mk (below_step (by repeat (first | (with_reducible first | exact HB.out | apply below_alloc | apply pw_below_drewN | apply below_drew1) | exact HB.out)) hb); clear HB; have HB := n0_; clear n0_; (try clear hb); (try clear hb2); (try clear hk); (try clear hi)))
  all_goals (go_ret; exact ⟨by first | rfl | (simp [errW_none, errW_some] <;> rfl) | (simp [*, errW_none, errW_some] <;> rfl), by repeat (first | (with_reducible first | exact HB.out | apply below_alloc | apply pw_below_drewN | apply below_drew1) | exact HB.out)⟩)

/-- THE ONE PURE STATEMENT of pannierlaw10_PathOrder: yours. -/
def pannierlaw10_PathOrder.Pure : Prop := ∀ (a0 : ByteArray) (a1 : ByteArray) (a2 : ByteArray), a0.size ≤ 140737488351232 → a1.size ≤ 140737488351232 → a2.size ≤ 140737488351232 → ∃ k, pannierlaw10_PathOrder.f k a0 a1 a2 = some true
theorem pannierlaw10_PathOrder.walk (P : pannierlaw10_PathOrder.Pure) (a0 : ByteArray) (a1 : ByteArray) (a2 : ByteArray) (w : World) (w0 : a0.size ≤ 140737488351232) (w1 : a1.size ≤ 140737488351232) (w2 : a2.size ≤ 140737488351232) (hGG0 : GG w) :
  Calls Tryd.prog 4 #[.string a0, .string a1, .string a2] w fun e w' => e = .returned (.bool true) ∧ Below w.heap.size w w' := by
 obtain ⟨k, h⟩ := P a0 a1 a2 w0 w1 w2
 refine (pannierlaw10_PathOrder.calls k a0 a1 a2 true w h hGG0).mono ?_
 rintro e w' ⟨rfl, hd⟩
 exact ⟨rfl, hd⟩

end Go.Proofs.YtcfhijegmmdpkaaDoor.XA
