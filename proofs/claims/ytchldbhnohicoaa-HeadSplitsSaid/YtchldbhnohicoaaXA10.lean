-- Written by a program of this session (wip/tools/xprint.py) out of the translation's print. Lean checks it.
import Derived.Test.YtchldbhnohicoaaXA0
import Derived.Test.YtchldbhnohicoaaXA9
namespace Go.Proofs.Ytchldbhnohicoaa.XA
open Go.RowKit Go.Proofs.YtchldbhnohicoaaW.PrintWords Go.Proofs.YtchldbhnohicoaaW.PrintLast Go.Proofs.YtchldbhnohicoaaW.PrintMore
attribute [local go_sem] max2_int min2_int max_two min_two max_three min_three max_four min_four   -- for this text's walks alone
set_option linter.unusedVariables false
set_option linter.unusedSimpArgs false

/-! ### pannierref02_Parse: function 27 -/
mutual
def pannierref02_Parse.j0 : Nat → ByteArray → Bool → Option (Int × Int)
 | 0, _, _ => none
 | k + 1, x0, x17 => if x17 = true then (if 0 < (x0.size : Int) then (if (bt x0 0) = 128 then (pannierref02_Parse.j1 k x0 false) else (pannierref02_Parse.j1 k x0 ((bt x0 0) != 255))) else (none)) else (pannierref02_Parse.l0 k x0 0)
def pannierref02_Parse.j1 : Nat → ByteArray → Bool → Option (Int × Int)
 | 0, _, _ => none
 | k + 1, x0, x25 => if x25 = true then (some (0, 20)) else (if 1 ≤ (x0.size : Int) then (if 0 < (x0.size : Int) then ((pannierref02_big.f k (x0.extract 1 x0.size) ((bt x0 0) == 255)).bind fun bt208 => (if bt208.2 = true then (some (bt208.1, 0)) else (some (0, 20)))) else (none)) else (none))
def pannierref02_Parse.j3 : Nat → ByteArray → Int → Option (Int × Int)
 | 0, _, _ => none
 | k + 1, x0, x6 => pannierref02_Parse.l1 k x0 x6 x6
def pannierref02_Parse.j5 : Nat → ByteArray → Int → Int → Option (Int × Int)
 | 0, _, _, _ => none
 | k + 1, x0, x6, x7 => pannierref02_Parse.l2 k x0 x6 x7 x7
def pannierref02_Parse.l2 : Nat → ByteArray → Int → Int → Int → Option (Int × Int)
 | 0, _, _, _, _ => none
 | k + 1, x0, x6, x7, x8 => if x8 < (x0.size : Int) then (if 0 ≤ x8 then (if (bt x0 x8) = 0 then (pannierref02_Parse.l2 k x0 x6 x7 (wrap64 (x8 + 1))) else (if (bt x0 x8) = 32 then (pannierref02_Parse.l2 k x0 x6 x7 (wrap64 (x8 + 1))) else (some (0, 20)))) else (none)) else (pannierref02_Parse.l3 k x0 x6 x7)
def pannierref02_Parse.j8 : Nat → ByteArray → Int → Int → Option (Int × Int)
 | 0, _, _, _ => none
 | k + 1, x0, x6, x7 => if (wrap64 (x7 - x6)) > 21 then (some (0, 20)) else (pannierref02_Parse.l4 k x0 x7 0 x6)
def pannierref02_Parse.l4 : Nat → ByteArray → Int → Int → Int → Option (Int × Int)
 | 0, _, _, _, _ => none
 | k + 1, x0, x7, x9, x10 => if x10 < x7 then (if 0 ≤ x10 then (if x10 < (x0.size : Int) then (pannierref02_Parse.l4 k x0 x7 (wrap64 ((wrap64 (8 * x9)) + (((bt x0 x10) - 48) % 256))) (wrap64 (x10 + 1))) else (none)) else (none)) else (some (x9, 0))
def pannierref02_Parse.l3 : Nat → ByteArray → Int → Int → Option (Int × Int)
 | 0, _, _, _ => none
 | k + 1, x0, x6, x7 => if x6 < x7 then (if 0 ≤ x6 then (if x6 < (x0.size : Int) then (if (bt x0 x6) = 48 then (pannierref02_Parse.l3 k x0 (wrap64 (x6 + 1)) x7) else (pannierref02_Parse.j8 k x0 x6 x7)) else (none)) else (none)) else (pannierref02_Parse.j8 k x0 x6 x7)
def pannierref02_Parse.l1 : Nat → ByteArray → Int → Int → Option (Int × Int)
 | 0, _, _, _ => none
 | k + 1, x0, x6, x7 => if x7 < (x0.size : Int) then (if 0 ≤ x7 then (if (bt x0 x7) ≥ 48 then (if (bt x0 x7) ≤ 55 then (pannierref02_Parse.l1 k x0 x6 (wrap64 (x7 + 1))) else (pannierref02_Parse.j5 k x0 x6 x7)) else (pannierref02_Parse.j5 k x0 x6 x7)) else (none)) else (pannierref02_Parse.j5 k x0 x6 x7)
def pannierref02_Parse.l0 : Nat → ByteArray → Int → Option (Int × Int)
 | 0, _, _ => none
 | k + 1, x0, x6 => if x6 < (x0.size : Int) then (if 0 ≤ x6 then (if (bt x0 x6) = 32 then (pannierref02_Parse.l0 k x0 (wrap64 (x6 + 1))) else (pannierref02_Parse.j3 k x0 x6)) else (none)) else (pannierref02_Parse.j3 k x0 x6)
end
def pannierref02_Parse.f (k : Nat) (a0 : ByteArray) : Option (Int × Int) := if a0.toList = ([] : List UInt8) then (pannierref02_Parse.j0 k a0 false) else (if 0 < (a0.size : Int) then (pannierref02_Parse.j0 k a0 (decide ((bt a0 0) ≥ 128))) else (none))
theorem pannierref02_Parse.mono_l : ∀ k, (∀ y0 y1, LeO (pannierref02_Parse.j0 k y0 y1) (pannierref02_Parse.j0 (k + 1) y0 y1)) ∧ (∀ y0 y1, LeO (pannierref02_Parse.j1 k y0 y1) (pannierref02_Parse.j1 (k + 1) y0 y1)) ∧ (∀ y0 y1, LeO (pannierref02_Parse.j3 k y0 y1) (pannierref02_Parse.j3 (k + 1) y0 y1)) ∧ (∀ y0 y1 y2, LeO (pannierref02_Parse.j5 k y0 y1 y2) (pannierref02_Parse.j5 (k + 1) y0 y1 y2)) ∧ (∀ y0 y1 y2 y3, LeO (pannierref02_Parse.l2 k y0 y1 y2 y3) (pannierref02_Parse.l2 (k + 1) y0 y1 y2 y3)) ∧ (∀ y0 y1 y2, LeO (pannierref02_Parse.j8 k y0 y1 y2) (pannierref02_Parse.j8 (k + 1) y0 y1 y2)) ∧ (∀ y0 y1 y2 y3, LeO (pannierref02_Parse.l4 k y0 y1 y2 y3) (pannierref02_Parse.l4 (k + 1) y0 y1 y2 y3)) ∧ (∀ y0 y1 y2, LeO (pannierref02_Parse.l3 k y0 y1 y2) (pannierref02_Parse.l3 (k + 1) y0 y1 y2)) ∧ (∀ y0 y1 y2, LeO (pannierref02_Parse.l1 k y0 y1 y2) (pannierref02_Parse.l1 (k + 1) y0 y1 y2)) ∧ (∀ y0 y1, LeO (pannierref02_Parse.l0 k y0 y1) (pannierref02_Parse.l0 (k + 1) y0 y1))
 | 0 => ⟨fun _ _ r h => by simp [pannierref02_Parse.j0] at h, fun _ _ r h => by simp [pannierref02_Parse.j1] at h, fun _ _ r h => by simp [pannierref02_Parse.j3] at h, fun _ _ _ r h => by simp [pannierref02_Parse.j5] at h, fun _ _ _ _ r h => by simp [pannierref02_Parse.l2] at h, fun _ _ _ r h => by simp [pannierref02_Parse.j8] at h, fun _ _ _ _ r h => by simp [pannierref02_Parse.l4] at h, fun _ _ _ r h => by simp [pannierref02_Parse.l3] at h, fun _ _ _ r h => by simp [pannierref02_Parse.l1] at h, fun _ _ r h => by simp [pannierref02_Parse.l0] at h⟩
 | k + 1 => by
  obtain ⟨ih0, ih1, ih2, ih3, ih4, ih5, ih6, ih7, ih8, ih9⟩ := pannierref02_Parse.mono_l k
  refine ⟨?_, ?_, ?_, ?_, ?_, ?_, ?_, ?_, ?_, ?_⟩
  ·intro y0 y1
   unfold pannierref02_Parse.j0
   repeat' first
   | (with_reducible exact ih0 _ _)
   | (with_reducible exact ih1 _ _)
   | (with_reducible exact ih2 _ _)
   | (with_reducible exact ih3 _ _ _)
   | (with_reducible exact ih4 _ _ _ _)
   | (with_reducible exact ih5 _ _ _)
   | (with_reducible exact ih6 _ _ _ _)
   | (with_reducible exact ih7 _ _ _)
   | (with_reducible exact ih8 _ _ _)
   | (with_reducible exact ih9 _ _)
   | (with_reducible exact pannierref02_big.mono _ _ _)
   | (with_reducible exact LeO.refl _)
   | (with_reducible exact LeO.none _)
   | (with_reducible refine LeO.ite ?_ ?_)
   | (with_reducible refine LeO.bind ?_ (fun _ => ?_))
   | exact ih0 _ _
   | exact ih1 _ _
   | exact ih2 _ _
   | exact ih3 _ _ _
   | exact ih4 _ _ _ _
   | exact ih5 _ _ _
   | exact ih6 _ _ _ _
   | exact ih7 _ _ _
   | exact ih8 _ _ _
   | exact ih9 _ _
   | exact pannierref02_big.mono _ _ _
   | exact LeO.none _
   | refine LeO.ite ?_ ?_
   | refine LeO.bind ?_ (fun _ => ?_)
  ·intro y0 y1
   unfold pannierref02_Parse.j1
   repeat' first
   | (with_reducible exact ih0 _ _)
   | (with_reducible exact ih1 _ _)
   | (with_reducible exact ih2 _ _)
   | (with_reducible exact ih3 _ _ _)
   | (with_reducible exact ih4 _ _ _ _)
   | (with_reducible exact ih5 _ _ _)
   | (with_reducible exact ih6 _ _ _ _)
   | (with_reducible exact ih7 _ _ _)
   | (with_reducible exact ih8 _ _ _)
   | (with_reducible exact ih9 _ _)
   | (with_reducible exact pannierref02_big.mono _ _ _)
   | (with_reducible exact LeO.refl _)
   | (with_reducible exact LeO.none _)
   | (with_reducible refine LeO.ite ?_ ?_)
   | (with_reducible refine LeO.bind ?_ (fun _ => ?_))
   | exact ih0 _ _
   | exact ih1 _ _
   | exact ih2 _ _
   | exact ih3 _ _ _
   | exact ih4 _ _ _ _
   | exact ih5 _ _ _
   | exact ih6 _ _ _ _
   | exact ih7 _ _ _
   | exact ih8 _ _ _
   | exact ih9 _ _
   | exact pannierref02_big.mono _ _ _
   | exact LeO.none _
   | refine LeO.ite ?_ ?_
   | refine LeO.bind ?_ (fun _ => ?_)
  ·intro y0 y1
   unfold pannierref02_Parse.j3
   repeat' first
   | (with_reducible exact ih0 _ _)
   | (with_reducible exact ih1 _ _)
   | (with_reducible exact ih2 _ _)
   | (with_reducible exact ih3 _ _ _)
   | (with_reducible exact ih4 _ _ _ _)
   | (with_reducible exact ih5 _ _ _)
   | (with_reducible exact ih6 _ _ _ _)
   | (with_reducible exact ih7 _ _ _)
   | (with_reducible exact ih8 _ _ _)
   | (with_reducible exact ih9 _ _)
   | (with_reducible exact pannierref02_big.mono _ _ _)
   | (with_reducible exact LeO.refl _)
   | (with_reducible exact LeO.none _)
   | (with_reducible refine LeO.ite ?_ ?_)
   | (with_reducible refine LeO.bind ?_ (fun _ => ?_))
   | exact ih0 _ _
   | exact ih1 _ _
   | exact ih2 _ _
   | exact ih3 _ _ _
   | exact ih4 _ _ _ _
   | exact ih5 _ _ _
   | exact ih6 _ _ _ _
   | exact ih7 _ _ _
   | exact ih8 _ _ _
   | exact ih9 _ _
   | exact pannierref02_big.mono _ _ _
   | exact LeO.none _
   | refine LeO.ite ?_ ?_
   | refine LeO.bind ?_ (fun _ => ?_)
  ·intro y0 y1 y2
   unfold pannierref02_Parse.j5
   repeat' first
   | (with_reducible exact ih0 _ _)
   | (with_reducible exact ih1 _ _)
   | (with_reducible exact ih2 _ _)
   | (with_reducible exact ih3 _ _ _)
   | (with_reducible exact ih4 _ _ _ _)
   | (with_reducible exact ih5 _ _ _)
   | (with_reducible exact ih6 _ _ _ _)
   | (with_reducible exact ih7 _ _ _)
   | (with_reducible exact ih8 _ _ _)
   | (with_reducible exact ih9 _ _)
   | (with_reducible exact pannierref02_big.mono _ _ _)
   | (with_reducible exact LeO.refl _)
   | (with_reducible exact LeO.none _)
   | (with_reducible refine LeO.ite ?_ ?_)
   | (with_reducible refine LeO.bind ?_ (fun _ => ?_))
   | exact ih0 _ _
   | exact ih1 _ _
   | exact ih2 _ _
   | exact ih3 _ _ _
   | exact ih4 _ _ _ _
   | exact ih5 _ _ _
   | exact ih6 _ _ _ _
   | exact ih7 _ _ _
   | exact ih8 _ _ _
   | exact ih9 _ _
   | exact pannierref02_big.mono _ _ _
   | exact LeO.none _
   | refine LeO.ite ?_ ?_
   | refine LeO.bind ?_ (fun _ => ?_)
  ·intro y0 y1 y2 y3
   unfold pannierref02_Parse.l2
   repeat' first
   | (with_reducible exact ih0 _ _)
   | (with_reducible exact ih1 _ _)
   | (with_reducible exact ih2 _ _)
   | (with_reducible exact ih3 _ _ _)
   | (with_reducible exact ih4 _ _ _ _)
   | (with_reducible exact ih5 _ _ _)
   | (with_reducible exact ih6 _ _ _ _)
   | (with_reducible exact ih7 _ _ _)
   | (with_reducible exact ih8 _ _ _)
   | (with_reducible exact ih9 _ _)
   | (with_reducible exact pannierref02_big.mono _ _ _)
   | (with_reducible exact LeO.refl _)
   | (with_reducible exact LeO.none _)
   | (with_reducible refine LeO.ite ?_ ?_)
   | (with_reducible refine LeO.bind ?_ (fun _ => ?_))
   | exact ih0 _ _
   | exact ih1 _ _
   | exact ih2 _ _
   | exact ih3 _ _ _
   | exact ih4 _ _ _ _
   | exact ih5 _ _ _
   | exact ih6 _ _ _ _
   | exact ih7 _ _ _
   | exact ih8 _ _ _
   | exact ih9 _ _
   | exact pannierref02_big.mono _ _ _
   | exact LeO.none _
   | refine LeO.ite ?_ ?_
   | refine LeO.bind ?_ (fun _ => ?_)
  ·intro y0 y1 y2
   unfold pannierref02_Parse.j8
   repeat' first
   | (with_reducible exact ih0 _ _)
   | (with_reducible exact ih1 _ _)
   | (with_reducible exact ih2 _ _)
   | (with_reducible exact ih3 _ _ _)
   | (with_reducible exact ih4 _ _ _ _)
   | (with_reducible exact ih5 _ _ _)
   | (with_reducible exact ih6 _ _ _ _)
   | (with_reducible exact ih7 _ _ _)
   | (with_reducible exact ih8 _ _ _)
   | (with_reducible exact ih9 _ _)
   | (with_reducible exact pannierref02_big.mono _ _ _)
   | (with_reducible exact LeO.refl _)
   | (with_reducible exact LeO.none _)
   | (with_reducible refine LeO.ite ?_ ?_)
   | (with_reducible refine LeO.bind ?_ (fun _ => ?_))
   | exact ih0 _ _
   | exact ih1 _ _
   | exact ih2 _ _
   | exact ih3 _ _ _
   | exact ih4 _ _ _ _
   | exact ih5 _ _ _
   | exact ih6 _ _ _ _
   | exact ih7 _ _ _
   | exact ih8 _ _ _
   | exact ih9 _ _
   | exact pannierref02_big.mono _ _ _
   | exact LeO.none _
   | refine LeO.ite ?_ ?_
   | refine LeO.bind ?_ (fun _ => ?_)
  ·intro y0 y1 y2 y3
   unfold pannierref02_Parse.l4
   repeat' first
   | (with_reducible exact ih0 _ _)
   | (with_reducible exact ih1 _ _)
   | (with_reducible exact ih2 _ _)
   | (with_reducible exact ih3 _ _ _)
   | (with_reducible exact ih4 _ _ _ _)
   | (with_reducible exact ih5 _ _ _)
   | (with_reducible exact ih6 _ _ _ _)
   | (with_reducible exact ih7 _ _ _)
   | (with_reducible exact ih8 _ _ _)
   | (with_reducible exact ih9 _ _)
   | (with_reducible exact pannierref02_big.mono _ _ _)
   | (with_reducible exact LeO.refl _)
   | (with_reducible exact LeO.none _)
   | (with_reducible refine LeO.ite ?_ ?_)
   | (with_reducible refine LeO.bind ?_ (fun _ => ?_))
   | exact ih0 _ _
   | exact ih1 _ _
   | exact ih2 _ _
   | exact ih3 _ _ _
   | exact ih4 _ _ _ _
   | exact ih5 _ _ _
   | exact ih6 _ _ _ _
   | exact ih7 _ _ _
   | exact ih8 _ _ _
   | exact ih9 _ _
   | exact pannierref02_big.mono _ _ _
   | exact LeO.none _
   | refine LeO.ite ?_ ?_
   | refine LeO.bind ?_ (fun _ => ?_)
  ·intro y0 y1 y2
   unfold pannierref02_Parse.l3
   repeat' first
   | (with_reducible exact ih0 _ _)
   | (with_reducible exact ih1 _ _)
   | (with_reducible exact ih2 _ _)
   | (with_reducible exact ih3 _ _ _)
   | (with_reducible exact ih4 _ _ _ _)
   | (with_reducible exact ih5 _ _ _)
   | (with_reducible exact ih6 _ _ _ _)
   | (with_reducible exact ih7 _ _ _)
   | (with_reducible exact ih8 _ _ _)
   | (with_reducible exact ih9 _ _)
   | (with_reducible exact pannierref02_big.mono _ _ _)
   | (with_reducible exact LeO.refl _)
   | (with_reducible exact LeO.none _)
   | (with_reducible refine LeO.ite ?_ ?_)
   | (with_reducible refine LeO.bind ?_ (fun _ => ?_))
   | exact ih0 _ _
   | exact ih1 _ _
   | exact ih2 _ _
   | exact ih3 _ _ _
   | exact ih4 _ _ _ _
   | exact ih5 _ _ _
   | exact ih6 _ _ _ _
   | exact ih7 _ _ _
   | exact ih8 _ _ _
   | exact ih9 _ _
   | exact pannierref02_big.mono _ _ _
   | exact LeO.none _
   | refine LeO.ite ?_ ?_
   | refine LeO.bind ?_ (fun _ => ?_)
  ·intro y0 y1 y2
   unfold pannierref02_Parse.l1
   repeat' first
   | (with_reducible exact ih0 _ _)
   | (with_reducible exact ih1 _ _)
   | (with_reducible exact ih2 _ _)
   | (with_reducible exact ih3 _ _ _)
   | (with_reducible exact ih4 _ _ _ _)
   | (with_reducible exact ih5 _ _ _)
   | (with_reducible exact ih6 _ _ _ _)
   | (with_reducible exact ih7 _ _ _)
   | (with_reducible exact ih8 _ _ _)
   | (with_reducible exact ih9 _ _)
   | (with_reducible exact pannierref02_big.mono _ _ _)
   | (with_reducible exact LeO.refl _)
   | (with_reducible exact LeO.none _)
   | (with_reducible refine LeO.ite ?_ ?_)
   | (with_reducible refine LeO.bind ?_ (fun _ => ?_))
   | exact ih0 _ _
   | exact ih1 _ _
   | exact ih2 _ _
   | exact ih3 _ _ _
   | exact ih4 _ _ _ _
   | exact ih5 _ _ _
   | exact ih6 _ _ _ _
   | exact ih7 _ _ _
   | exact ih8 _ _ _
   | exact ih9 _ _
   | exact pannierref02_big.mono _ _ _
   | exact LeO.none _
   | refine LeO.ite ?_ ?_
   | refine LeO.bind ?_ (fun _ => ?_)
  ·intro y0 y1
   unfold pannierref02_Parse.l0
   repeat' first
   | (with_reducible exact ih0 _ _)
   | (with_reducible exact ih1 _ _)
   | (with_reducible exact ih2 _ _)
   | (with_reducible exact ih3 _ _ _)
   | (with_reducible exact ih4 _ _ _ _)
   | (with_reducible exact ih5 _ _ _)
   | (with_reducible exact ih6 _ _ _ _)
   | (with_reducible exact ih7 _ _ _)
   | (with_reducible exact ih8 _ _ _)
   | (with_reducible exact ih9 _ _)
   | (with_reducible exact pannierref02_big.mono _ _ _)
   | (with_reducible exact LeO.refl _)
   | (with_reducible exact LeO.none _)
   | (with_reducible refine LeO.ite ?_ ?_)
   | (with_reducible refine LeO.bind ?_ (fun _ => ?_))
   | exact ih0 _ _
   | exact ih1 _ _
   | exact ih2 _ _
   | exact ih3 _ _ _
   | exact ih4 _ _ _ _
   | exact ih5 _ _ _
   | exact ih6 _ _ _ _
   | exact ih7 _ _ _
   | exact ih8 _ _ _
   | exact ih9 _ _
   | exact pannierref02_big.mono _ _ _
   | exact LeO.none _
   | refine LeO.ite ?_ ?_
   | refine LeO.bind ?_ (fun _ => ?_)
theorem pannierref02_Parse.mono : ∀ a0 k, LeO (pannierref02_Parse.f k a0) (pannierref02_Parse.f (k + 1) a0) := by
 intro a0 k
 obtain ⟨ih0, ih1, ih2, ih3, ih4, ih5, ih6, ih7, ih8, ih9⟩ := pannierref02_Parse.mono_l k
 unfold pannierref02_Parse.f
 repeat' first
   | (with_reducible exact ih0 _ _)
   | (with_reducible exact ih1 _ _)
   | (with_reducible exact ih2 _ _)
   | (with_reducible exact ih3 _ _ _)
   | (with_reducible exact ih4 _ _ _ _)
   | (with_reducible exact ih5 _ _ _)
   | (with_reducible exact ih6 _ _ _ _)
   | (with_reducible exact ih7 _ _ _)
   | (with_reducible exact ih8 _ _ _)
   | (with_reducible exact ih9 _ _)
   | (with_reducible exact pannierref02_big.mono _ _ _)
   | (with_reducible exact LeO.refl _)
   | (with_reducible exact LeO.none _)
   | (with_reducible refine LeO.ite ?_ ?_)
   | (with_reducible refine LeO.bind ?_ (fun _ => ?_))
   | exact ih0 _ _
   | exact ih1 _ _
   | exact ih2 _ _
   | exact ih3 _ _ _
   | exact ih4 _ _ _ _
   | exact ih5 _ _ _
   | exact ih6 _ _ _ _
   | exact ih7 _ _ _
   | exact ih8 _ _ _
   | exact ih9 _ _
   | exact pannierref02_big.mono _ _ _
   | exact LeO.none _
   | refine LeO.ite ?_ ?_
   | refine LeO.bind ?_ (fun _ => ?_)
def pannierref02_Parse.T4 : Bool × List (List Nat × List Nat) := (true, [([], []), ([0], [0]), ([], []), ([2], [2]), ([3], [3]), ([1, 4], [1, 4]), ([5], [5]), ([6], [6]), ([6], [6]), ([7, 5, 0, 1, 2, 3, 4, 5, 6, 7], [7]), ([8, 9, 0, 1, 2, 3, 4, 5, 6, 7, 8, 9], [8])])
def pannierref02_Parse.B4 : List Nat := [0, 1, 0, 4, 12, 31, 63, 127, 127, 255, 1023]
theorem pannierref02_Parse.tab4 : rtab .any (opsOf Try.f27 4) = pannierref02_Parse.T4 := by kernel_rfl
theorem pannierref02_Parse.bits4 : waitsOk pannierref02_Parse.T4.2 pannierref02_Parse.B4 = true := by kernel_rfl
set_option maxHeartbeats 8000000 in
set_option maxRecDepth 100000 in
theorem pannierref02_Parse.calls (k : Nat) (a0 : ByteArray) (r1 : Int) (r2 : Int) (w : World) (h : pannierref02_Parse.f k a0 = some (r1, r2)) :
  Calls Try.prog 27 #[.string a0] w fun e w' => e = .returned (.tuple #[.int .i64 r1, .int .i64 r2]) ∧ Below w.heap.size w w' := by
 have HB := Aside0.mk (Below.refl w.heap.size w)
 have H : (if a0.toList = ([] : List UInt8) then (pannierref02_Parse.j0 k a0 false) else (if 0 < (a0.size : Int) then (pannierref02_Parse.j0 k a0 (decide ((bt a0 0) ≥ 128))) else (none))) = some (r1, r2) := h
 clear h
 have HC2 := Aside0.mk H
 clear H
 go_enter Try.func27, Try.ntmps27
 go_upto_region 1 with (fail)
 go_cut [17] (fun v17 wc => ∃ (kq : Nat) (x17_1 : Bool), v17 = .bool x17_1 ∧ Aside0 (pannierref02_Parse.j0 kq a0 x17_1 = some (r1, r2)) ∧ Aside0 (kq ≤ k) ∧ Aside0 (Below w.heap.size w wc))
 case first =>
  have H := HC2.out
  clear HC2
  by_cases c3 : a0.toList = ([] : List UInt8)
  ·rw [if_pos c3] at H
   have c3b0 : (a0.toList == ([] : List UInt8)) = true := beq_iff_eq.mpr c3
   have c3b1 : (a0.toList != ([] : List UInt8)) = false := bne_eq_false_iff_eq.mpr c3
   clear c3
   (first | rw [c3b0] | (simp only [i64_w, i32_w]; rw [c3b0]) | skip)
   have H' := Aside0.mk H
   clear H
   go_wp2
   go_meet
   case rel => exact ⟨_, (false), (by first | rfl | (simp; done) | (simp [*]; done)), H', ⟨by first | omega | exact Nat.le_refl _⟩, ⟨by repeat (first | (with_reducible first | exact HB.out | apply below_alloc | apply pw_below_drewN | apply below_drew1) | exact HB.out)⟩⟩
  ·rw [if_neg c3] at H
   have c3b0 : (a0.toList == ([] : List UInt8)) = false := beq_eq_false_iff_ne.mpr c3
   have c3b1 : (a0.toList != ([] : List UInt8)) = true := bne_iff_ne.mpr c3
   (first | rw [c3b0] | (simp only [i64_w, i32_w]; rw [c3b0]) | skip)
   by_cases c4 : 0 < (a0.size : Int)
   ·rw [if_pos c4] at H
    have c4b0 : decide (0 < (a0.size : Int)) = true := decide_eq_true c4
    have c4b1 : decide (0 < a0.size) = true := decide_eq_true (by omega)
    clear c4
    have H' := Aside0.mk H
    clear H
    have p5 : 0 ≤ (0 : Int) := (by omega)
    have q5 : 0 < a0.size := (by have : (0 : Int) < (a0.size : Int) := of_decide_eq_true (by first | (with_reducible assumption) | assumption); omega)
    have hx5 : ∀ h : 0 < a0.size, ((a0[0]'h).toNat : Int) = bt a0 0 := bt_at a0 0
    clear p5
    have qi5 : (0 < (a0.size : Int)) = True := eq_true (of_decide_eq_true (by first | (with_reducible assumption) | assumption))
    replace q5 := eq_true q5
    go_wp2
    go_meet
    case rel => exact ⟨_, (decide ((bt a0 0) ≥ 128)), (by first | rfl | (simp; done) | (simp [*]; done)), H', ⟨by first | omega | exact Nat.le_refl _⟩, ⟨by repeat (first | (with_reducible first | exact HB.out | apply below_alloc | apply pw_below_drewN | apply below_drew1) | exact HB.out)⟩⟩
   ·rw [if_neg c4] at H
    exact absurd H (by simp)
 case rest =>
  clear HC2
  try clear c2
  try clear p2
  try clear c3
  try clear c3b0
  try clear c3b1
  try clear c4
  try clear c4b0
  try clear c4b1
  try clear p5
  try clear q5
  try clear hx5
  try clear qi5
  try clear p5
  try clear q5
  obtain ⟨kq, x17_1, rfl, HA, HJ1, HB⟩ := hcut
  cases kq with
  | zero => exact absurd HA.out (by simp [pannierref02_Parse.j0])
  | succ kj1 =>
   have H := HA.out
   clear HA
   simp only [pannierref02_Parse.j0] at H
   by_cases c6 : x17_1 = true
   ·subst c6
    have H1 : (if 0 < (a0.size : Int) then (if (bt a0 0) = 128 then (pannierref02_Parse.j1 kj1 a0 false) else (pannierref02_Parse.j1 kj1 a0 ((bt a0 0) != 255))) else (none)) = some (r1, r2) := by rw [if_pos rfl] at H; exact H
    clear H
    have H := H1
    clear H1
    have HC7 := Aside0.mk H
    clear H
    go_upto_region 2 with (fail)
    go_cut [25] (fun v25 wc => ∃ (kq : Nat) (x25_6 : Bool), v25 = .bool x25_6 ∧ Aside0 (pannierref02_Parse.j1 kq a0 x25_6 = some (r1, r2)) ∧ Aside0 (kq ≤ kj1) ∧ Aside0 (Below w.heap.size w wc))
    case first =>
     have H := HC7.out
     clear HC7
     by_cases c8 : 0 < (a0.size : Int)
     ·rw [if_pos c8] at H
      have c8b0 : decide (0 < (a0.size : Int)) = true := decide_eq_true c8
      have c8b1 : decide (0 < a0.size) = true := decide_eq_true (by omega)
      clear c8
      (first | rw [c8b0] | (simp only [i64_w, i32_w]; rw [c8b0]) | skip)
      by_cases c10 : (bt a0 0) = 128
      ·rw [if_pos c10] at H
       have c10b0 : ((bt a0 0) == 128) = true := beq_iff_eq.mpr c10
       have c10b1 : ((bt a0 0) != 128) = false := bne_eq_false_iff_eq.mpr c10
       clear c10
       have H' := Aside0.mk H
       clear H
       have p9 : 0 ≤ (0 : Int) := (by omega)
       have q9 : 0 < a0.size := (by have : (0 : Int) < (a0.size : Int) := of_decide_eq_true (by first | (with_reducible assumption) | assumption); omega)
       have hx9 : ∀ h : 0 < a0.size, ((a0[0]'h).toNat : Int) = bt a0 0 := bt_at a0 0
       clear p9
       have qi9 : (0 < (a0.size : Int)) = True := eq_true (of_decide_eq_true (by first | (with_reducible assumption) | assumption))
       replace q9 := eq_true q9
       go_wp2
       go_meet
       case rel => exact ⟨_, (false), (by first | rfl | (simp; done) | (simp [*]; done)), H', ⟨by have := HJ1.out; first | omega | exact Nat.le_refl _⟩, ⟨by repeat (first | (with_reducible first | exact HB.out | apply below_alloc | apply pw_below_drewN | apply below_drew1) | exact HB.out)⟩⟩
      ·rw [if_neg c10] at H
       have c10b0 : ((bt a0 0) == 128) = false := beq_eq_false_iff_ne.mpr c10
       have c10b1 : ((bt a0 0) != 128) = true := bne_iff_ne.mpr c10
       have H' := Aside0.mk H
       clear H
       have p9 : 0 ≤ (0 : Int) := (by omega)
       have q9 : 0 < a0.size := (by have : (0 : Int) < (a0.size : Int) := of_decide_eq_true (by first | (with_reducible assumption) | assumption); omega)
       have hx9 : ∀ h : 0 < a0.size, ((a0[0]'h).toNat : Int) = bt a0 0 := bt_at a0 0
       clear p9
       have qi9 : (0 < (a0.size : Int)) = True := eq_true (of_decide_eq_true (by first | (with_reducible assumption) | assumption))
       replace q9 := eq_true q9
       have p11 : 0 ≤ (0 : Int) := (by omega)
       have q11 : 0 < a0.size := (by have : (0 : Int) < (a0.size : Int) := of_decide_eq_true (by first | (with_reducible assumption) | assumption); omega)
       have hx11 : ∀ h : 0 < a0.size, ((a0[0]'h).toNat : Int) = bt a0 0 := bt_at a0 0
       clear p11
       have qi11 : (0 < (a0.size : Int)) = True := eq_true (of_decide_eq_true (by first | (with_reducible assumption) | assumption))
       replace q11 := eq_true q11
       go_wp2
       go_meet
       case rel => exact ⟨_, (((bt a0 0) != 255)), (by first | rfl | (simp; done) | (simp [*]; done)), H', ⟨by have := HJ1.out; first | omega | exact Nat.le_refl _⟩, ⟨by repeat (first | (with_reducible first | exact HB.out | apply below_alloc | apply pw_below_drewN | apply below_drew1) | exact HB.out)⟩⟩
     ·rw [if_neg c8] at H
      exact absurd H (by simp)
    case rest =>
     clear HC7
     try clear c1
     try clear p1
     try clear q1
     try clear hx1
     try clear qi1
     try clear c2
     try clear p2
     try clear c3
     try clear c3b0
     try clear c3b1
     try clear c4
     try clear c4b0
     try clear c4b1
     try clear p5
     try clear q5
     try clear hx5
     try clear qi5
     try clear c6
     try clear c8
     try clear c8b0
     try clear c8b1
     try clear p9
     try clear q9
     try clear hx9
     try clear qi9
     try clear c10
     try clear c10b0
     try clear c10b1
     try clear p11
     try clear q11
     try clear hx11
     try clear qi11
     try clear p11
     try clear p2
     try clear p5
     try clear p9
     try clear q11
     try clear q5
     try clear q9
     obtain ⟨kq, x25_6, rfl, HA, HJ6, HB⟩ := hcut
     cases kq with
     | zero => exact absurd HA.out (by simp [pannierref02_Parse.j1])
     | succ kj6 =>
      have H := HA.out
      clear HA
      simp only [pannierref02_Parse.j1] at H
      by_cases c12 : x25_6 = true
      ·subst c12
       have H1 : (some (0, 20)) = some (r1, r2) := by rw [if_pos rfl] at H; exact H
       clear H
       have H := H1
       clear H1
       simp only [Option.some.injEq, Prod.mk.injEq] at H
       obtain ⟨rfl, rfl⟩ := H
       go_wp2
       go_ret2
       exact ⟨by first | rfl | (simp [errW_none, errW_some] <;> rfl) | (simp [*, errW_none, errW_some] <;> rfl), by repeat (first | (with_reducible first | exact HB.out | apply below_alloc | apply pw_below_drewN | apply below_drew1) | exact HB.out)⟩
      ·replace c12 := Bool.eq_false_iff.mpr c12
       subst c12
       have H1 : (if 1 ≤ (a0.size : Int) then (if 0 < (a0.size : Int) then ((pannierref02_big.f kj6 (a0.extract 1 a0.size) ((bt a0 0) == 255)).bind fun bt208 => (if bt208.2 = true then (some (bt208.1, 0)) else (some (0, 20)))) else (none)) else (none)) = some (r1, r2) := by rw [if_neg (show ¬ (false = true) by decide)] at H; exact H
       clear H
       have H := H1
       clear H1
       by_cases c13 : 1 ≤ (a0.size : Int)
       ·rw [if_pos c13] at H
        have c13b0 := eq_true c13
        have c13b1 : decide (1 ≤ (a0.size : Int)) = true := decide_eq_true c13
        clear c13
        by_cases c14 : 0 < (a0.size : Int)
        ·rw [if_pos c14] at H
         have c14b0 : decide (0 < (a0.size : Int)) = true := decide_eq_true c14
         have c14b1 : decide (0 < a0.size) = true := decide_eq_true (by omega)
         clear c14
         replace H := Option.bind_eq_some_iff.mp H
         obtain ⟨⟨t208, t209⟩, A160, H⟩ := H
         replace H : (if t209 = true then (some (t208, 0)) else (some (0, 20))) = some (r1, r2) := H
         have A16 := Aside0.mk A160
         clear A160
         by_cases c17 : t209 = true
         ·subst c17
          have H1 : (some (t208, 0)) = some (r1, r2) := by rw [if_pos rfl] at H; exact H
          clear H
          have H := H1
          clear H1
          simp only [Option.some.injEq, Prod.mk.injEq] at H
          obtain ⟨rfl, rfl⟩ := H
          try go_wp2
          have n0_ := Aside0.mk (below_drew1 HB.out)
          clear HB
          have HB := n0_
          clear n0_
          have p15 : 0 ≤ (0 : Int) := (by omega)
          have q15 : 0 < a0.size := (by have : (0 : Int) < (a0.size : Int) := of_decide_eq_true (by first | (with_reducible assumption) | assumption); omega)
          have hx15 : ∀ h : 0 < a0.size, ((a0[0]'h).toNat : Int) = bt a0 0 := bt_at a0 0
          clear p15
          have qi15 : (0 < (a0.size : Int)) = True := eq_true (of_decide_eq_true (by first | (with_reducible assumption) | assumption))
          replace q15 := eq_true q15
          refine start_ (n := 11) (S := fun w' => True) (ds := []) #[false, false, false, false, false, false, false, false, false, false, false] (by kernel_rfl) rfl rfl trivial (fun hHeld => ?_); refine with_tabW pannierref02_Parse.tab4 pannierref02_Parse.bits4 (fun HT_ HW_ => ?_)
          generalize wc.drew = w18 at HB hHeld ⊢
          refine pure_ (i := 0) (N := some 27) (v := ?_) (a' := ?_) #[true, false, false, false, false, false, false, false, false, false, false] rfl rfl (any_of HT_.out (by kernel_rfl)) (fun _ _ _ h => h) (Or.inl ⟨by rfl, ?_⟩) ?_ ?_
          rotate_left
          ·intro w'
           go_simp
           with_reducible rfl
          rotate_left
          ·simp only [Act.put, List.setIfInBounds_toArray, List.set_cons_zero, List.set_cons_succ, i64_w, i32_w]
           rfl
          refine pure_ (i := 1) (N := some 28) (v := ?_) (a' := ?_) #[true, true, false, false, false, false, false, false, false, false, false] rfl rfl (any_of HT_.out (by kernel_rfl)) (fun _ _ _ h => h) (Or.inl ⟨by rfl, ?_⟩) ?_ ?_
          rotate_left
          ·intro w'
           go_simp
           with_reducible rfl
          rotate_left
          ·simp only [Act.put, List.setIfInBounds_toArray, List.set_cons_zero, List.set_cons_succ, i64_w, i32_w]
           rfl
          refine pure_ (i := 2) (N := some 29) (v := ?_) (a' := ?_) #[true, true, true, false, false, false, false, false, false, false, false] rfl rfl (any_of HT_.out (by kernel_rfl)) (fun _ _ _ h => h) (Or.inl ⟨by rfl, ?_⟩) ?_ ?_
          rotate_left
          ·intro w'
           go_simp
           with_reducible rfl
          rotate_left
          ·simp only [Act.put, List.setIfInBounds_toArray, List.set_cons_zero, List.set_cons_succ, i64_w, i32_w]
           rfl
          refine take_ (i := 3) (N := some 30) (v := ?_) (a' := ?_) #[true, true, true, true, false, false, false, false, false, false, false] rfl rfl (take_ofW HT_.out HW_.out (by kernel_rfl)) (fun _ _ _ h => h) (Or.inl ⟨by rfl, ?_⟩) hHeld ?_ ?_
          rotate_left
          ·intro w' _
           go_simp
           with_reducible rfl
          rotate_left
          ·simp only [Act.put, List.setIfInBounds_toArray, List.set_cons_zero, List.set_cons_succ, i64_w, i32_w]
           rfl
          refine pure_ (i := 4) (N := some 31) (v := ?_) (a' := ?_) #[true, true, true, true, true, false, false, false, false, false, false] rfl rfl (any_of HT_.out (by kernel_rfl)) (fun _ _ _ h => h) (Or.inl ⟨by rfl, ?_⟩) ?_ ?_
          rotate_left
          ·intro w'
           go_simp
           with_reducible rfl
          rotate_left
          ·simp only [Act.put, List.setIfInBounds_toArray, List.set_cons_zero, List.set_cons_succ, i64_w, i32_w]
           rfl
          refine one_ (i := 5) (N := some 32) #[true, true, true, true, true, true, false, false, false, false, false] rfl rfl (one_of HT_.out (by kernel_rfl)) (by decide) (fun K hK => ?_)
          refine goes_ Try.func38 (by kernel_rfl) rfl #[.string (a0.extract 1 a0.size), .bool ((bt a0 0) == 255)] (by rfl) rfl rfl (by (try simp only [List.map_toArray, List.map_cons, List.map_nil]); first | done | rfl | (simp only [List.length_drop, List.length_take]; rfl)) ?_
          with_reducible refine (pannierref02_big.calls kj6 (a0.extract 1 a0.size) ((bt a0 0) == 255) t208 true _ A16.out).mono ?_
          rintro e w19 ⟨rfl, hb⟩
          refine ⟨_, rfl, ?_⟩
          have n0_ := Aside0.mk (below_step (by repeat (first | (with_reducible first | exact HB.out | apply below_alloc | apply pw_below_drewN | apply below_drew1) | exact HB.out)) hb)
          clear HB
          have HB := n0_
          clear n0_
          (try clear hb)
          (try clear hb2)
          (try clear hk)
          (try clear hi)
          refine hK.out _ _ trivial (fun hHeld => ?_)
          clear hK K
          refine norm_ (a' := ?_) ?_ ?_
          rotate_left
          ·show Act.put _ (some 32) _ = _
           simp only [Act.put, List.setIfInBounds_toArray, List.set_cons_zero, List.set_cons_succ, i64_w, i32_w]
           rfl
          refine pure_ (i := 6) (N := some 26) (v := ?_) (a' := ?_) #[true, true, true, true, true, true, true, false, false, false, false] rfl rfl (any_of HT_.out (by kernel_rfl)) (fun _ _ _ h => h) (Or.inl ⟨by rfl, ?_⟩) ?_ ?_
          rotate_left
          ·intro w'
           go_simp
           with_reducible rfl
          rotate_left
          ·simp only [Act.put, List.setIfInBounds_toArray, List.set_cons_zero, List.set_cons_succ, i64_w, i32_w]
           rfl
          refine pure_ (i := 7) (N := some 33) (v := ?_) (a' := ?_) #[true, true, true, true, true, true, true, true, false, false, false] rfl rfl (any_of HT_.out (by kernel_rfl)) (fun _ _ _ h => h) (Or.inl ⟨by rfl, ?_⟩) ?_ ?_
          rotate_left
          ·intro w'
           go_simp
           with_reducible rfl
          rotate_left
          ·simp only [Act.put, List.setIfInBounds_toArray, List.set_cons_zero, List.set_cons_succ, i64_w, i32_w]
           rfl
          refine pure_ (i := 8) (N := some 34) (v := ?_) (a' := ?_) #[true, true, true, true, true, true, true, true, true, false, false] rfl rfl (any_of HT_.out (by kernel_rfl)) (fun _ _ _ h => h) (Or.inl ⟨by rfl, ?_⟩) ?_ ?_
          rotate_left
          ·intro w'
           go_simp
           with_reducible rfl
          rotate_left
          ·simp only [Act.put, List.setIfInBounds_toArray, List.set_cons_zero, List.set_cons_succ, i64_w, i32_w]
           rfl
          refine pure_ (i := 9) (N := some 4) (v := ?_) (a' := ?_) #[true, true, true, true, true, true, true, true, true, true, false] rfl rfl (any_of HT_.out (by kernel_rfl)) (fun _ _ _ h => h) (Or.inl ⟨by rfl, ?_⟩) ?_ ?_
          rotate_left
          ·intro w'
           go_simp
           with_reducible rfl
          rotate_left
          ·simp only [Act.put, List.setIfInBounds_toArray, List.set_cons_zero, List.set_cons_succ, i64_w, i32_w]
           rfl
          refine pure_ (i := 10) (N := some 5) (v := ?_) (a' := ?_) #[true, true, true, true, true, true, true, true, true, true, true] rfl rfl (any_of HT_.out (by kernel_rfl)) (fun _ _ _ h => h) (Or.inl ⟨by rfl, ?_⟩) ?_ ?_
          rotate_left
          ·intro w'
           go_simp
           with_reducible rfl
          rotate_left
          ·simp only [Act.put, List.setIfInBounds_toArray, List.set_cons_zero, List.set_cons_succ, i64_w, i32_w]
           rfl
          refine done_ (done_of HT_.out (by kernel_rfl)) ?_
          try go_wp2
          go_ret2
          exact ⟨by first | rfl | (simp [errW_none, errW_some] <;> rfl) | (simp [*, errW_none, errW_some] <;> rfl), by repeat (first | (with_reducible first | exact HB.out | apply below_alloc | apply pw_below_drewN | apply below_drew1) | exact HB.out)⟩
         ·replace c17 := Bool.eq_false_iff.mpr c17
          subst c17
          have H1 : (some (0, 20)) = some (r1, r2) := by rw [if_neg (show ¬ (false = true) by decide)] at H; exact H
          clear H
          have H := H1
          clear H1
          simp only [Option.some.injEq, Prod.mk.injEq] at H
          obtain ⟨rfl, rfl⟩ := H
          try go_wp2
          have n0_ := Aside0.mk (below_drew1 HB.out)
          clear HB
          have HB := n0_
          clear n0_
          have p15 : 0 ≤ (0 : Int) := (by omega)
          have q15 : 0 < a0.size := (by have : (0 : Int) < (a0.size : Int) := of_decide_eq_true (by first | (with_reducible assumption) | assumption); omega)
          have hx15 : ∀ h : 0 < a0.size, ((a0[0]'h).toNat : Int) = bt a0 0 := bt_at a0 0
          clear p15
          have qi15 : (0 < (a0.size : Int)) = True := eq_true (of_decide_eq_true (by first | (with_reducible assumption) | assumption))
          replace q15 := eq_true q15
          refine start_ (n := 11) (S := fun w' => True) (ds := []) #[false, false, false, false, false, false, false, false, false, false, false] (by kernel_rfl) rfl rfl trivial (fun hHeld => ?_); refine with_tabW pannierref02_Parse.tab4 pannierref02_Parse.bits4 (fun HT_ HW_ => ?_)
          generalize wc.drew = w20 at HB hHeld ⊢
          refine pure_ (i := 0) (N := some 27) (v := ?_) (a' := ?_) #[true, false, false, false, false, false, false, false, false, false, false] rfl rfl (any_of HT_.out (by kernel_rfl)) (fun _ _ _ h => h) (Or.inl ⟨by rfl, ?_⟩) ?_ ?_
          rotate_left
          ·intro w'
           go_simp
           with_reducible rfl
          rotate_left
          ·simp only [Act.put, List.setIfInBounds_toArray, List.set_cons_zero, List.set_cons_succ, i64_w, i32_w]
           rfl
          refine pure_ (i := 1) (N := some 28) (v := ?_) (a' := ?_) #[true, true, false, false, false, false, false, false, false, false, false] rfl rfl (any_of HT_.out (by kernel_rfl)) (fun _ _ _ h => h) (Or.inl ⟨by rfl, ?_⟩) ?_ ?_
          rotate_left
          ·intro w'
           go_simp
           with_reducible rfl
          rotate_left
          ·simp only [Act.put, List.setIfInBounds_toArray, List.set_cons_zero, List.set_cons_succ, i64_w, i32_w]
           rfl
          refine pure_ (i := 2) (N := some 29) (v := ?_) (a' := ?_) #[true, true, true, false, false, false, false, false, false, false, false] rfl rfl (any_of HT_.out (by kernel_rfl)) (fun _ _ _ h => h) (Or.inl ⟨by rfl, ?_⟩) ?_ ?_
          rotate_left
          ·intro w'
           go_simp
           with_reducible rfl
          rotate_left
          ·simp only [Act.put, List.setIfInBounds_toArray, List.set_cons_zero, List.set_cons_succ, i64_w, i32_w]
           rfl
          refine take_ (i := 3) (N := some 30) (v := ?_) (a' := ?_) #[true, true, true, true, false, false, false, false, false, false, false] rfl rfl (take_ofW HT_.out HW_.out (by kernel_rfl)) (fun _ _ _ h => h) (Or.inl ⟨by rfl, ?_⟩) hHeld ?_ ?_
          rotate_left
          ·intro w' _
           go_simp
           with_reducible rfl
          rotate_left
          ·simp only [Act.put, List.setIfInBounds_toArray, List.set_cons_zero, List.set_cons_succ, i64_w, i32_w]
           rfl
          refine pure_ (i := 4) (N := some 31) (v := ?_) (a' := ?_) #[true, true, true, true, true, false, false, false, false, false, false] rfl rfl (any_of HT_.out (by kernel_rfl)) (fun _ _ _ h => h) (Or.inl ⟨by rfl, ?_⟩) ?_ ?_
          rotate_left
          ·intro w'
           go_simp
           with_reducible rfl
          rotate_left
          ·simp only [Act.put, List.setIfInBounds_toArray, List.set_cons_zero, List.set_cons_succ, i64_w, i32_w]
           rfl
          refine one_ (i := 5) (N := some 32) #[true, true, true, true, true, true, false, false, false, false, false] rfl rfl (one_of HT_.out (by kernel_rfl)) (by decide) (fun K hK => ?_)
          refine goes_ Try.func38 (by kernel_rfl) rfl #[.string (a0.extract 1 a0.size), .bool ((bt a0 0) == 255)] (by rfl) rfl rfl (by (try simp only [List.map_toArray, List.map_cons, List.map_nil]); first | done | rfl | (simp only [List.length_drop, List.length_take]; rfl)) ?_
          with_reducible refine (pannierref02_big.calls kj6 (a0.extract 1 a0.size) ((bt a0 0) == 255) t208 false _ A16.out).mono ?_
          rintro e w21 ⟨rfl, hb⟩
          refine ⟨_, rfl, ?_⟩
          have n0_ := Aside0.mk (below_step (by repeat (first | (with_reducible first | exact HB.out | apply below_alloc | apply pw_below_drewN | apply below_drew1) | exact HB.out)) hb)
          clear HB
          have HB := n0_
          clear n0_
          (try clear hb)
          (try clear hb2)
          (try clear hk)
          (try clear hi)
          refine hK.out _ _ trivial (fun hHeld => ?_)
          clear hK K
          refine norm_ (a' := ?_) ?_ ?_
          rotate_left
          ·show Act.put _ (some 32) _ = _
           simp only [Act.put, List.setIfInBounds_toArray, List.set_cons_zero, List.set_cons_succ, i64_w, i32_w]
           rfl
          refine pure_ (i := 6) (N := some 26) (v := ?_) (a' := ?_) #[true, true, true, true, true, true, true, false, false, false, false] rfl rfl (any_of HT_.out (by kernel_rfl)) (fun _ _ _ h => h) (Or.inl ⟨by rfl, ?_⟩) ?_ ?_
          rotate_left
          ·intro w'
           go_simp
           with_reducible rfl
          rotate_left
          ·simp only [Act.put, List.setIfInBounds_toArray, List.set_cons_zero, List.set_cons_succ, i64_w, i32_w]
           rfl
          refine pure_ (i := 7) (N := some 33) (v := ?_) (a' := ?_) #[true, true, true, true, true, true, true, true, false, false, false] rfl rfl (any_of HT_.out (by kernel_rfl)) (fun _ _ _ h => h) (Or.inl ⟨by rfl, ?_⟩) ?_ ?_
          rotate_left
          ·intro w'
           go_simp
           with_reducible rfl
          rotate_left
          ·simp only [Act.put, List.setIfInBounds_toArray, List.set_cons_zero, List.set_cons_succ, i64_w, i32_w]
           rfl
          refine pure_ (i := 8) (N := some 34) (v := ?_) (a' := ?_) #[true, true, true, true, true, true, true, true, true, false, false] rfl rfl (any_of HT_.out (by kernel_rfl)) (fun _ _ _ h => h) (Or.inl ⟨by rfl, ?_⟩) ?_ ?_
          rotate_left
          ·intro w'
           go_simp
           with_reducible rfl
          rotate_left
          ·simp only [Act.put, List.setIfInBounds_toArray, List.set_cons_zero, List.set_cons_succ, i64_w, i32_w]
           rfl
          refine pure_ (i := 9) (N := some 4) (v := ?_) (a' := ?_) #[true, true, true, true, true, true, true, true, true, true, false] rfl rfl (any_of HT_.out (by kernel_rfl)) (fun _ _ _ h => h) (Or.inl ⟨by rfl, ?_⟩) ?_ ?_
          rotate_left
          ·intro w'
           go_simp
           with_reducible rfl
          rotate_left
          ·simp only [Act.put, List.setIfInBounds_toArray, List.set_cons_zero, List.set_cons_succ, i64_w, i32_w]
           rfl
          refine pure_ (i := 10) (N := some 5) (v := ?_) (a' := ?_) #[true, true, true, true, true, true, true, true, true, true, true] rfl rfl (any_of HT_.out (by kernel_rfl)) (fun _ _ _ h => h) (Or.inl ⟨by rfl, ?_⟩) ?_ ?_
          rotate_left
          ·intro w'
           go_simp
           with_reducible rfl
          rotate_left
          ·simp only [Act.put, List.setIfInBounds_toArray, List.set_cons_zero, List.set_cons_succ, i64_w, i32_w]
           rfl
          refine done_ (done_of HT_.out (by kernel_rfl)) ?_
          try go_wp2
          go_ret2
          exact ⟨by first | rfl | (simp [errW_none, errW_some] <;> rfl) | (simp [*, errW_none, errW_some] <;> rfl), by repeat (first | (with_reducible first | exact HB.out | apply below_alloc | apply pw_below_drewN | apply below_drew1) | exact HB.out)⟩
        ·rw [if_neg c14] at H
         exact absurd H (by simp)
       ·rw [if_neg c13] at H
        exact absurd H (by simp)
   ·replace c6 := Bool.eq_false_iff.mpr c6
    subst c6
    have H1 : (pannierref02_Parse.l0 kj1 a0 0) = some (r1, r2) := by rw [if_neg (show ¬ (false = true) by decide)] at H; exact H
    clear H
    have H := H1
    clear H1
    have HC22 := Aside0.mk H
    clear H
    go_upto_block 0 with (fail)
    go_cut [6] (fun v6 wc => ∃ (kq : Nat) (x6_21 : Int), v6 = .int .i64 x6_21 ∧ Aside0 (pannierref02_Parse.j3 kq a0 x6_21 = some (r1, r2)) ∧ Aside0 (kq ≤ kj1) ∧ Aside0 (Below w.heap.size w wc))
    case first =>
     have H := HC22.out
     clear HC22
     have H' := Aside0.mk H
     clear H
     go_wp2
     go_loopg [6] kj1 (fun kq v6 w' => ∃ (x6_2 : Int), v6 = .int .i64 x6_2 ∧ Aside0 (pannierref02_Parse.l0 kq a0 x6_2 = some (r1, r2)) ∧ Aside0 (kq ≤ kj1) ∧ Aside0 (Below w.heap.size w w'))
     case atStart => exact ⟨(0), (by first | rfl | (simp; done) | (simp [*]; done)), H', ⟨Nat.le_refl _⟩, ⟨by repeat (first | (with_reducible first | exact HB.out | apply below_alloc | apply pw_below_drewN | apply below_drew1) | exact HB.out)⟩⟩
     case round =>
      clear H'
      try clear c1
      try clear p1
      try clear q1
      try clear hx1
      try clear qi1
      try clear c2
      try clear p2
      try clear c3
      try clear c3b0
      try clear c3b1
      try clear c4
      try clear c4b0
      try clear c4b1
      try clear p5
      try clear q5
      try clear hx5
      try clear qi5
      try clear c6
      try clear c8
      try clear c8b0
      try clear c8b1
      try clear p9
      try clear q9
      try clear hx9
      try clear qi9
      try clear c10
      try clear c10b0
      try clear c10b1
      try clear p11
      try clear q11
      try clear hx11
      try clear qi11
      try clear c12
      try clear c13
      try clear c13b0
      try clear c13b1
      try clear c14
      try clear c14b0
      try clear c14b1
      try clear p15
      try clear q15
      try clear hx15
      try clear qi15
      try clear c17
      try clear p1
      try clear p11
      try clear p15
      try clear p2
      try clear p5
      try clear p9
      try clear q1
      try clear q11
      try clear q15
      try clear q5
      try clear q9
      obtain ⟨x6_2, rfl, HA, HK2, HB⟩ := hrel
      cases gk with
      | zero => exact absurd HA.out (by simp [pannierref02_Parse.l0])
      | succ k2 =>
       have H := HA.out
       clear HA
       simp only [pannierref02_Parse.l0] at H
       by_cases c23 : x6_2 < (a0.size : Int)
       ·rw [if_pos c23] at H
        have c23b0 : decide (x6_2 < (a0.size : Int)) = true := decide_eq_true c23
        clear c23
        (first | rw [c23b0] | (simp only [i64_w, i32_w]; rw [c23b0]) | skip)
        by_cases c24 : 0 ≤ x6_2
        ·rw [if_pos c24] at H
         have c24b0 : decide (0 ≤ x6_2) = true := decide_eq_true c24
         clear c24
         by_cases c26 : (bt a0 x6_2) = 32
         ·rw [if_pos c26] at H
          have c26b0 : ((bt a0 x6_2) == 32) = true := beq_iff_eq.mpr c26
          have c26b1 : ((bt a0 x6_2) != 32) = false := bne_eq_false_iff_eq.mpr c26
          clear c26
          have H' := Aside0.mk H
          clear H
          have p25 : 0 ≤ (x6_2 : Int) := of_decide_eq_true (by first | (with_reducible assumption) | assumption)
          have q25 : x6_2 < (a0.size : Int) := of_decide_eq_true (by first | (with_reducible assumption) | assumption)
          have hx25 := bt_at a0 x6_2
          replace p25 := eq_true p25
          replace q25 := eq_true q25
          go_wp2
          go_roundg k2
          case measure => have := HJ1.out; have := HK2.out; omega
          case rel => exact ⟨(wrap64 (x6_2 + 1)), (by first | rfl | (simp; done) | (simp [*]; done)), H', ⟨by have := HJ1.out; have := HK2.out; omega⟩, ⟨by repeat (first | (with_reducible first | exact HB.out | apply below_alloc | apply pw_below_drewN | apply below_drew1) | exact HB.out)⟩⟩
         ·rw [if_neg c26] at H
          have c26b0 : ((bt a0 x6_2) == 32) = false := beq_eq_false_iff_ne.mpr c26
          have c26b1 : ((bt a0 x6_2) != 32) = true := bne_iff_ne.mpr c26
          have H' := Aside0.mk H
          clear H
          have p25 : 0 ≤ (x6_2 : Int) := of_decide_eq_true (by first | (with_reducible assumption) | assumption)
          have q25 : x6_2 < (a0.size : Int) := of_decide_eq_true (by first | (with_reducible assumption) | assumption)
          have hx25 := bt_at a0 x6_2
          replace p25 := eq_true p25
          replace q25 := eq_true q25
          go_wp2
          go_meet
          case rel => exact ⟨_, (x6_2), (by first | rfl | (simp; done) | (simp [*]; done)), H', ⟨by have := HJ1.out; have := HK2.out; first | omega | exact Nat.le_refl _⟩, ⟨by repeat (first | (with_reducible first | exact HB.out | apply below_alloc | apply pw_below_drewN | apply below_drew1) | exact HB.out)⟩⟩
        ·rw [if_neg c24] at H
         exact absurd H (by simp)
       ·rw [if_neg c23] at H
        have c23b0 : decide (x6_2 < (a0.size : Int)) = false := decide_eq_false c23
        clear c23
        (first | rw [c23b0] | (simp only [i64_w, i32_w]; rw [c23b0]) | skip)
        have H' := Aside0.mk H
        clear H
        go_wp2
        go_meet
        case rel => exact ⟨_, (x6_2), (by first | rfl | (simp; done) | (simp [*]; done)), H', ⟨by have := HJ1.out; have := HK2.out; first | omega | exact Nat.le_refl _⟩, ⟨by repeat (first | (with_reducible first | exact HB.out | apply below_alloc | apply pw_below_drewN | apply below_drew1) | exact HB.out)⟩⟩
    case rest =>
     clear HC22
     try clear c1
     try clear p1
     try clear q1
     try clear hx1
     try clear qi1
     try clear c2
     try clear p2
     try clear q2
     try clear hx2
     try clear c3
     try clear c3b0
     try clear c3b1
     try clear c4
     try clear c4b0
     try clear c4b1
     try clear p5
     try clear q5
     try clear hx5
     try clear qi5
     try clear c6
     try clear p6
     try clear c8
     try clear c8b0
     try clear c8b1
     try clear p9
     try clear q9
     try clear hx9
     try clear qi9
     try clear c10
     try clear c10b0
     try clear c10b1
     try clear p11
     try clear q11
     try clear hx11
     try clear qi11
     try clear c12
     try clear c13
     try clear c13b0
     try clear c13b1
     try clear c14
     try clear c14b0
     try clear c14b1
     try clear p15
     try clear q15
     try clear hx15
     try clear qi15
     try clear c17
     try clear c23
     try clear c23b0
     try clear c24
     try clear c24b0
     try clear p25
     try clear q25
     try clear hx25
     try clear c26
     try clear c26b0
     try clear c26b1
     try clear p1
     try clear p11
     try clear p15
     try clear p2
     try clear p25
     try clear p5
     try clear p9
     try clear q1
     try clear q11
     try clear q15
     try clear q25
     try clear q5
     try clear q9
     obtain ⟨kq, x6_21, rfl, HA, HJ21, HB⟩ := hcut
     cases kq with
     | zero => exact absurd HA.out (by simp [pannierref02_Parse.j3])
     | succ kj21 =>
      have H := HA.out
      clear HA
      simp only [pannierref02_Parse.j3] at H
      have HC27 := Aside0.mk H
      clear H
      go_upto_block 2 with (fail)
      go_cut [7] (fun v7 wc => ∃ (kq : Nat) (x7_26 : Int), v7 = .int .i64 x7_26 ∧ Aside0 (pannierref02_Parse.j5 kq a0 x6_21 x7_26 = some (r1, r2)) ∧ Aside0 (kq ≤ kj21) ∧ Aside0 (Below w.heap.size w wc))
      case first =>
       have H := HC27.out
       clear HC27
       have H' := Aside0.mk H
       clear H
       go_wp2
       go_loopg [7] kj21 (fun kq v7 w' => ∃ (x7_3 : Int), v7 = .int .i64 x7_3 ∧ Aside0 (pannierref02_Parse.l1 kq a0 x6_21 x7_3 = some (r1, r2)) ∧ Aside0 (kq ≤ kj21) ∧ Aside0 (Below w.heap.size w w'))
       case atStart => exact ⟨(x6_21), (by first | rfl | (simp; done) | (simp [*]; done)), H', ⟨Nat.le_refl _⟩, ⟨by repeat (first | (with_reducible first | exact HB.out | apply below_alloc | apply pw_below_drewN | apply below_drew1) | exact HB.out)⟩⟩
       case round =>
        clear H'
        try clear c1
        try clear p1
        try clear q1
        try clear hx1
        try clear qi1
        try clear c2
        try clear p2
        try clear q2
        try clear hx2
        try clear c3
        try clear c3b0
        try clear c3b1
        try clear c4
        try clear c4b0
        try clear c4b1
        try clear p5
        try clear q5
        try clear hx5
        try clear qi5
        try clear c6
        try clear p6
        try clear c8
        try clear c8b0
        try clear c8b1
        try clear p9
        try clear q9
        try clear hx9
        try clear qi9
        try clear c10
        try clear c10b0
        try clear c10b1
        try clear p11
        try clear q11
        try clear hx11
        try clear qi11
        try clear c12
        try clear c13
        try clear c13b0
        try clear c13b1
        try clear c14
        try clear c14b0
        try clear c14b1
        try clear p15
        try clear q15
        try clear hx15
        try clear qi15
        try clear c17
        try clear c23
        try clear c23b0
        try clear c24
        try clear c24b0
        try clear p25
        try clear q25
        try clear hx25
        try clear c26
        try clear c26b0
        try clear c26b1
        try clear p1
        try clear p11
        try clear p15
        try clear p2
        try clear p25
        try clear p5
        try clear p6
        try clear p9
        try clear q1
        try clear q11
        try clear q15
        try clear q2
        try clear q25
        try clear q5
        try clear q9
        obtain ⟨x7_3, rfl, HA, HK3, HB⟩ := hrel
        cases gk with
        | zero => exact absurd HA.out (by simp [pannierref02_Parse.l1])
        | succ k3 =>
         have H := HA.out
         clear HA
         simp only [pannierref02_Parse.l1] at H
         by_cases c28 : x7_3 < (a0.size : Int)
         ·rw [if_pos c28] at H
          have c28b0 : decide (x7_3 < (a0.size : Int)) = true := decide_eq_true c28
          clear c28
          (first | rw [c28b0] | (simp only [i64_w, i32_w]; rw [c28b0]) | skip)
          by_cases c29 : 0 ≤ x7_3
          ·rw [if_pos c29] at H
           have c29b0 : decide (0 ≤ x7_3) = true := decide_eq_true c29
           clear c29
           by_cases c31 : (bt a0 x7_3) ≥ 48
           ·rw [if_pos c31] at H
            have c31b0 : decide (48 ≤ (bt a0 x7_3)) = true := decide_eq_true c31
            clear c31
            by_cases c33 : (bt a0 x7_3) ≤ 55
            ·rw [if_pos c33] at H
             have c33b0 : decide ((bt a0 x7_3) ≤ 55) = true := decide_eq_true c33
             clear c33
             have H' := Aside0.mk H
             clear H
             have p30 : 0 ≤ (x7_3 : Int) := of_decide_eq_true (by first | (with_reducible assumption) | assumption)
             have q30 : x7_3 < (a0.size : Int) := of_decide_eq_true (by first | (with_reducible assumption) | assumption)
             have hx30 := bt_at a0 x7_3
             replace p30 := eq_true p30
             replace q30 := eq_true q30
             have p32 : 0 ≤ (x7_3 : Int) := of_decide_eq_true (by first | (with_reducible assumption) | assumption)
             have q32 : x7_3 < (a0.size : Int) := of_decide_eq_true (by first | (with_reducible assumption) | assumption)
             have hx32 := bt_at a0 x7_3
             replace p32 := eq_true p32
             replace q32 := eq_true q32
             go_wp2
             go_roundg k3
             case measure => have := HJ1.out; have := HJ21.out; have := HK3.out; omega
             case rel => exact ⟨(wrap64 (x7_3 + 1)), (by first | rfl | (simp; done) | (simp [*]; done)), H', ⟨by have := HJ1.out; have := HJ21.out; have := HK3.out; omega⟩, ⟨by repeat (first | (with_reducible first | exact HB.out | apply below_alloc | apply pw_below_drewN | apply below_drew1) | exact HB.out)⟩⟩
            ·rw [if_neg c33] at H
             have c33b0 : decide ((bt a0 x7_3) ≤ 55) = false := decide_eq_false c33
             clear c33
             have H' := Aside0.mk H
             clear H
             have p30 : 0 ≤ (x7_3 : Int) := of_decide_eq_true (by first | (with_reducible assumption) | assumption)
             have q30 : x7_3 < (a0.size : Int) := of_decide_eq_true (by first | (with_reducible assumption) | assumption)
             have hx30 := bt_at a0 x7_3
             replace p30 := eq_true p30
             replace q30 := eq_true q30
             have p32 : 0 ≤ (x7_3 : Int) := of_decide_eq_true (by first | (with_reducible assumption) | assumption)
             have q32 : x7_3 < (a0.size : Int) := of_decide_eq_true (by first | (with_reducible assumption) | assumption)
             have hx32 := bt_at a0 x7_3
             replace p32 := eq_true p32
             replace q32 := eq_true q32
             go_wp2
             go_meet
             case rel => exact ⟨_, (x7_3), (by first | rfl | (simp; done) | (simp [*]; done)), H', ⟨by have := HJ1.out; have := HJ21.out; have := HK3.out; first | omega | exact Nat.le_refl _⟩, ⟨by repeat (first | (with_reducible first | exact HB.out | apply below_alloc | apply pw_below_drewN | apply below_drew1) | exact HB.out)⟩⟩
           ·rw [if_neg c31] at H
            have c31b0 : decide (48 ≤ (bt a0 x7_3)) = false := decide_eq_false c31
            clear c31
            have H' := Aside0.mk H
            clear H
            have p30 : 0 ≤ (x7_3 : Int) := of_decide_eq_true (by first | (with_reducible assumption) | assumption)
            have q30 : x7_3 < (a0.size : Int) := of_decide_eq_true (by first | (with_reducible assumption) | assumption)
            have hx30 := bt_at a0 x7_3
            replace p30 := eq_true p30
            replace q30 := eq_true q30
            go_wp2
            go_meet
            case rel => exact ⟨_, (x7_3), (by first | rfl | (simp; done) | (simp [*]; done)), H', ⟨by have := HJ1.out; have := HJ21.out; have := HK3.out; first | omega | exact Nat.le_refl _⟩, ⟨by repeat (first | (with_reducible first | exact HB.out | apply below_alloc | apply pw_below_drewN | apply below_drew1) | exact HB.out)⟩⟩
          ·rw [if_neg c29] at H
           exact absurd H (by simp)
         ·rw [if_neg c28] at H
          have c28b0 : decide (x7_3 < (a0.size : Int)) = false := decide_eq_false c28
          clear c28
          (first | rw [c28b0] | (simp only [i64_w, i32_w]; rw [c28b0]) | skip)
          have H' := Aside0.mk H
          clear H
          go_wp2
          go_meet
          case rel => exact ⟨_, (x7_3), (by first | rfl | (simp; done) | (simp [*]; done)), H', ⟨by have := HJ1.out; have := HJ21.out; have := HK3.out; first | omega | exact Nat.le_refl _⟩, ⟨by repeat (first | (with_reducible first | exact HB.out | apply below_alloc | apply pw_below_drewN | apply below_drew1) | exact HB.out)⟩⟩
      case rest =>
       clear HC27
       try clear c1
       try clear p1
       try clear q1
       try clear hx1
       try clear qi1
       try clear c2
       try clear p2
       try clear q2
       try clear hx2
       try clear c3
       try clear c3b0
       try clear c3b1
       try clear p3
       try clear q3
       try clear hx3
       try clear c4
       try clear c4b0
       try clear c4b1
       try clear p5
       try clear q5
       try clear hx5
       try clear qi5
       try clear c6
       try clear p6
       try clear c8
       try clear c8b0
       try clear c8b1
       try clear p9
       try clear q9
       try clear hx9
       try clear qi9
       try clear c10
       try clear c10b0
       try clear c10b1
       try clear p11
       try clear q11
       try clear hx11
       try clear qi11
       try clear c12
       try clear c13
       try clear c13b0
       try clear c13b1
       try clear c14
       try clear c14b0
       try clear c14b1
       try clear p15
       try clear q15
       try clear hx15
       try clear qi15
       try clear c17
       try clear c23
       try clear c23b0
       try clear c24
       try clear c24b0
       try clear p25
       try clear q25
       try clear hx25
       try clear c26
       try clear c26b0
       try clear c26b1
       try clear c28
       try clear c28b0
       try clear c29
       try clear c29b0
       try clear p30
       try clear q30
       try clear hx30
       try clear c31
       try clear c31b0
       try clear p32
       try clear q32
       try clear hx32
       try clear c33
       try clear c33b0
       try clear p1
       try clear p11
       try clear p15
       try clear p2
       try clear p25
       try clear p30
       try clear p32
       try clear p5
       try clear p6
       try clear p9
       try clear q1
       try clear q11
       try clear q15
       try clear q2
       try clear q25
       try clear q30
       try clear q32
       try clear q5
       try clear q9
       obtain ⟨kq, x7_26, rfl, HA, HJ26, HB⟩ := hcut
       cases kq with
       | zero => exact absurd HA.out (by simp [pannierref02_Parse.j5])
       | succ kj26 =>
        have H := HA.out
        clear HA
        simp only [pannierref02_Parse.j5] at H
        have H' := Aside0.mk H
        clear H
        go_wp2
        go_loopg [8] kj26 (fun kq v8 w' => ∃ (x8_4 : Int), v8 = .int .i64 x8_4 ∧ Aside0 (pannierref02_Parse.l2 kq a0 x6_21 x7_26 x8_4 = some (r1, r2)) ∧ Aside0 (kq ≤ kj26) ∧ Aside0 (Below w.heap.size w w'))
        case atStart => exact ⟨(x7_26), (by first | rfl | (simp; done) | (simp [*]; done)), H', ⟨Nat.le_refl _⟩, ⟨by repeat (first | (with_reducible first | exact HB.out | apply below_alloc | apply pw_below_drewN | apply below_drew1) | exact HB.out)⟩⟩
        case round =>
         clear H'
         try clear c1
         try clear p1
         try clear q1
         try clear hx1
         try clear qi1
         try clear c2
         try clear p2
         try clear q2
         try clear hx2
         try clear c3
         try clear c3b0
         try clear c3b1
         try clear p3
         try clear q3
         try clear hx3
         try clear c4
         try clear c4b0
         try clear c4b1
         try clear p5
         try clear q5
         try clear hx5
         try clear qi5
         try clear c6
         try clear p6
         try clear c8
         try clear c8b0
         try clear c8b1
         try clear p9
         try clear q9
         try clear hx9
         try clear qi9
         try clear c10
         try clear c10b0
         try clear c10b1
         try clear p11
         try clear q11
         try clear hx11
         try clear qi11
         try clear c12
         try clear c13
         try clear c13b0
         try clear c13b1
         try clear c14
         try clear c14b0
         try clear c14b1
         try clear p15
         try clear q15
         try clear hx15
         try clear qi15
         try clear c17
         try clear c23
         try clear c23b0
         try clear c24
         try clear c24b0
         try clear p25
         try clear q25
         try clear hx25
         try clear c26
         try clear c26b0
         try clear c26b1
         try clear c28
         try clear c28b0
         try clear c29
         try clear c29b0
         try clear p30
         try clear q30
         try clear hx30
         try clear c31
         try clear c31b0
         try clear p32
         try clear q32
         try clear hx32
         try clear c33
         try clear c33b0
         try clear p1
         try clear p11
         try clear p15
         try clear p2
         try clear p25
         try clear p3
         try clear p30
         try clear p32
         try clear p5
         try clear p6
         try clear p9
         try clear q1
         try clear q11
         try clear q15
         try clear q2
         try clear q25
         try clear q3
         try clear q30
         try clear q32
         try clear q5
         try clear q9
         obtain ⟨x8_4, rfl, HA, HK4, HB⟩ := hrel
         cases gk with
         | zero => exact absurd HA.out (by simp [pannierref02_Parse.l2])
         | succ k4 =>
          have H := HA.out
          clear HA
          simp only [pannierref02_Parse.l2] at H
          by_cases c34 : x8_4 < (a0.size : Int)
          ·rw [if_pos c34] at H
           have c34b0 : decide (x8_4 < (a0.size : Int)) = true := decide_eq_true c34
           clear c34
           by_cases c35 : 0 ≤ x8_4
           ·rw [if_pos c35] at H
            have c35b0 : decide (0 ≤ x8_4) = true := decide_eq_true c35
            clear c35
            by_cases c37 : (bt a0 x8_4) = 0
            ·rw [if_pos c37] at H
             have c37b0 : ((bt a0 x8_4) == 0) = true := beq_iff_eq.mpr c37
             have c37b1 : ((bt a0 x8_4) != 0) = false := bne_eq_false_iff_eq.mpr c37
             clear c37
             have H' := Aside0.mk H
             clear H
             have p36 : 0 ≤ (x8_4 : Int) := of_decide_eq_true (by first | (with_reducible assumption) | assumption)
             have q36 : x8_4 < (a0.size : Int) := of_decide_eq_true (by first | (with_reducible assumption) | assumption)
             have hx36 := bt_at a0 x8_4
             replace p36 := eq_true p36
             replace q36 := eq_true q36
             go_wp2
             go_roundg k4
             case measure => have := HJ1.out; have := HJ21.out; have := HJ26.out; have := HK4.out; omega
             case rel => exact ⟨(wrap64 (x8_4 + 1)), (by first | rfl | (simp; done) | (simp [*]; done)), H', ⟨by have := HJ1.out; have := HJ21.out; have := HJ26.out; have := HK4.out; omega⟩, ⟨by repeat (first | (with_reducible first | exact HB.out | apply below_alloc | apply pw_below_drewN | apply below_drew1) | exact HB.out)⟩⟩
            ·rw [if_neg c37] at H
             have c37b0 : ((bt a0 x8_4) == 0) = false := beq_eq_false_iff_ne.mpr c37
             have c37b1 : ((bt a0 x8_4) != 0) = true := bne_iff_ne.mpr c37
             by_cases c39 : (bt a0 x8_4) = 32
             ·rw [if_pos c39] at H
              have c39b0 : ((bt a0 x8_4) == 32) = true := beq_iff_eq.mpr c39
              have c39b1 : ((bt a0 x8_4) != 32) = false := bne_eq_false_iff_eq.mpr c39
              clear c39
              have H' := Aside0.mk H
              clear H
              have p36 : 0 ≤ (x8_4 : Int) := of_decide_eq_true (by first | (with_reducible assumption) | assumption)
              have q36 : x8_4 < (a0.size : Int) := of_decide_eq_true (by first | (with_reducible assumption) | assumption)
              have hx36 := bt_at a0 x8_4
              replace p36 := eq_true p36
              replace q36 := eq_true q36
              have p38 : 0 ≤ (x8_4 : Int) := of_decide_eq_true (by first | (with_reducible assumption) | assumption)
              have q38 : x8_4 < (a0.size : Int) := of_decide_eq_true (by first | (with_reducible assumption) | assumption)
              have hx38 := bt_at a0 x8_4
              replace p38 := eq_true p38
              replace q38 := eq_true q38
              go_wp2
              go_roundg k4
              case measure => have := HJ1.out; have := HJ21.out; have := HJ26.out; have := HK4.out; omega
              case rel => exact ⟨(wrap64 (x8_4 + 1)), (by first | rfl | (simp; done) | (simp [*]; done)), H', ⟨by have := HJ1.out; have := HJ21.out; have := HJ26.out; have := HK4.out; omega⟩, ⟨by repeat (first | (with_reducible first | exact HB.out | apply below_alloc | apply pw_below_drewN | apply below_drew1) | exact HB.out)⟩⟩
             ·rw [if_neg c39] at H
              have c39b0 : ((bt a0 x8_4) == 32) = false := beq_eq_false_iff_ne.mpr c39
              have c39b1 : ((bt a0 x8_4) != 32) = true := bne_iff_ne.mpr c39
              simp only [Option.some.injEq, Prod.mk.injEq] at H
              obtain ⟨rfl, rfl⟩ := H
              have p36 : 0 ≤ (x8_4 : Int) := of_decide_eq_true (by first | (with_reducible assumption) | assumption)
              have q36 : x8_4 < (a0.size : Int) := of_decide_eq_true (by first | (with_reducible assumption) | assumption)
              have hx36 := bt_at a0 x8_4
              replace p36 := eq_true p36
              replace q36 := eq_true q36
              have p38 : 0 ≤ (x8_4 : Int) := of_decide_eq_true (by first | (with_reducible assumption) | assumption)
              have q38 : x8_4 < (a0.size : Int) := of_decide_eq_true (by first | (with_reducible assumption) | assumption)
              have hx38 := bt_at a0 x8_4
              replace p38 := eq_true p38
              replace q38 := eq_true q38
              go_wp2
              go_ret2
              exact ⟨by first | rfl | (simp [errW_none, errW_some] <;> rfl) | (simp [*, errW_none, errW_some] <;> rfl), by repeat (first | (with_reducible first | exact HB.out | apply below_alloc | apply pw_below_drewN | apply below_drew1) | exact HB.out)⟩
           ·rw [if_neg c35] at H
            exact absurd H (by simp)
          ·rw [if_neg c34] at H
           have c34b0 : decide (x8_4 < (a0.size : Int)) = false := decide_eq_false c34
           clear c34
           have HC40 := Aside0.mk H
           clear H
           go_upto_block 6 with (fail)
           go_cut [6] (fun v6 wc => ∃ (kq : Nat) (x6_39 : Int), v6 = .int .i64 x6_39 ∧ Aside0 (pannierref02_Parse.j8 kq a0 x6_39 x7_26 = some (r1, r2)) ∧ Aside0 (kq ≤ k4) ∧ Aside0 (Below w.heap.size w wc))
           case first =>
            have H := HC40.out
            clear HC40
            have H' := Aside0.mk H
            clear H
            go_wp2
            go_loopg [6] k4 (fun kq v6 w' => ∃ (x6_5 : Int), v6 = .int .i64 x6_5 ∧ Aside0 (pannierref02_Parse.l3 kq a0 x6_5 x7_26 = some (r1, r2)) ∧ Aside0 (kq ≤ k4) ∧ Aside0 (Below w.heap.size w w'))
            case atStart => exact ⟨(x6_21), (by first | rfl | (simp; done) | (simp [*]; done)), H', ⟨Nat.le_refl _⟩, ⟨by repeat (first | (with_reducible first | exact HB.out | apply below_alloc | apply pw_below_drewN | apply below_drew1) | exact HB.out)⟩⟩
            case round =>
             clear H'
             try clear c1
             try clear p1
             try clear q1
             try clear hx1
             try clear qi1
             try clear c2
             try clear p2
             try clear q2
             try clear hx2
             try clear c3
             try clear c3b0
             try clear c3b1
             try clear p3
             try clear q3
             try clear hx3
             try clear c4
             try clear c4b0
             try clear c4b1
             try clear p5
             try clear q5
             try clear hx5
             try clear qi5
             try clear c6
             try clear p6
             try clear c8
             try clear c8b0
             try clear c8b1
             try clear p9
             try clear q9
             try clear hx9
             try clear qi9
             try clear c10
             try clear c10b0
             try clear c10b1
             try clear p11
             try clear q11
             try clear hx11
             try clear qi11
             try clear c12
             try clear c13
             try clear c13b0
             try clear c13b1
             try clear c14
             try clear c14b0
             try clear c14b1
             try clear p15
             try clear q15
             try clear hx15
             try clear qi15
             try clear c17
             try clear c23
             try clear c23b0
             try clear c24
             try clear c24b0
             try clear p25
             try clear q25
             try clear hx25
             try clear c26
             try clear c26b0
             try clear c26b1
             try clear c28
             try clear c28b0
             try clear c29
             try clear c29b0
             try clear p30
             try clear q30
             try clear hx30
             try clear c31
             try clear c31b0
             try clear p32
             try clear q32
             try clear hx32
             try clear c33
             try clear c33b0
             try clear c34
             try clear c34b0
             try clear c35
             try clear c35b0
             try clear p36
             try clear q36
             try clear hx36
             try clear c37
             try clear c37b0
             try clear c37b1
             try clear p38
             try clear q38
             try clear hx38
             try clear c39
             try clear c39b0
             try clear c39b1
             try clear p1
             try clear p11
             try clear p15
             try clear p2
             try clear p25
             try clear p3
             try clear p30
             try clear p32
             try clear p36
             try clear p38
             try clear p5
             try clear p6
             try clear p9
             try clear q1
             try clear q11
             try clear q15
             try clear q2
             try clear q25
             try clear q3
             try clear q30
             try clear q32
             try clear q36
             try clear q38
             try clear q5
             try clear q9
             obtain ⟨x6_5, rfl, HA, HK5, HB⟩ := hrel
             cases gk with
             | zero => exact absurd HA.out (by simp [pannierref02_Parse.l3])
             | succ k5 =>
              have H := HA.out
              clear HA
              simp only [pannierref02_Parse.l3] at H
              by_cases c41 : x6_5 < x7_26
              ·rw [if_pos c41] at H
               have c41b0 : decide (x6_5 < x7_26) = true := decide_eq_true c41
               clear c41
               (first | rw [c41b0] | (simp only [i64_w, i32_w]; rw [c41b0]) | skip)
               by_cases c42 : 0 ≤ x6_5
               ·rw [if_pos c42] at H
                have c42b0 : decide (0 ≤ x6_5) = true := decide_eq_true c42
                clear c42
                by_cases c43 : x6_5 < (a0.size : Int)
                ·rw [if_pos c43] at H
                 have c43b0 : decide (x6_5 < (a0.size : Int)) = true := decide_eq_true c43
                 clear c43
                 by_cases c45 : (bt a0 x6_5) = 48
                 ·rw [if_pos c45] at H
                  have c45b0 : ((bt a0 x6_5) == 48) = true := beq_iff_eq.mpr c45
                  have c45b1 : ((bt a0 x6_5) != 48) = false := bne_eq_false_iff_eq.mpr c45
                  clear c45
                  have H' := Aside0.mk H
                  clear H
                  have p44 : 0 ≤ (x6_5 : Int) := of_decide_eq_true (by first | (with_reducible assumption) | assumption)
                  have q44 : x6_5 < (a0.size : Int) := of_decide_eq_true (by first | (with_reducible assumption) | assumption)
                  have hx44 := bt_at a0 x6_5
                  replace p44 := eq_true p44
                  replace q44 := eq_true q44
                  go_wp2
                  go_roundg k5
                  case measure => have := HJ1.out; have := HJ21.out; have := HJ26.out; have := HK4.out; have := HK5.out; omega
                  case rel => exact ⟨(wrap64 (x6_5 + 1)), (by first | rfl | (simp; done) | (simp [*]; done)), H', ⟨by have := HJ1.out; have := HJ21.out; have := HJ26.out; have := HK4.out; have := HK5.out; omega⟩, ⟨by repeat (first | (with_reducible first | exact HB.out | apply below_alloc | apply pw_below_drewN | apply below_drew1) | exact HB.out)⟩⟩
                 ·rw [if_neg c45] at H
                  have c45b0 : ((bt a0 x6_5) == 48) = false := beq_eq_false_iff_ne.mpr c45
                  have c45b1 : ((bt a0 x6_5) != 48) = true := bne_iff_ne.mpr c45
                  have H' := Aside0.mk H
                  clear H
                  have p44 : 0 ≤ (x6_5 : Int) := of_decide_eq_true (by first | (with_reducible assumption) | assumption)
                  have q44 : x6_5 < (a0.size : Int) := of_decide_eq_true (by first | (with_reducible assumption) | assumption)
                  have hx44 := bt_at a0 x6_5
                  replace p44 := eq_true p44
                  replace q44 := eq_true q44
                  go_wp2
                  go_meet
                  case rel => exact ⟨_, (x6_5), (by first | rfl | (simp; done) | (simp [*]; done)), H', ⟨by have := HJ1.out; have := HJ21.out; have := HJ26.out; have := HK4.out; have := HK5.out; first | omega | exact Nat.le_refl _⟩, ⟨by repeat (first | (with_reducible first | exact HB.out | apply below_alloc | apply pw_below_drewN | apply below_drew1) | exact HB.out)⟩⟩
                ·rw [if_neg c43] at H
                 exact absurd H (by simp)
               ·rw [if_neg c42] at H
                exact absurd H (by simp)
              ·rw [if_neg c41] at H
               have c41b0 : decide (x6_5 < x7_26) = false := decide_eq_false c41
               clear c41
               (first | rw [c41b0] | (simp only [i64_w, i32_w]; rw [c41b0]) | skip)
               have H' := Aside0.mk H
               clear H
               go_wp2
               go_meet
               case rel => exact ⟨_, (x6_5), (by first | rfl | (simp; done) | (simp [*]; done)), H', ⟨by have := HJ1.out; have := HJ21.out; have := HJ26.out; have := HK4.out; have := HK5.out; first | omega | exact Nat.le_refl _⟩, ⟨by repeat (first | (with_reducible first | exact HB.out | apply below_alloc | apply pw_below_drewN | apply below_drew1) | exact HB.out)⟩⟩
           case rest =>
            clear HC40
            try clear c1
            try clear p1
            try clear q1
            try clear hx1
            try clear qi1
            try clear c2
            try clear p2
            try clear q2
            try clear hx2
            try clear c3
            try clear c3b0
            try clear c3b1
            try clear p3
            try clear q3
            try clear hx3
            try clear c4
            try clear c4b0
            try clear c4b1
            try clear p4
            try clear q4
            try clear hx4
            try clear p5
            try clear q5
            try clear hx5
            try clear qi5
            try clear c6
            try clear p6
            try clear c8
            try clear c8b0
            try clear c8b1
            try clear p9
            try clear q9
            try clear hx9
            try clear qi9
            try clear c10
            try clear c10b0
            try clear c10b1
            try clear p11
            try clear q11
            try clear hx11
            try clear qi11
            try clear c12
            try clear c13
            try clear c13b0
            try clear c13b1
            try clear c14
            try clear c14b0
            try clear c14b1
            try clear p15
            try clear q15
            try clear hx15
            try clear qi15
            try clear c17
            try clear c23
            try clear c23b0
            try clear c24
            try clear c24b0
            try clear p25
            try clear q25
            try clear hx25
            try clear c26
            try clear c26b0
            try clear c26b1
            try clear c28
            try clear c28b0
            try clear c29
            try clear c29b0
            try clear p30
            try clear q30
            try clear hx30
            try clear c31
            try clear c31b0
            try clear p32
            try clear q32
            try clear hx32
            try clear c33
            try clear c33b0
            try clear c34
            try clear c34b0
            try clear c35
            try clear c35b0
            try clear p36
            try clear q36
            try clear hx36
            try clear c37
            try clear c37b0
            try clear c37b1
            try clear p38
            try clear q38
            try clear hx38
            try clear c39
            try clear c39b0
            try clear c39b1
            try clear c41
            try clear c41b0
            try clear c42
            try clear c42b0
            try clear c43
            try clear c43b0
            try clear p44
            try clear q44
            try clear hx44
            try clear c45
            try clear c45b0
            try clear c45b1
            try clear p1
            try clear p11
            try clear p15
            try clear p2
            try clear p25
            try clear p3
            try clear p30
            try clear p32
            try clear p36
            try clear p38
            try clear p44
            try clear p5
            try clear p6
            try clear p9
            try clear q1
            try clear q11
            try clear q15
            try clear q2
            try clear q25
            try clear q3
            try clear q30
            try clear q32
            try clear q36
            try clear q38
            try clear q44
            try clear q5
            try clear q9
            obtain ⟨kq, x6_39, rfl, HA, HJ39, HB⟩ := hcut
            cases kq with
            | zero => exact absurd HA.out (by simp [pannierref02_Parse.j8])
            | succ kj39 =>
             have H := HA.out
             clear HA
             simp only [pannierref02_Parse.j8] at H
             by_cases c46 : (wrap64 (x7_26 - x6_39)) > 21
             ·rw [if_pos c46] at H
              have c46b0 : decide (21 < (wrap64 (x7_26 - x6_39))) = true := decide_eq_true c46
              clear c46
              simp only [Option.some.injEq, Prod.mk.injEq] at H
              obtain ⟨rfl, rfl⟩ := H
              go_wp2
              go_ret2
              exact ⟨by first | rfl | (simp [errW_none, errW_some] <;> rfl) | (simp [*, errW_none, errW_some] <;> rfl), by repeat (first | (with_reducible first | exact HB.out | apply below_alloc | apply pw_below_drewN | apply below_drew1) | exact HB.out)⟩
             ·rw [if_neg c46] at H
              have c46b0 : decide (21 < (wrap64 (x7_26 - x6_39))) = false := decide_eq_false c46
              clear c46
              have H' := Aside0.mk H
              clear H
              go_wp2
              go_loopg [9, 10] kj39 (fun kq v9 v10 w' => ∃ (x9_6 : Int) (x10_6 : Int), v9 = .int .i64 x9_6 ∧ v10 = .int .i64 x10_6 ∧ Aside0 (pannierref02_Parse.l4 kq a0 x7_26 x9_6 x10_6 = some (r1, r2)) ∧ Aside0 (kq ≤ kj39) ∧ Aside0 (Below w.heap.size w w'))
              case atStart => exact ⟨(0), (x6_39), (by first | rfl | (simp; done) | (simp [*]; done)), (by first | rfl | (simp; done) | (simp [*]; done)), H', ⟨Nat.le_refl _⟩, ⟨by repeat (first | (with_reducible first | exact HB.out | apply below_alloc | apply pw_below_drewN | apply below_drew1) | exact HB.out)⟩⟩
              case round =>
               clear H'
               try clear c1
               try clear p1
               try clear q1
               try clear hx1
               try clear qi1
               try clear c2
               try clear p2
               try clear q2
               try clear hx2
               try clear c3
               try clear c3b0
               try clear c3b1
               try clear p3
               try clear q3
               try clear hx3
               try clear c4
               try clear c4b0
               try clear c4b1
               try clear p4
               try clear q4
               try clear hx4
               try clear p5
               try clear q5
               try clear hx5
               try clear qi5
               try clear c6
               try clear p6
               try clear c8
               try clear c8b0
               try clear c8b1
               try clear p9
               try clear q9
               try clear hx9
               try clear qi9
               try clear c10
               try clear c10b0
               try clear c10b1
               try clear p11
               try clear q11
               try clear hx11
               try clear qi11
               try clear c12
               try clear c13
               try clear c13b0
               try clear c13b1
               try clear c14
               try clear c14b0
               try clear c14b1
               try clear p15
               try clear q15
               try clear hx15
               try clear qi15
               try clear c17
               try clear c23
               try clear c23b0
               try clear c24
               try clear c24b0
               try clear p25
               try clear q25
               try clear hx25
               try clear c26
               try clear c26b0
               try clear c26b1
               try clear c28
               try clear c28b0
               try clear c29
               try clear c29b0
               try clear p30
               try clear q30
               try clear hx30
               try clear c31
               try clear c31b0
               try clear p32
               try clear q32
               try clear hx32
               try clear c33
               try clear c33b0
               try clear c34
               try clear c34b0
               try clear c35
               try clear c35b0
               try clear p36
               try clear q36
               try clear hx36
               try clear c37
               try clear c37b0
               try clear c37b1
               try clear p38
               try clear q38
               try clear hx38
               try clear c39
               try clear c39b0
               try clear c39b1
               try clear c41
               try clear c41b0
               try clear c42
               try clear c42b0
               try clear c43
               try clear c43b0
               try clear p44
               try clear q44
               try clear hx44
               try clear c45
               try clear c45b0
               try clear c45b1
               try clear c46
               try clear c46b0
               try clear p1
               try clear p11
               try clear p15
               try clear p2
               try clear p25
               try clear p3
               try clear p30
               try clear p32
               try clear p36
               try clear p38
               try clear p4
               try clear p44
               try clear p5
               try clear p6
               try clear p9
               try clear q1
               try clear q11
               try clear q15
               try clear q2
               try clear q25
               try clear q3
               try clear q30
               try clear q32
               try clear q36
               try clear q38
               try clear q4
               try clear q44
               try clear q5
               try clear q9
               obtain ⟨x9_6, x10_6, rfl, rfl, HA, HK6, HB⟩ := hrel
               cases gk with
               | zero => exact absurd HA.out (by simp [pannierref02_Parse.l4])
               | succ k6 =>
                have H := HA.out
                clear HA
                simp only [pannierref02_Parse.l4] at H
                by_cases c47 : x10_6 < x7_26
                ·rw [if_pos c47] at H
                 have c47b0 : decide (x10_6 < x7_26) = true := decide_eq_true c47
                 clear c47
                 by_cases c48 : 0 ≤ x10_6
                 ·rw [if_pos c48] at H
                  have c48b0 : decide (0 ≤ x10_6) = true := decide_eq_true c48
                  clear c48
                  by_cases c49 : x10_6 < (a0.size : Int)
                  ·rw [if_pos c49] at H
                   have c49b0 : decide (x10_6 < (a0.size : Int)) = true := decide_eq_true c49
                   clear c49
                   have H' := Aside0.mk H
                   clear H
                   have p50 : 0 ≤ (x10_6 : Int) := of_decide_eq_true (by first | (with_reducible assumption) | assumption)
                   have q50 : x10_6 < (a0.size : Int) := of_decide_eq_true (by first | (with_reducible assumption) | assumption)
                   have hx50 := bt_at a0 x10_6
                   replace p50 := eq_true p50
                   replace q50 := eq_true q50
                   go_wp2
                   go_roundg k6
                   case measure => have := HJ1.out; have := HJ21.out; have := HJ26.out; have := HK4.out; have := HJ39.out; have := HK6.out; omega
                   case rel => exact ⟨(wrap64 ((wrap64 (8 * x9_6)) + (((bt a0 x10_6) - 48) % 256))), (wrap64 (x10_6 + 1)), (by first | rfl | (simp; done) | (simp [*]; done)), (by first | rfl | (simp; done) | (simp [*]; done)), H', ⟨by have := HJ1.out; have := HJ21.out; have := HJ26.out; have := HK4.out; have := HJ39.out; have := HK6.out; omega⟩, ⟨by repeat (first | (with_reducible first | exact HB.out | apply below_alloc | apply pw_below_drewN | apply below_drew1) | exact HB.out)⟩⟩
                  ·rw [if_neg c49] at H
                   exact absurd H (by simp)
                 ·rw [if_neg c48] at H
                  exact absurd H (by simp)
                ·rw [if_neg c47] at H
                 have c47b0 : decide (x10_6 < x7_26) = false := decide_eq_false c47
                 clear c47
                 simp only [Option.some.injEq, Prod.mk.injEq] at H
                 obtain ⟨rfl, rfl⟩ := H
                 go_wp2
                 go_ret2
                 exact ⟨by first | rfl | (simp [errW_none, errW_some] <;> rfl) | (simp [*, errW_none, errW_some] <;> rfl), by repeat (first | (with_reducible first | exact HB.out | apply below_alloc | apply pw_below_drewN | apply below_drew1) | exact HB.out)⟩

end Go.Proofs.Ytchldbhnohicoaa.XA
