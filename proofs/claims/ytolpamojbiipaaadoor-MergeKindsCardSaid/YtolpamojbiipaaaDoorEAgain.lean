/- usage.again at whole numbers: a set that is a map of the call's own. -/
import Derived.Test.YtolpamojbiipaaaDoorETree
import Derived.Maps.Own
import Derived.Maps.OwnOps
import Derived.Maps.Keyed
import Derived.Maps.Views
import Derived.Maps.OwnSet
import Derived.Carry
namespace Go.Proofs.YtolpamojbiipaaaDoor.XA
open Go.RowKit Go.Proofs.YtolpamojbiipaaaDoorW.PrintWords Go.Proofs.YtolpamojbiipaaaDoorW.PrintLast Go.Proofs.YtolpamojbiipaaaDoorW.PrintMore
set_option linter.unusedVariables false
set_option linter.unusedSimpArgs false

/-- Block b is the set of the numbers of S. -/
def SetAt (w : World) (b : Nat) (S : List Int) : Prop := ∃ (n : Nat) (D : DataW Unit), w.ownsMap Tryd.prog 3 (plainElem Tryd.prog 4) b n D ∧ n ≤ S.length ∧ ∀ x, (Lit.int .i64 x).wf = true → D.atKey (.int .i64 x) (.lit (.bool false)) = .lit (.bool (decide (x ∈ S)))
theorem SetAt.kept {w w' : World} {b : Nat} {S : List Int} {row : Option Nat} (h : SetAt w b S) (hg : w.grownBy w' row) (hne : some b ≠ row) : SetAt w' b S := by
  obtain ⟨n, D, ho, hn, ha⟩ := h
  exact ⟨n, D, ho.kept hg hne, hn, ha⟩
theorem SetAt.lt {w : World} {b : Nat} {S : List Int} (h : SetAt w b S) : b < w.heap.size := by
  obtain ⟨n, D, ho, _⟩ := h
  exact ho.lt
theorem SetAt.made (w : World) : SetAt (w.alloc (.map #[] 0)) w.heap.size [] :=
  ⟨0, .map [], World.ownsMap_made w _ _ _, Nat.le_refl _, fun x _ => by simp [DataW.atKey]⟩
theorem key3 {x : Int} (hx : (Lit.int .i64 x).wf = true) : keyOf Tryd.prog 3 (.int .i64 x) = some (.int .i64 x) := by
  have hk : Tryd.prog.underlying 3 = some (.int .i64) := by kernel_rfl
  simp [keyOf, mapKey, hk, hx]
set_option maxHeartbeats 2000000 in
set_option maxRecDepth 100000 in
theorem again_calls (S : List Int) (b : Nat) (x : Int) (w : World) (hS : SetAt w b S) (hx : (Lit.int .i64 x).wf = true) (hl : S.length ≤ 1000000) :
    Calls Tryd.prog 44 #[.map (some b), .int .i64 x] w fun e w' => e = .returned (.bool (decide (x ∈ S))) ∧ SetAt w' b (x :: S) ∧ w.grownBy w' (some b) := by
  obtain ⟨n, D, ho, hn, ha⟩ := hS
  have hk : Tryd.prog.underlying 3 = some (.int .i64) := by kernel_rfl
  have hu4 : Tryd.prog.underlying 4 = some .bool := by kernel_rfl
  have hu93 : Tryd.prog.underlying 93 = some (.map 3 4) := by kernel_rfl
  have hz : (zeroValue 4).run Tryd.prog w = .ok (.bool false) w := by kernel_rfl
  have law := Maps.int_keyed (P := Tryd.prog) hk
  obtain ⟨v, ps, hrun, hv⟩ := ho.lookup law hu93 hz (plainElem_bool hu4 false) (key3 hx)
  rw [ha x hx] at hv
  have hvv : v = .bool (decide (x ∈ S)) := by
    unfold plainElem at hv
    rw [hu4] at hv
    cases v <;> simp at hv
    rw [hv.1]
  subst hvv
  generalize hd : decide (x ∈ S) = d at hrun ⊢
  have HO := Aside0.mk ho
  have HM := Aside0.mk ho.isMap
  have HA := Aside0.mk ha
  clear hv hd ha
  go_enter Tryd.func44, Tryd.ntmps44
  go_wp2_with (at_mapUpdate; refine wpList_mapUpdate_own _ rfl _ _ _ 93 rfl 3 4 law hu93 (plainElem Tryd.prog 4) b n D rfl HO.out (by unfold maxLen; omega) _ _ (.int .i64 x) rfl rfl (key3 hx) (.lit (.bool true)) [] (plainElem_bool hu4 true) ?_; intro w1 ho1 hg1)
  go_ret
  refine ⟨rfl, ⟨n + 1, _, ho1, by simp; omega, fun y hy => ?_⟩, hg1⟩
  by_cases hxy : y = x
  · subst hxy
    rw [Maps.atKey_put_same HM.out (by trivial)]
    simp
  · rw [Maps.atKey_put_other (by intro e; injection e with _ e; exact hxy e), HA.out y hy]
    simp [hxy]
end Go.Proofs.YtolpamojbiipaaaDoor.XA
