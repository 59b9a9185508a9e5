/- UsageAdds: two usages together are so either way round; with nothing each is itself. -/
import Derived.Test.YtolpamojbiipaaaDoorUMeasures
import Derived.Test.YtolpamojbiipaaaDoorXA21
namespace Go.Proofs.YtolpamojbiipaaaDoor.Pure
open Go.RowKit Go.Proofs.YtolpamojbiipaaaDoor.XA Go.Proofs.YtolpamojbiipaaaDoorW.PrintWords Go.Proofs.YtolpamojbiipaaaDoorW.PrintLast Go.Proofs.YtolpamojbiipaaaDoorW.PrintMore
set_option linter.unusedSimpArgs false
set_option linter.unusedVariables false

/-- What the statement asks of a usage. -/
def Fine (x : S23) : Prop := 0 ≤ x.f0 ∧ x.f0 ≤ 1152921504606846976 ∧ 0 ≤ x.f1 ∧ x.f1 ≤ 1152921504606846976 ∧ 0 ≤ x.f2 ∧ 0 ≤ x.f3
theorem mx_comm (a b : Int) : mx a b = mx b a := by unfold mx; split <;> split <;> omega
theorem mx_assoc (a b c : Int) : mx (mx a b) c = mx a (mx b c) := by
  unfold mx
  repeat' split
  all_goals first | rfl | omega
theorem mx_zero {a : Int} (h : 0 ≤ a) : mx a 0 = a := by unfold mx; split <;> omega
theorem adds_end (k : Nat) (y : List S23) (hy : y.length = 3) (u v w : S23) (hu : Fine u) (hv : Fine v) (hw : Fine w) :
    pannierlaw14_UsageAdds.l0 (k + 1) y 3 3 u.f0 u.f1 u.f2 u.f3 v.f0 v.f1 v.f2 v.f3 w.f0 w.f1 w.f2 w.f3 = some true := by
  obtain ⟨hu0, hu1, hu2, hu3, hu4, hu5⟩ := hu
  obtain ⟨hv0, hv1, hv2, hv3, hv4, hv5⟩ := hv
  obtain ⟨hw0, hw1, hw2, hw3, hw4, hw5⟩ := hw
  rw [pannierlaw14_UsageAdds.l0, if_neg (by omega)]
  unfold usage_Usage_Plus.f
  simp only [Option.bind_some]
  rw [w64 (x := u.f0 + v.f0) (by omega) (by omega), w64 (x := u.f1 + v.f1) (by omega) (by omega), w64 (x := v.f0 + u.f0) (by omega) (by omega), w64 (x := v.f1 + u.f1) (by omega) (by omega), w64 (x := v.f0 + w.f0) (by omega) (by omega), w64 (x := v.f1 + w.f1) (by omega) (by omega)]
  rw [w64 (x := u.f0 + v.f0 + w.f0) (by omega) (by omega), w64 (x := u.f1 + v.f1 + w.f1) (by omega) (by omega), w64 (x := u.f0 + (v.f0 + w.f0)) (by omega) (by omega), w64 (x := u.f1 + (v.f1 + w.f1)) (by omega) (by omega), w64 (x := u.f0 + 0) (by omega) (by omega), w64 (x := u.f1 + 0) (by omega) (by omega)]
  rw [Int.add_comm v.f0 u.f0, Int.add_comm v.f1 u.f1, mx_comm v.f2 u.f2, mx_comm v.f3 u.f3, Int.add_assoc, Int.add_assoc, mx_assoc, mx_assoc, mx_zero hu4, mx_zero hu5]
  simp
theorem adds_step (k : Nat) (y : List S23) (hy : y.length = 3) (i : Nat) (hi : i < 3) (x : S23) (hx : y[i]? = some x) (u v w : S23) :
    pannierlaw14_UsageAdds.l0 (k + 1) y 3 (i : Int) u.f0 u.f1 u.f2 u.f3 v.f0 v.f1 v.f2 v.f3 w.f0 w.f1 w.f2 w.f3 = some true ∨
    (Fine x ∧ pannierlaw14_UsageAdds.l0 (k + 1) y 3 (i : Int) u.f0 u.f1 u.f2 u.f3 v.f0 v.f1 v.f2 v.f3 w.f0 w.f1 w.f2 w.f3 = pannierlaw14_UsageAdds.l0 k y 3 ((i + 1 : Nat) : Int) u.f0 u.f1 u.f2 u.f3 v.f0 v.f1 v.f2 v.f3 w.f0 w.f1 w.f2 w.f3) := by
  rw [pannierlaw14_UsageAdds.l0, if_pos (by omega), if_pos (by omega), if_pos (by omega)]
  have hrd : rd_T23 y (i : Int) = x := by unfold rd_T23; rw [Int.toNat_natCast, List.getD_eq_getElem?_getD, hx]; rfl
  rw [hrd]
  unfold Fine
  have hw1 : wrap64 ((i : Int) + 1) = ((i + 1 : Nat) : Int) := by rw [w64 (by omega) (by omega)]; omega
  rw [hw1]
  split
  · exact .inl rfl
  split
  · exact .inl rfl
  split
  · exact .inl rfl
  split
  · exact .inl rfl
  split
  · exact .inl rfl
  split
  · exact .inl rfl
  exact .inr ⟨by omega, rfl⟩
theorem UsageAdds : pannierlaw14_UsageAdds.Pure := by
  intro a0 a1 a2 a3 b0 b1 b2 b3 c0 c1 c2 c3 _ _ _ _ _ _ _ _ _ _ _ _
  obtain ⟨q, hq⟩ := measures_ev
  refine ⟨q + 4, ?_⟩
  unfold pannierlaw14_UsageAdds.f
  rw [show pannierlaw14_measures.f (q + 4) = some true from hq (q + 4) (by omega)]
  simp only [Option.bind_some, if_true, List.length_cons, List.length_nil]
  have h3 : (((0 + 1 + 1 + 1 : Nat)) : Int) = 3 := rfl
  rw [h3]
  obtain ⟨y, hy⟩ : ∃ y, y = [(⟨a0, a1, a2, a3⟩ : S23), ⟨b0, b1, b2, b3⟩, ⟨c0, c1, c2, c3⟩] := ⟨_, rfl⟩
  rw [← hy]
  have hl : y.length = 3 := by rw [hy]; rfl
  have s0 := adds_step (q + 3) y hl 0 (by omega) ⟨a0, a1, a2, a3⟩ (by rw [hy]; rfl) ⟨a0, a1, a2, a3⟩ ⟨b0, b1, b2, b3⟩ ⟨c0, c1, c2, c3⟩
  have s1 := adds_step (q + 2) y hl 1 (by omega) ⟨b0, b1, b2, b3⟩ (by rw [hy]; rfl) ⟨a0, a1, a2, a3⟩ ⟨b0, b1, b2, b3⟩ ⟨c0, c1, c2, c3⟩
  have s2 := adds_step (q + 1) y hl 2 (by omega) ⟨c0, c1, c2, c3⟩ (by rw [hy]; rfl) ⟨a0, a1, a2, a3⟩ ⟨b0, b1, b2, b3⟩ ⟨c0, c1, c2, c3⟩
  rcases s0 with s0 | ⟨f0, s0⟩
  · exact s0
  refine s0.trans ?_
  rcases s1 with s1 | ⟨f1, s1⟩
  · exact s1
  refine s1.trans ?_
  rcases s2 with s2 | ⟨f2, s2⟩
  · exact s2
  refine s2.trans ?_
  exact adds_end q y hl ⟨a0, a1, a2, a3⟩ ⟨b0, b1, b2, b3⟩ ⟨c0, c1, c2, c3⟩ f0 f1 f2
end Go.Proofs.YtolpamojbiipaaaDoor.Pure
