/- pannierlaw14.measures, walked by hand over Mem. Printed by wip/tools/gen_measures.py. -/
import Derived.Test.YtolpamojbiipaaaDoorEPlanted14
import Derived.Test.YtolpamojbiipaaaDoorEMemOf
import Derived.Test.YtolpamojbiipaaaDoorXA1
namespace Go.Proofs.YtolpamojbiipaaaDoor.XA
open Go.RowKit Go.Proofs.YtolpamojbiipaaaDoorW.PrintWords Go.Proofs.YtolpamojbiipaaaDoorW.PrintLast Go.Proofs.YtolpamojbiipaaaDoorW.PrintMore Go.Proofs.YtolpamojbiipaaaDoor.Mem Go.Proofs.YtolpamojbiipaaaDoor.Pure
attribute [local go_sem high] eqA23
set_option linter.unusedVariables false
set_option linter.unusedSimpArgs false

theorem good_1 (b : UInt8) (h : b.toNat < 128 ∧ b ≠ 46 ∧ b ≠ 47 ∧ b ≠ 0) : Pure.Good [b] :=
  ⟨by simp, by simp [h.2.1], by simp, by simp, by simpa using h.2.2.1.symm, by simpa using h.2.2.2.symm, by
    obtain ⟨h1, _⟩ := h
    have : ∀ c : Fin 256, c.val < 128 → Lib.validD [UInt8.ofNat c.val] = true := by decide +kernel
    have := this ⟨b.toNat, b.toNat_lt⟩ h1
    simpa using this⟩
theorem cl_da : Cl [[100], [97]] := ⟨by simp, by
  intro p hp
  simp only [List.mem_cons, List.not_mem_nil, or_false] at hp
  rcases hp with rfl | rfl
  · exact good_1 100 (by decide)
  · exact good_1 97 (by decide), by decide⟩
theorem cl_bb : Cl [[98, 98]] := ⟨by simp, by
  intro p hp
  simp only [List.mem_cons, List.not_mem_nil, or_false] at hp
  subst hp
  exact ⟨by decide, by decide, by decide, by decide, by decide, by decide, by decide +kernel⟩, by decide⟩
def nd3 : S42 := ⟨1, 0, 0, 0, 0, ⟨#[]⟩, ⟨#[]⟩, ⟨#[]⟩, ⟨(), 3⟩, false⟩
def tDa : List S44 × Int × Int := addP [] 0 [[100], [97]] nd3
def tBb : List S44 × Int × Int := linkP tDa.1 tDa.2.1 [[98, 98]] [[100], [97]]
theorem da_inv : Inv tDa.1 tDa.2.1 ∧ tDa.1.length ≤ 800000 ∧ tDa.2.1 ≤ 800000 := by
  have := addP_ok inv_nil (.inr cl_da) (nd := nd3) ⟨.inl rfl, rfl, by decide⟩
  exact ⟨this.inv, by have := this.len.2; simp only [tDa, List.length_nil] at *; omega, by have := this.next.2; simp only [tDa] at *; omega⟩
theorem bb_inv : Inv tBb.1 tBb.2.1 ∧ tBb.1.length ≤ 900000 ∧ tBb.2.1 ≤ 900000 := by
  have h := da_inv
  have := linkP_ok h.1 (ps := [[98, 98]]) (qs := [[100], [97]]) (.inr cl_bb)
  exact ⟨this.1, by have := this.2.2.2; simp only [tBb] at *; omega, by have := this.2.2.1; simp only [tBb] at *; omega⟩
theorem of_bb : ofL tBb.1 = (3, 2, 2, 3) := by kernel_rfl
theorem lit_da : (⟨#[100, 47, 97]⟩ : ByteArray) = mkS (joinS [[100], [97]]) := rfl
theorem lit_bb : (⟨#[98, 98]⟩ : ByteArray) = mkS (joinS [[98, 98]]) := rfl
set_option maxHeartbeats 4000000 in
set_option maxRecDepth 100000 in
theorem measures_M {w0 W : World} {P : Nat → Prop} {B : List Bx} {S : World → Prop} (HM0 : Mem w0 P W B S) :
    Calls Tryd.prog 16 #[] W fun e w' => e = .returned (.bool true) ∧ Mem w0 P w' B S := by
  have key : Calls Tryd.prog 16 #[] W fun e w' => e = .returned (.bool true) ∧ Below W.heap.size W w' := by
    have HM : Aside0 (Mem W (fun _ => True) W [] (Tr none [])) := ⟨Mem.start (fun W' _ => Kd.C_nil _ _)⟩
    have HI1 := Aside0.mk da_inv.1
    have HL1 := Aside0.mk da_inv.2.1
    have HN1 := Aside0.mk da_inv.2.2
    have HI2 := Aside0.mk bb_inv.1
    have HL2 := Aside0.mk bb_inv.2.1
    have HN2 := Aside0.mk bb_inv.2.2
    have HOF := Aside0.mk of_bb
    clear HM0
    go_enter Tryd.func16, Tryd.ntmps16
    go_wp2_with (first
      | go_skip
      | ((with_reducible refine' load_cell HM.out ?hw rfl ?hx ?hm ?ha ?hv ?_); (case hw => rfl); (case hx => rfl); (case ha => exact nag _ (by decide)); (case hm => first | exact m0 | exact m1 | exact m2); (case hv => rfl))
      | ((with_reducible refine' load_all (ty := 35) HM.out ?hw rfl ?hx ?hm agg35 ?hl ?_); (case hw => rfl); (case hx => rfl); (case hm => first | exact m0 | exact m1 | exact m2); (case hl => rfl))
      | ((with_reducible refine' load_all (ty := 23) HM.out ?hw rfl ?hx ?hm agg23 ?hl ?_); (case hw => rfl); (case hx => rfl); (case hm => first | exact m0 | exact m1 | exact m2); (case hl => rfl))
      | ((with_reducible refine' store_all (ty := 35) HM.out ?hw rfl ?hx ?hm _ ?hy ?hs ?h1 ?hi ?_); (case hw => rfl); (case hx => rfl); (case hm => first | exact at0 | exact at1 | exact at2); (case hy => rfl); (case hs => exact size35); (case h1 => first | exact rowL_one _ | exact nodeL_one _ | simp [Value.oneCell']); (case hi => rfl); intro _ hM; simp only [List.set_cons_zero, List.set_cons_succ] at hM; clear HM; have HM := Aside0.mk hM; clear hM)
      | ((with_reducible refine' store_all (ty := 23) HM.out ?hw rfl ?hx ?hm _ ?hy ?hs ?h1 ?hi ?_); (case hw => rfl); (case hx => rfl); (case hm => first | exact at0 | exact at1 | exact at2); (case hy => rfl); (case hs => exact size23); (case h1 => first | exact usL_one _ | exact rowL_one _ | exact nodeL_one _ | simp [Value.oneCell']); (case hi => rfl); intro _ hM; simp only [List.set_cons_zero, List.set_cons_succ] at hM; clear HM; have HM := Aside0.mk hM; clear hM)
      | ((with_reducible refine' box_zero (ty := 35) HM.out ?hw rfl zero35 _ ?hc ?_); (case hw => rfl); (case hc => rfl); intro _ _ hM; clear HM; have HM := Aside0.mk hM; clear hM)
      | ((with_reducible refine' box_zero (ty := 23) HM.out ?hw rfl zero23 _ ?hc ?_); (case hw => rfl); (case hc => rfl); intro _ _ hM; clear HM; have HM := Aside0.mk hM; clear hM)
      | (go_at_call 38; (refine (add_M (ps := [[100], [97]]) HM.out ?hS inv_nil (Nat.le_refl _) (by simp) (by omega) (.inr cl_da) (nd3)).mono ?_); (case hS => first | exact fun _ h => h | exact fun _ h => h.2 | exact fun _ h => h.1 | exact fun _ h => h.1.2 | exact fun _ h => h.1.1 | exact fun _ h => h.1.1.2 | exact fun _ h => h.1.1.1); rintro e _ ⟨A1, c1, rfl, hc1, hM⟩; have HC1 := Aside0.mk hc1; clear hc1; clear HM; have HM := Aside0.mk hM; clear hM)
      | (go_at_call 26; (refine (link_M (ps := [[98, 98]]) (qs := [[100], [97]]) HM.out ?hS HI1.out HC1.out HL1.out HN1.out (.inr cl_bb) (Gd.of (.inr cl_da))).mono ?_); (case hS => first | exact fun _ h => h | exact fun _ h => h.2 | exact fun _ h => h.1 | exact fun _ h => h.1.2 | exact fun _ h => h.1.1 | exact fun _ h => h.1.1.2 | exact fun _ h => h.1.1.1); rintro e _ ⟨A2, c2, rfl, hc2, hM⟩; have HC2 := Aside0.mk hc2; clear hc2; clear HM; have HM := Aside0.mk hM; clear hM)
      | (go_at_call 20; (refine (of_M HM.out ?hS HI2.out HC2.out HL2.out HN2.out).mono ?_); (case hS => first | exact fun _ h => h | exact fun _ h => h.2 | exact fun _ h => h.1 | exact fun _ h => h.1.2 | exact fun _ h => h.1.1 | exact fun _ h => h.1.1.2 | exact fun _ h => h.1.1.1); rintro e _ ⟨rfl, hM⟩; rw [HOF.out]; simp only [usL]; clear HM; have HM := Aside0.mk hM; clear hM))
    go_ret
    exact ⟨rfl, HM.out.below⟩
  refine key.mono ?_
  rintro e w' ⟨rfl, hb⟩
  exact ⟨rfl, HM0.call hb⟩
end Go.Proofs.YtolpamojbiipaaaDoor.XA
