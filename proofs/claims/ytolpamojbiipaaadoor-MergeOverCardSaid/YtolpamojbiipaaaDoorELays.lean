/- pannierlaw17.lays, walked by hand over Mem. Printed by wip/tools/gen_lays.py. -/
import Derived.Test.YtolpamojbiipaaaDoorEGone
import Derived.Test.YtolpamojbiipaaaDoorEMemS
import Derived.Test.YtolpamojbiipaaaDoorUMerge
namespace Go.Proofs.YtolpamojbiipaaaDoor.XA
open Go.RowKit Go.Proofs.YtolpamojbiipaaaDoorW.PrintWords Go.Proofs.YtolpamojbiipaaaDoorW.PrintLast Go.Proofs.YtolpamojbiipaaaDoorW.PrintMore Go.Proofs.YtolpamojbiipaaaDoor.Mem Go.Proofs.YtolpamojbiipaaaDoor.Pure
set_option linter.unusedVariables false
set_option linter.unusedSimpArgs false

def ndA : S42 := ⟨1, 1, 0, 0, 0, ⟨#[]⟩, ⟨#[]⟩, ⟨#[]⟩, ⟨(), 3⟩, false⟩
def ndB : S42 := ⟨1, 2, 0, 0, 0, ⟨#[]⟩, ⟨#[]⟩, ⟨#[]⟩, ⟨(), 5⟩, false⟩
def tA17 : List S44 × Int × Int := addP [] 0 [[100], [97]] ndA
def tB17 : List S44 × Int × Int := addP [] 0 [[100], [97]] ndB
def tL17 : List S44 × Int × Int := overT tA17.1 tB17.1 tA17.2.1 tB17.2.1
theorem tL_err : tL17.2.2 = 0 := by kernel_rfl
theorem tL_len : tL17.1.length = 2 := by kernel_rfl
theorem tL_get : (lookR tL17.1 [[100], [97]]).map (fun r => r.f2.f1) = some 2 := by kernel_rfl
theorem tL_gone : goneGo tA17.1 (goneF tA17.1 tL17.1) = [3] := by kernel_rfl

theorem good_17 (b : UInt8) (h : b.toNat < 128 ∧ b ≠ 46 ∧ b ≠ 47 ∧ b ≠ 0) : Pure.Good [b] :=
  ⟨by simp, by simp [h.2.1], by simp, by simp, by simpa using h.2.2.1.symm, by simpa using h.2.2.2.symm, by
    obtain ⟨h1, _⟩ := h
    have : ∀ c : Fin 256, c.val < 128 → Lib.validD [UInt8.ofNat c.val] = true := by decide +kernel
    have := this ⟨b.toNat, b.toNat_lt⟩ h1
    simpa using this⟩
theorem cl_da17 : Cl [[100], [97]] := ⟨by simp, by
  intro p hp
  simp only [List.mem_cons, List.not_mem_nil, or_false] at hp
  rcases hp with rfl | rfl
  · exact good_17 100 (by decide)
  · exact good_17 97 (by decide), by decide⟩
theorem one17 (nd : S42) (h : Nd nd) : Inv (addP [] 0 [[100], [97]] nd).1 (addP [] 0 [[100], [97]] nd).2.1 ∧ (addP [] 0 [[100], [97]] nd).1.length ≤ 400000 ∧ 0 ≤ (addP [] 0 [[100], [97]] nd).2.1 ∧ (addP [] 0 [[100], [97]] nd).2.1 ≤ 400000 := by
  have ok := addP_ok inv_nil (.inr cl_da17) h
  exact ⟨ok.inv, by have := ok.len.2; simp only [List.length_nil] at this; omega, ok.next.1, by have := ok.next.2; omega⟩
theorem lays_facts : ∃ (a : List S44) (na ea : Int) (b : List S44) (nb eb : Int) (t : List S44) (nt : Int) (r : S44), addP [] 0 [[100], [97]] ndA = (a, na, ea) ∧ addP [] 0 [[100], [97]] ndB = (b, nb, eb) ∧ Inv a na ∧ a.length ≤ 400000 ∧ na ≤ 400000 ∧ Inv b nb ∧ b.length ≤ 400000 ∧ nb ≤ 400000 ∧
    overT a b na nb = (t, nt, 0) ∧ Inv t nt ∧ nt ≤ 800000 ∧ t.length = 2 ∧ lookR t [[100], [97]] = some r ∧ r.f2.f1 = 2 ∧ goneGo a (goneF a t) = [3] := by
  have hA := one17 ndA ⟨.inl rfl, rfl, by decide⟩
  have hB := one17 ndB ⟨.inl rfl, rfl, by decide⟩
  have e1 := tL_err
  have e2 := tL_len
  have e3 := tL_get
  have e4 := tL_gone
  unfold tL17 tA17 tB17 at e1 e2 e3 e4
  generalize hp : addP [] 0 [[100], [97]] ndA = p at *
  generalize hq : addP [] 0 [[100], [97]] ndB = q at *
  obtain ⟨a, na, ea⟩ := p
  obtain ⟨b, nb, eb⟩ := q
  simp only at hA hB e1 e2 e3 e4
  rcases over_cases hA.1 hB.1 with ⟨t, ht, hok⟩ | h
  · rw [ht] at e2 e3 e4
    simp only at e2 e3 e4
    cases hl : lookR t [[100], [97]] with
    | none => rw [hl] at e3; cases e3
    | some r =>
      rw [hl] at e3
      exact ⟨a, na, ea, b, nb, eb, t, na + nb, r, rfl, rfl, hA.1, hA.2.1, hA.2.2.2, hB.1, hB.2.1, hB.2.2.2, ht, hok.inv, by omega, e2, hl, by simpa using e3, e4⟩
  · rw [h.1] at e1; simp at e1
set_option maxHeartbeats 4000000 in
set_option maxRecDepth 100000 in
theorem lays_M {w0 W : World} {P : Nat → Prop} {B : List Bx} {S : World → Prop} (HM0 : Mem w0 P W B S) :
    Calls Tryd.prog 27 #[] W fun e w' => e = .returned (.bool true) ∧ Mem w0 P w' B S := by
  have key : Calls Tryd.prog 27 #[] W fun e w' => e = .returned (.bool true) ∧ Below W.heap.size W w' := by
    have HM : Aside0 (Mem W (fun _ => True) W [] (Tr none [])) := ⟨Mem.start (fun W' _ => Kd.C_nil _ _)⟩
    obtain ⟨a, na, ea, b, nb, eb, t, nt, r, ha, hb, hIa, hLa, hNa, hIb, hLb, hNb, hov, hIt, hNt, hlt, hlk, hr2, hgo⟩ := lays_facts
    have HADD : Aside0 (∀ (nd : S42) (l : List S44) (n e0 : Int), addP [] 0 [[100], [97]] nd = (l, n, e0) → ∀ (w : World) (B : List Bx) (S : World → Prop) {A : Option Addr} {c : Nat}, Mem W (fun _ => True) w B S → (∀ w, S w → Tr A [] w) → Calls Tryd.prog 38 #[.agg #[.slice A ([] : List S44).length c, .int .i64 0], .string (mkS (joinS [[100], [97]])), .agg (nodeL nd).toArray] w fun e w' => ∃ A' c', e = .returned (.tuple #[.agg #[.slice A' l.length c', .int .i64 n], .int .i64 e0]) ∧ l.length ≤ c' ∧ Mem W (fun _ => True) w' B (fun w => S w ∧ Tr A' l w)) := ⟨fun nd l n e0 he w B S A c hM hS => by
      have := add_M (c := c) hM hS inv_nil (Nat.zero_le _) (by simp) (by omega) (.inr cl_da17) nd
      rw [he] at this
      exact this⟩
    have HA := Aside0.mk ha
    have HB := Aside0.mk hb
    have HAI := Aside0.mk hIa
    have HBI := Aside0.mk hIb
    have HOV := Aside0.mk hov
    have HT := Aside0.mk hIt
    have HTL := Aside0.mk (show t.length ≤ 900000 by omega)
    have HLK := Aside0.mk hlk
    have HGONE : Aside0 (∀ (w : World) (B : List Bx) (S : World → Prop) {A A2 : Option Addr} {c c2 : Nat} {n n2 : Int}, Mem W (fun _ => True) w B S → (∀ w, S w → Tr A a w) → (∀ w, S w → Tr A2 t w) →
      Calls Tryd.prog 34 #[.agg #[.slice A a.length c, .int .i64 n], .agg #[.slice A2 t.length c2, .int .i64 n2]] w fun e w' => ∃ Ao co, e = .returned (.slice Ao 1 co) ∧ Mem W (fun _ => True) w' B (fun w => S w ∧ Ct Ao [3] w)) := ⟨fun w B S A A2 c c2 n n2 hM hS hS2 => by
        have := gone_M (n := n) (n2 := n2) (c := c) (c2 := c2) hM hS hS2 hIa.ids hIt.ids (by omega) (by omega) (by omega) (by omega)
        rw [hgo] at this
        exact this⟩
    have HGET : Aside0 (∀ (w : World) (B : List Bx) (S : World → Prop) {A : Option Addr} {c : Nat} {n : Int}, Mem W (fun _ => True) w B S → (∀ w, S w → Tr A t w) → t.length ≤ c →
      Calls Tryd.prog 23 #[.agg #[.slice A t.length c, .int .i64 n], .string (mkS (joinS [[100], [97]]))] w fun e w' => e = .returned (.tuple #[.agg (rowL r).toArray, .bool true]) ∧ Mem W (fun _ => True) w' B S) := ⟨fun w B S A c n hM hS hc => get_some hM hS hIt.wk hc (by omega) (Gd.of (.inr cl_da17)) hlk⟩
    have HOVC : Aside0 (∀ (w : World) (B : List Bx) (S : World → Prop) {Aa Ab : Option Addr} {ca cb : Nat}, Mem W (fun _ => True) w B S → (∀ w, S w → Tr Aa a w) → (∀ w, S w → Tr Ab b w) → a.length ≤ ca → b.length ≤ cb → Calls Tryd.prog 29 #[.agg #[.slice Aa a.length ca, .int .i64 na], .agg #[.slice Ab b.length cb, .int .i64 nb]] w fun e w' => ∃ A' c', e = .returned (.tuple #[.agg #[.slice A' t.length c', .int .i64 nt], .int .i64 0]) ∧ t.length ≤ c' ∧ Mem W (fun _ => True) w' B (fun w => S w ∧ Tr A' t w)) := ⟨fun w B S Aa Ab ca cb hM hSa hSb hca hcb => by
        have := overT_M hM hSa hSb hIa.wk hIb.wk hca hcb hLa hLb ⟨hIa.next, hNa⟩ ⟨hIb.next, hNb⟩ (fun r hr => by have := hIb.ids r hr; omega)
        rw [hov] at this
        exact this⟩
    clear HM0 hlk hgo hov hIa hIb hIt ha hb
    have HTT := Aside0.mk hlt
    clear hlt
    go_enter Tryd.func27, Tryd.ntmps27
    go_upto_region 3 with (first|go_skip|((with_reducible refine' lc HM ?qw rfl ?qx ?qm ?qa ?qv ?_);(case qw|qx|qa=>rfl);(case qm=>repeat constructor);(case qv=>rfl))|((with_reducible refine' la HM ?qw rfl ?qx ?qm ?qa ?_);(case qw|qx=>rfl);(case qm=>repeat constructor);(case qa=>rfl))|((with_reducible refine' pa HM ?qw rfl ?qx _ ?qy ?qm ?qa ?_);(case qw|qx|qy=>rfl);(case qm=>repeat constructor);(case qa=>rfl);clear HM;intro _ HM)|((with_reducible refine' bz HM ?qw rfl ?qa ?qc ?_);(case qw|qa|qc=>rfl);clear HM;intro _ _ HM)|(go_at_call 38; (refine (HADD.out ndA _ _ _ HA.out _ _ _ HM.out ?hS).mono ?_); (case hS => exact fun _ _ => Kd.C_nil _ _); rintro e _ ⟨A1, c1, rfl, hc1, hM⟩; have HC1 := Aside0.mk hc1; clear hc1; clear HM;have HM:=Aside0.mk hM;clear hM))
    go_upto_region 4 with (first|go_skip|((with_reducible refine' lc HM ?qw rfl ?qx ?qm ?qa ?qv ?_);(case qw|qx|qa=>rfl);(case qm=>repeat constructor);(case qv=>rfl))|((with_reducible refine' la HM ?qw rfl ?qx ?qm ?qa ?_);(case qw|qx=>rfl);(case qm=>repeat constructor);(case qa=>rfl))|((with_reducible refine' pa HM ?qw rfl ?qx _ ?qy ?qm ?qa ?_);(case qw|qx|qy=>rfl);(case qm=>repeat constructor);(case qa=>rfl);clear HM;intro _ HM)|((with_reducible refine' bz HM ?qw rfl ?qa ?qc ?_);(case qw|qa|qc=>rfl);clear HM;intro _ _ HM)|(go_at_call 38; (refine (HADD.out ndB _ _ _ HB.out _ _ _ HM.out ?hS).mono ?_); (case hS => exact fun _ _ => Kd.C_nil _ _); rintro e _ ⟨A2, c2, rfl, hc1, hM⟩; have HC2 := Aside0.mk hc1; clear hc1; clear HM;have HM:=Aside0.mk hM;clear hM))
    go_upto_region 5 with (first|go_skip|((with_reducible refine' lc HM ?qw rfl ?qx ?qm ?qa ?qv ?_);(case qw|qx|qa=>rfl);(case qm=>repeat constructor);(case qv=>rfl))|((with_reducible refine' la HM ?qw rfl ?qx ?qm ?qa ?_);(case qw|qx=>rfl);(case qm=>repeat constructor);(case qa=>rfl))|((with_reducible refine' pa HM ?qw rfl ?qx _ ?qy ?qm ?qa ?_);(case qw|qx|qy=>rfl);(case qm=>repeat constructor);(case qa=>rfl);clear HM;intro _ HM)|((with_reducible refine' bz HM ?qw rfl ?qa ?qc ?_);(case qw|qa|qc=>rfl);clear HM;intro _ _ HM)|(go_at_call 29; (refine (HOVC.out _ _ _ HM.out (fun _ h => h.1.2) (fun _ h => h.2) HC1.out HC2.out).mono ?_); rintro e _ ⟨A3, c3, rfl, hc3, hM⟩; have HC3 := Aside0.mk hc3; clear hc3; clear HM;have HM:=Aside0.mk hM;clear hM))
    go_upto_region 7 with (first|go_skip|((with_reducible refine' lc HM ?qw rfl ?qx ?qm ?qa ?qv ?_);(case qw|qx|qa=>rfl);(case qm=>repeat constructor);(case qv=>rfl))|((with_reducible refine' la HM ?qw rfl ?qx ?qm ?qa ?_);(case qw|qx=>rfl);(case qm=>repeat constructor);(case qa=>rfl))|((with_reducible refine' pa HM ?qw rfl ?qx _ ?qy ?qm ?qa ?_);(case qw|qx|qy=>rfl);(case qm=>repeat constructor);(case qa=>rfl);clear HM;intro _ HM)|((with_reducible refine' bz HM ?qw rfl ?qa ?qc ?_);(case qw|qa|qc=>rfl);clear HM;intro _ _ HM)|(go_at_call 23; (refine (HGET.out _ _ _ HM.out (fun _ h => h.2) HC3.out).mono ?_); rintro e _ ⟨rfl, hM⟩; clear HM;have HM:=Aside0.mk hM;clear hM)|(go_at_call 34; (refine (HGONE.out _ _ _ HM.out ?hS ?hS2).mono ?_); (case hS => exact fun _ h => h.1.1.2); (case hS2 => exact fun _ h => h.2); rintro e _ ⟨Ao, co, rfl, hM⟩; clear HM;have HM:=Aside0.mk hM;clear hM))
    have htl := HTT.out
    have h7 := HM.out.now.2
    rcases h7 with h7 | ⟨gq, sp, rfl, hq⟩
    · cases h7
    have hcell : World.cell? _ ⟨gq, 1, none⟩ = some (.int .i64 3) := (blk_cell hq 1).trans rfl
    clear hq
    go_wp2_with (first|go_skip|((with_reducible refine' lc HM ?qw rfl ?qx ?qm ?qa ?qv ?_);(case qw|qx|qa=>rfl);(case qm=>repeat constructor);(case qv=>rfl))|((with_reducible refine' la HM ?qw rfl ?qx ?qm ?qa ?_);(case qw|qx=>rfl);(case qm=>repeat constructor);(case qa=>rfl))|((with_reducible refine' pa HM ?qw rfl ?qx _ ?qy ?qm ?qa ?_);(case qw|qx|qy=>rfl);(case qm=>repeat constructor);(case qa=>rfl);clear HM;intro _ HM)|((with_reducible refine' bz HM ?qw rfl ?qa ?qc ?_);(case qw|qa|qc=>rfl);clear HM;intro _ _ HM))
    go_ret
    exact ⟨rfl, HM.out.below⟩
  refine key.mono ?_
  rintro e w' ⟨rfl, hb⟩
  exact ⟨rfl, HM0.call hb⟩
end Go.Proofs.YtolpamojbiipaaaDoor.XA
