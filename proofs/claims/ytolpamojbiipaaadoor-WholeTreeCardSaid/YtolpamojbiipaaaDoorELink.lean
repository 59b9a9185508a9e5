/- tree.Link, walked by hand. Printed by wip/tools/gen_link.py. -/
import Derived.Test.YtolpamojbiipaaaDoorEMemTree
import Derived.Test.YtolpamojbiipaaaDoorEMemS
namespace Go.Proofs.YtolpamojbiipaaaDoor.XA
open Go.RowKit Go.Proofs.YtolpamojbiipaaaDoorW.PrintWords Go.Proofs.YtolpamojbiipaaaDoorW.PrintLast Go.Proofs.YtolpamojbiipaaaDoorW.PrintMore Go.Proofs.YtolpamojbiipaaaDoor.Mem Go.Proofs.YtolpamojbiipaaaDoor.Pure
set_option linter.unusedVariables false
set_option linter.unusedSimpArgs false

def dirAt (l : List S44) (ps : Pth) : Prop := ∃ o, lookR l ps = some o ∧ o.f2.f0 = 4
instance (l : List S44) (ps : Pth) : Decidable (dirAt l ps) := by
  unfold dirAt
  cases lookR l ps with
  | none => exact isFalse (by simp)
  | some o => exact decidable_of_iff (o.f2.f0 = 4) (by simp)
/-- One more name of a file. -/
def linkP (l : List S44) (n : Int) (ps qs : Pth) : List S44 × Int × Int :=
  if ps = [] then (l, n, 100) else match lookR l qs with
  | none => (l, n, 4)
  | some r => if r.f2.f0 = 1 then (if dirAt l ps then (l, n, 130) else
      if (parP l n ps.length ps).2.2 = 0 then (insR (parP l n ps.length ps).1 (rowOf ps r.f1 r.f2), (parP l n ps.length ps).2.1, 0) else (l, n, (parP l n ps.length ps).2.2)) else (l, n, 130)
set_option maxHeartbeats 8000000 in
set_option maxRecDepth 100000 in
theorem link_walk (P : Nat → Prop) (A : Option Addr) (c : Nat) (l : List S44) (n : Int) (ps qs : Pth) (w : World) (hV : Kd.V k44 44 w w.heap.size P (.slice A l.length c) l) (hI : Inv l n) (hl : l.length ≤ 800000) (hn : n ≤ 800000) (hp : ps = [] ∨ Cl ps) (hq : Gd qs) :
    Calls Tryd.prog 26 #[.agg #[.slice A l.length c, .int .i64 n], .string (mkS (joinS ps)), .string (mkS (joinS qs))] w fun e w' => ∃ v0, e = .returned (.tuple #[.agg #[v0, .int .i64 (linkP l n ps qs).2.1], .int .i64 (linkP l n ps qs).2.2]) ∧ Kd.V k44 44 w' w.heap.size (fun k => P k ∨ w.heap.size ≤ k) v0 (linkP l n ps qs).1 ∧ Below w.heap.size w w' := by
  obtain ⟨hc, hM⟩ := M_start hV
  have HM := Aside0.mk hM
  have HI := Aside0.mk hI
  have HC := Aside0.mk hc
  have HL := Aside0.mk (show l.length ≤ 900000 by omega)
  have HL2 := Aside0.mk hl
  have HN := Aside0.mk hn
  have HP := Aside0.mk (Gd.of hp)
  have HQ := Aside0.mk hq
  clear hV hM hc hI hq
  unfold linkP
  by_cases h0 : ps = []
  case pos =>
    subst h0
    rw [if_pos rfl]
    have b0 : ((mkS (joinS [])).toList == ([] : List UInt8)) = true := beq_iff_eq.2 (mk_toList _)
    have b1 : (mkS (joinS [])).toList.isEmpty = true := List.isEmpty_iff.2 (mk_toList _)
    clear hp
    go_enter Tryd.func26, Tryd.ntmps26
    go_wp2_with (first|go_skip|((with_reducible refine' lc HM ?qw rfl ?qx ?qm ?qa ?qv ?_);(case qw|qx|qa=>rfl);(case qm=>repeat constructor);(case qv=>rfl))|((with_reducible refine' la HM ?qw rfl ?qx ?qm ?qa ?_);(case qw|qx=>rfl);(case qm=>repeat constructor);(case qa=>rfl))|((with_reducible refine' pa HM ?qw rfl ?qx _ ?qy ?qm ?qa ?_);(case qw|qx|qy=>rfl);(case qm=>repeat constructor);(case qa=>rfl);clear HM;intro _ HM)|((with_reducible refine' bz HM ?qw rfl ?qa ?qc ?_);(case qw|qa|qc=>rfl);clear HM;intro _ _ HM)|((with_reducible refine' bn HM ?qw rfl _ ?qx ?_);(case qw|qx=>rfl);clear HM;intro _ _ HM)|(go_at_call 23; (refine (get_M HM.out ?hS HI.out.wk HC.out HL.out HQ.out).mono ?_); (case hS => first | exact fun _ h => h | exact fun _ h => h.2 | exact fun _ h => h.1 | exact fun _ h => h.1.2 | exact fun _ h => h.1.1 | exact fun _ h => h.1.1.2 | exact fun _ h => h.1.1.1); rintro e _ ⟨rfl, hM⟩; clear HM; have HM := Aside0.mk hM; clear hM))
    refine bodyPost_ret (ret_ct HM.out rfl rfl (by first | exact m0 | exact m1 | exact m2 | exact m3 | exact m4) (by exact agg35)) rfl ?_
    exact ⟨_, rfl, V_of HM.out (fun _ h => h) HC.out, HM.out.below⟩
  have hcp : Cl ps := hp.resolve_left h0
  have HCP := Aside0.mk hcp
  have hne : (mkS (joinS ps)).toList ≠ [] := by rw [mk_toList]; exact join_ne hcp.good h0
  rw [if_neg h0]
  have b0 : ((mkS (joinS ps)).toList == ([] : List UInt8)) = false := beq_eq_false_iff_ne.2 hne
  have b1 : (mkS (joinS ps)).toList.isEmpty = false := List.isEmpty_eq_false_iff.2 hne
  clear hp h0 hne hcp
  cases hlq : lookR l qs with
  | none =>
    have HLQ := Aside0.mk hlq
    clear hlq
    simp only
    go_enter Tryd.func26, Tryd.ntmps26
    go_wp2_with (first|go_skip|((with_reducible refine' lc HM ?qw rfl ?qx ?qm ?qa ?qv ?_);(case qw|qx|qa=>rfl);(case qm=>repeat constructor);(case qv=>rfl))|((with_reducible refine' la HM ?qw rfl ?qx ?qm ?qa ?_);(case qw|qx=>rfl);(case qm=>repeat constructor);(case qa=>rfl))|((with_reducible refine' pa HM ?qw rfl ?qx _ ?qy ?qm ?qa ?_);(case qw|qx|qy=>rfl);(case qm=>repeat constructor);(case qa=>rfl);clear HM;intro _ HM)|((with_reducible refine' bz HM ?qw rfl ?qa ?qc ?_);(case qw|qa|qc=>rfl);clear HM;intro _ _ HM)|((with_reducible refine' bn HM ?qw rfl _ ?qx ?_);(case qw|qx=>rfl);clear HM;intro _ _ HM)|(go_at_call 23; (refine (get_none HM.out ?hS HI.out.wk HC.out HL.out HQ.out HLQ.out).mono ?_); (case hS => first | exact fun _ h => h | exact fun _ h => h.2 | exact fun _ h => h.1 | exact fun _ h => h.1.2 | exact fun _ h => h.1.1 | exact fun _ h => h.1.1.2 | exact fun _ h => h.1.1.1); rintro e _ ⟨rfl, hM⟩; clear HM; have HM := Aside0.mk hM; clear hM))
    refine bodyPost_ret (ret_ct HM.out rfl rfl (by first | exact m0 | exact m1 | exact m2 | exact m3 | exact m4) (by exact agg35)) rfl ?_
    exact ⟨_, rfl, V_of HM.out (fun _ h => h) HC.out, HM.out.below⟩
  | some r =>
    have HLQ := Aside0.mk hlq
    clear hlq
    simp only
    by_cases h : r.f2.f0 = 1
    case neg =>
      rw [if_neg h]
      have b_k : (r.f2.f0 == 1) = false := beq_eq_false_iff_ne.2 h
      have n_k : (r.f2.f0 != 1) = true := bne_iff_ne.2 h
      clear h
      go_enter Tryd.func26, Tryd.ntmps26
      go_wp2_with (first|go_skip|((with_reducible refine' lc HM ?qw rfl ?qx ?qm ?qa ?qv ?_);(case qw|qx|qa=>rfl);(case qm=>repeat constructor);(case qv=>rfl))|((with_reducible refine' la HM ?qw rfl ?qx ?qm ?qa ?_);(case qw|qx=>rfl);(case qm=>repeat constructor);(case qa=>rfl))|((with_reducible refine' pa HM ?qw rfl ?qx _ ?qy ?qm ?qa ?_);(case qw|qx|qy=>rfl);(case qm=>repeat constructor);(case qa=>rfl);clear HM;intro _ HM)|((with_reducible refine' bz HM ?qw rfl ?qa ?qc ?_);(case qw|qa|qc=>rfl);clear HM;intro _ _ HM)|((with_reducible refine' bn HM ?qw rfl _ ?qx ?_);(case qw|qx=>rfl);clear HM;intro _ _ HM)|(go_at_call 23; (refine (get_some HM.out ?hS HI.out.wk HC.out HL.out HQ.out HLQ.out).mono ?_); (case hS => first | exact fun _ h => h | exact fun _ h => h.2 | exact fun _ h => h.1 | exact fun _ h => h.1.2 | exact fun _ h => h.1.1 | exact fun _ h => h.1.1.2 | exact fun _ h => h.1.1.1); rintro e _ ⟨rfl, hM⟩; clear HM; have HM := Aside0.mk hM; clear hM))
      refine bodyPost_ret (ret_ct HM.out rfl rfl (by first | exact m0 | exact m1 | exact m2 | exact m3 | exact m4) (by exact agg35)) rfl ?_
      exact ⟨_, rfl, V_of HM.out (fun _ h => h) HC.out, HM.out.below⟩
    rw [if_pos h]
    have b_k : (r.f2.f0 == 1) = true := beq_iff_eq.2 h
    have n_k : (r.f2.f0 != 1) = false := bne_eq_false_iff_eq.2 h
    clear h
    have hpar := fun (B : List Bx) (S : World → Prop) (W : World) (HM : Mem w P W B S) (hS : ∀ w, S w → Tr A l w) => par_M HM hS HI.out HC.out HL.out (by omega) HCP.out
    have hok := parP_ok HI.out ps.length ps (Nat.le_refl _) (pref_cl HCP.out)
    generalize parP l n ps.length ps = hq1 at hpar hok ⊢
    have HPAR := Aside0.mk hpar
    clear hpar
    cases hlp : lookR l ps with
    | none =>
      have hnd : ¬ dirAt l ps := by unfold dirAt; rw [hlp]; simp
      rw [if_neg hnd]
      have HLP := Aside0.mk hlp
      clear hlp hnd
      obtain ⟨l1, n1, e1⟩ := hq1
      by_cases h : e1 = 0
      case neg =>
        rw [if_neg h]
        have b_e : (e1 == 0) = false := beq_eq_false_iff_ne.2 h
        have n_e : (e1 != 0) = true := bne_iff_ne.2 h
        clear h
        go_enter Tryd.func26, Tryd.ntmps26
        go_wp2_with (first|go_skip|((with_reducible refine' lc HM ?qw rfl ?qx ?qm ?qa ?qv ?_);(case qw|qx|qa=>rfl);(case qm=>repeat constructor);(case qv=>rfl))|((with_reducible refine' la HM ?qw rfl ?qx ?qm ?qa ?_);(case qw|qx=>rfl);(case qm=>repeat constructor);(case qa=>rfl))|((with_reducible refine' pa HM ?qw rfl ?qx _ ?qy ?qm ?qa ?_);(case qw|qx|qy=>rfl);(case qm=>repeat constructor);(case qa=>rfl);clear HM;intro _ HM)|((with_reducible refine' bz HM ?qw rfl ?qa ?qc ?_);(case qw|qa|qc=>rfl);clear HM;intro _ _ HM)|((with_reducible refine' bn HM ?qw rfl _ ?qx ?_);(case qw|qx=>rfl);clear HM;intro _ _ HM)|(go_at_call 23; (first | ((with_reducible refine (get_some HM.out ?hS HI.out.wk HC.out HL.out HQ.out HLQ.out).mono ?_); (case hS => first | exact fun _ h => h | exact fun _ h => h.2 | exact fun _ h => h.1 | exact fun _ h => h.1.2 | exact fun _ h => h.1.1 | exact fun _ h => h.1.1.2 | exact fun _ h => h.1.1.1)) | ((with_reducible refine (get_none HM.out ?hS HI.out.wk HC.out HL.out HP.out HLP.out).mono ?_); (case hS => first | exact fun _ h => h | exact fun _ h => h.2 | exact fun _ h => h.1 | exact fun _ h => h.1.2 | exact fun _ h => h.1.1 | exact fun _ h => h.1.1.2 | exact fun _ h => h.1.1.1))); rintro e _ ⟨rfl, hM⟩; clear HM;have HM:=Aside0.mk hM;clear hM)|(go_at_call 51; (refine (HPAR.out _ _ _ HM.out ?hS).mono ?_); (case hS => first | exact fun _ h => h | exact fun _ h => h.2 | exact fun _ h => h.1 | exact fun _ h => h.1.2 | exact fun _ h => h.1.1 | exact fun _ h => h.1.1.2 | exact fun _ h => h.1.1.1); rintro e _ ⟨A1, c1, rfl, hc1, hM⟩; have HC1 := Aside0.mk hc1; clear hc1; clear HM; have HM := Aside0.mk hM; clear hM))
        refine bodyPost_ret (ret_ct HM.out rfl rfl (by first | exact m0 | exact m1 | exact m2 | exact m3 | exact m4) (by exact agg35)) rfl ?_
        exact ⟨_, rfl, V_of HM.out (by first | exact fun _ h => h | exact fun _ h => h.2 | exact fun _ h => h.1 | exact fun _ h => h.1.2 | exact fun _ h => h.1.1 | exact fun _ h => h.1.1.2 | exact fun _ h => h.1.1.1) HC.out, HM.out.below⟩
      rw [if_pos h]
      have b_e : (e1 == 0) = true := beq_iff_eq.2 h
      have n_e : (e1 != 0) = false := bne_eq_false_iff_eq.2 h
      subst h
      have HI1 := Aside0.mk hok.inv
      have HL1 := Aside0.mk (show l1.length ≤ 900000 by have := hok.len; have := hok.next; have := HCP.out.length; have := HL2.out; have := HN.out; simp only at *; omega)
      have HR := Aside0.mk (show (rowOf ps r.f1 r.f2).f0.size ≤ 1000000 by show (mkS (joinS ps)).size ≤ 1000000; rw [mk_size]; have := HCP.out.len; omega)
      clear hok b_e n_e
      go_enter Tryd.func26, Tryd.ntmps26
      go_wp2_with (first|go_skip|((with_reducible refine' lc HM ?qw rfl ?qx ?qm ?qa ?qv ?_);(case qw|qx|qa=>rfl);(case qm=>repeat constructor);(case qv=>rfl))|((with_reducible refine' la HM ?qw rfl ?qx ?qm ?qa ?_);(case qw|qx=>rfl);(case qm=>repeat constructor);(case qa=>rfl))|((with_reducible refine' pa HM ?qw rfl ?qx _ ?qy ?qm ?qa ?_);(case qw|qx|qy=>rfl);(case qm=>repeat constructor);(case qa=>rfl);clear HM;intro _ HM)|((with_reducible refine' bz HM ?qw rfl ?qa ?qc ?_);(case qw|qa|qc=>rfl);clear HM;intro _ _ HM)|((with_reducible refine' bn HM ?qw rfl _ ?qx ?_);(case qw|qx=>rfl);clear HM;intro _ _ HM)|(go_at_call 23; (first | ((with_reducible refine (get_some HM.out ?hS HI.out.wk HC.out HL.out HQ.out HLQ.out).mono ?_); (case hS => first | exact fun _ h => h | exact fun _ h => h.2 | exact fun _ h => h.1 | exact fun _ h => h.1.2 | exact fun _ h => h.1.1 | exact fun _ h => h.1.1.2 | exact fun _ h => h.1.1.1)) | ((with_reducible refine (get_none HM.out ?hS HI.out.wk HC.out HL.out HP.out HLP.out).mono ?_); (case hS => first | exact fun _ h => h | exact fun _ h => h.2 | exact fun _ h => h.1 | exact fun _ h => h.1.2 | exact fun _ h => h.1.1 | exact fun _ h => h.1.1.2 | exact fun _ h => h.1.1.1))); rintro e _ ⟨rfl, hM⟩; clear HM;have HM:=Aside0.mk hM;clear hM)|(go_at_call 51; (refine (HPAR.out _ _ _ HM.out ?hS).mono ?_); (case hS => first | exact fun _ h => h | exact fun _ h => h.2 | exact fun _ h => h.1 | exact fun _ h => h.1.2 | exact fun _ h => h.1.1 | exact fun _ h => h.1.1.2 | exact fun _ h => h.1.1.1); rintro e _ ⟨A1, c1, rfl, hc1, hM⟩; have HC1 := Aside0.mk hc1; clear hc1; clear HM; have HM := Aside0.mk hM; clear hM)|((with_reducible refine' load_part (ty := 42) HM.out ?hw rfl ?hx ?hm agg42 _ (node_of _) rfl ?_); (case hw => rfl); (case hx => rfl); (case hm => first | exact m0 | exact m1 | exact m2 | exact m3 | exact m4))|((with_reducible refine' build_row rfl rfl _ _ _ ?hx ?hy ?hz ?_); (case hx => rfl); (case hy => rfl); (case hz => rfl))|(go_at_call 52; (refine (put_M HM.out ?hS HI1.out.wk HC1.out HL1.out HR.out).mono ?_); (case hS => first | exact fun _ h => h | exact fun _ h => h.2 | exact fun _ h => h.1 | exact fun _ h => h.1.2 | exact fun _ h => h.1.1 | exact fun _ h => h.1.1.2 | exact fun _ h => h.1.1.1); rintro e _ ⟨A2, c2, rfl, hc2, hM⟩; have HC2 := Aside0.mk hc2; clear hc2; clear HM; have HM := Aside0.mk hM; clear hM))
      refine bodyPost_ret (ret_ct HM.out rfl rfl (by first | exact m0 | exact m1 | exact m2 | exact m3 | exact m4) (by exact agg35)) rfl ?_
      exact ⟨_, rfl, V_end HM.out HC2.out, HM.out.below⟩
    | some o =>
      have HLP := Aside0.mk hlp
      by_cases h : o.f2.f0 = 4
      case pos =>
        rw [if_pos (show dirAt l ps from ⟨o, hlp, h⟩)]
        clear HPAR hok hlp
        have b_d : (o.f2.f0 == 4) = true := beq_iff_eq.2 h
        have n_d : (o.f2.f0 != 4) = false := bne_eq_false_iff_eq.2 h
        clear h
        go_enter Tryd.func26, Tryd.ntmps26
        go_wp2_with (first|go_skip|((with_reducible refine' lc HM ?qw rfl ?qx ?qm ?qa ?qv ?_);(case qw|qx|qa=>rfl);(case qm=>repeat constructor);(case qv=>rfl))|((with_reducible refine' la HM ?qw rfl ?qx ?qm ?qa ?_);(case qw|qx=>rfl);(case qm=>repeat constructor);(case qa=>rfl))|((with_reducible refine' pa HM ?qw rfl ?qx _ ?qy ?qm ?qa ?_);(case qw|qx|qy=>rfl);(case qm=>repeat constructor);(case qa=>rfl);clear HM;intro _ HM)|((with_reducible refine' bz HM ?qw rfl ?qa ?qc ?_);(case qw|qa|qc=>rfl);clear HM;intro _ _ HM)|((with_reducible refine' bn HM ?qw rfl _ ?qx ?_);(case qw|qx=>rfl);clear HM;intro _ _ HM)|(go_at_call 23; (first | ((with_reducible refine (get_some HM.out ?hS HI.out.wk HC.out HL.out HQ.out HLQ.out).mono ?_); (case hS => first | exact fun _ h => h | exact fun _ h => h.2 | exact fun _ h => h.1 | exact fun _ h => h.1.2 | exact fun _ h => h.1.1 | exact fun _ h => h.1.1.2 | exact fun _ h => h.1.1.1)) | ((with_reducible refine (get_some HM.out ?hS HI.out.wk HC.out HL.out HP.out HLP.out).mono ?_); (case hS => first | exact fun _ h => h | exact fun _ h => h.2 | exact fun _ h => h.1 | exact fun _ h => h.1.2 | exact fun _ h => h.1.1 | exact fun _ h => h.1.1.2 | exact fun _ h => h.1.1.1))); rintro e _ ⟨rfl, hM⟩; clear HM;have HM:=Aside0.mk hM;clear hM))
        refine bodyPost_ret (ret_ct HM.out rfl rfl (by first | exact m0 | exact m1 | exact m2 | exact m3 | exact m4) (by exact agg35)) rfl ?_
        exact ⟨_, rfl, V_of HM.out (fun _ h => h) HC.out, HM.out.below⟩
      have hnd : ¬ dirAt l ps := by unfold dirAt; rw [hlp]; simpa using h
      rw [if_neg hnd]
      clear hlp hnd
      have b_d : (o.f2.f0 == 4) = false := beq_eq_false_iff_ne.2 h
      have n_d : (o.f2.f0 != 4) = true := bne_iff_ne.2 h
      clear h
      obtain ⟨l1, n1, e1⟩ := hq1
      by_cases h : e1 = 0
      case neg =>
        rw [if_neg h]
        have b_e : (e1 == 0) = false := beq_eq_false_iff_ne.2 h
        have n_e : (e1 != 0) = true := bne_iff_ne.2 h
        clear h
        go_enter Tryd.func26, Tryd.ntmps26
        go_wp2_with (first|go_skip|((with_reducible refine' lc HM ?qw rfl ?qx ?qm ?qa ?qv ?_);(case qw|qx|qa=>rfl);(case qm=>repeat constructor);(case qv=>rfl))|((with_reducible refine' la HM ?qw rfl ?qx ?qm ?qa ?_);(case qw|qx=>rfl);(case qm=>repeat constructor);(case qa=>rfl))|((with_reducible refine' pa HM ?qw rfl ?qx _ ?qy ?qm ?qa ?_);(case qw|qx|qy=>rfl);(case qm=>repeat constructor);(case qa=>rfl);clear HM;intro _ HM)|((with_reducible refine' bz HM ?qw rfl ?qa ?qc ?_);(case qw|qa|qc=>rfl);clear HM;intro _ _ HM)|((with_reducible refine' bn HM ?qw rfl _ ?qx ?_);(case qw|qx=>rfl);clear HM;intro _ _ HM)|(go_at_call 23; (first | ((with_reducible refine (get_some HM.out ?hS HI.out.wk HC.out HL.out HQ.out HLQ.out).mono ?_); (case hS => first | exact fun _ h => h | exact fun _ h => h.2 | exact fun _ h => h.1 | exact fun _ h => h.1.2 | exact fun _ h => h.1.1 | exact fun _ h => h.1.1.2 | exact fun _ h => h.1.1.1)) | ((with_reducible refine (get_some HM.out ?hS HI.out.wk HC.out HL.out HP.out HLP.out).mono ?_); (case hS => first | exact fun _ h => h | exact fun _ h => h.2 | exact fun _ h => h.1 | exact fun _ h => h.1.2 | exact fun _ h => h.1.1 | exact fun _ h => h.1.1.2 | exact fun _ h => h.1.1.1))); rintro e _ ⟨rfl, hM⟩; clear HM;have HM:=Aside0.mk hM;clear hM)|(go_at_call 51; (refine (HPAR.out _ _ _ HM.out ?hS).mono ?_); (case hS => first | exact fun _ h => h | exact fun _ h => h.2 | exact fun _ h => h.1 | exact fun _ h => h.1.2 | exact fun _ h => h.1.1 | exact fun _ h => h.1.1.2 | exact fun _ h => h.1.1.1); rintro e _ ⟨A1, c1, rfl, hc1, hM⟩; have HC1 := Aside0.mk hc1; clear hc1; clear HM; have HM := Aside0.mk hM; clear hM))
        refine bodyPost_ret (ret_ct HM.out rfl rfl (by first | exact m0 | exact m1 | exact m2 | exact m3 | exact m4) (by exact agg35)) rfl ?_
        exact ⟨_, rfl, V_of HM.out (by first | exact fun _ h => h | exact fun _ h => h.2 | exact fun _ h => h.1 | exact fun _ h => h.1.2 | exact fun _ h => h.1.1 | exact fun _ h => h.1.1.2 | exact fun _ h => h.1.1.1) HC.out, HM.out.below⟩
      rw [if_pos h]
      have b_e : (e1 == 0) = true := beq_iff_eq.2 h
      have n_e : (e1 != 0) = false := bne_eq_false_iff_eq.2 h
      subst h
      have HI1 := Aside0.mk hok.inv
      have HL1 := Aside0.mk (show l1.length ≤ 900000 by have := hok.len; have := hok.next; have := HCP.out.length; have := HL2.out; have := HN.out; simp only at *; omega)
      have HR := Aside0.mk (show (rowOf ps r.f1 r.f2).f0.size ≤ 1000000 by show (mkS (joinS ps)).size ≤ 1000000; rw [mk_size]; have := HCP.out.len; omega)
      clear hok b_e n_e
      go_enter Tryd.func26, Tryd.ntmps26
      go_wp2_with (first|go_skip|((with_reducible refine' lc HM ?qw rfl ?qx ?qm ?qa ?qv ?_);(case qw|qx|qa=>rfl);(case qm=>repeat constructor);(case qv=>rfl))|((with_reducible refine' la HM ?qw rfl ?qx ?qm ?qa ?_);(case qw|qx=>rfl);(case qm=>repeat constructor);(case qa=>rfl))|((with_reducible refine' pa HM ?qw rfl ?qx _ ?qy ?qm ?qa ?_);(case qw|qx|qy=>rfl);(case qm=>repeat constructor);(case qa=>rfl);clear HM;intro _ HM)|((with_reducible refine' bz HM ?qw rfl ?qa ?qc ?_);(case qw|qa|qc=>rfl);clear HM;intro _ _ HM)|((with_reducible refine' bn HM ?qw rfl _ ?qx ?_);(case qw|qx=>rfl);clear HM;intro _ _ HM)|(go_at_call 23; (first | ((with_reducible refine (get_some HM.out ?hS HI.out.wk HC.out HL.out HQ.out HLQ.out).mono ?_); (case hS => first | exact fun _ h => h | exact fun _ h => h.2 | exact fun _ h => h.1 | exact fun _ h => h.1.2 | exact fun _ h => h.1.1 | exact fun _ h => h.1.1.2 | exact fun _ h => h.1.1.1)) | ((with_reducible refine (get_some HM.out ?hS HI.out.wk HC.out HL.out HP.out HLP.out).mono ?_); (case hS => first | exact fun _ h => h | exact fun _ h => h.2 | exact fun _ h => h.1 | exact fun _ h => h.1.2 | exact fun _ h => h.1.1 | exact fun _ h => h.1.1.2 | exact fun _ h => h.1.1.1))); rintro e _ ⟨rfl, hM⟩; clear HM;have HM:=Aside0.mk hM;clear hM)|(go_at_call 51; (refine (HPAR.out _ _ _ HM.out ?hS).mono ?_); (case hS => first | exact fun _ h => h | exact fun _ h => h.2 | exact fun _ h => h.1 | exact fun _ h => h.1.2 | exact fun _ h => h.1.1 | exact fun _ h => h.1.1.2 | exact fun _ h => h.1.1.1); rintro e _ ⟨A1, c1, rfl, hc1, hM⟩; have HC1 := Aside0.mk hc1; clear hc1; clear HM; have HM := Aside0.mk hM; clear hM)|((with_reducible refine' load_part (ty := 42) HM.out ?hw rfl ?hx ?hm agg42 _ (node_of _) rfl ?_); (case hw => rfl); (case hx => rfl); (case hm => first | exact m0 | exact m1 | exact m2 | exact m3 | exact m4))|((with_reducible refine' build_row rfl rfl _ _ _ ?hx ?hy ?hz ?_); (case hx => rfl); (case hy => rfl); (case hz => rfl))|(go_at_call 52; (refine (put_M HM.out ?hS HI1.out.wk HC1.out HL1.out HR.out).mono ?_); (case hS => first | exact fun _ h => h | exact fun _ h => h.2 | exact fun _ h => h.1 | exact fun _ h => h.1.2 | exact fun _ h => h.1.1 | exact fun _ h => h.1.1.2 | exact fun _ h => h.1.1.1); rintro e _ ⟨A2, c2, rfl, hc2, hM⟩; have HC2 := Aside0.mk hc2; clear hc2; clear HM; have HM := Aside0.mk hM; clear hM))
      refine bodyPost_ret (ret_ct HM.out rfl rfl (by first | exact m0 | exact m1 | exact m2 | exact m3 | exact m4) (by exact agg35)) rfl ?_
      exact ⟨_, rfl, V_end HM.out HC2.out, HM.out.below⟩
theorem link_M {w0 W : World} {P : Nat → Prop} {B : List Bx} {S : World → Prop} {A : Option Addr} {c : Nat} {l : List S44} {n : Int} (HM : Mem w0 P W B S) (hS : ∀ w, S w → Tr A l w) (hI : Inv l n) (hc : l.length ≤ c) (hl : l.length ≤ 800000) (hn : n ≤ 800000) {ps qs : Pth} (hp : ps = [] ∨ Cl ps) (hq : Gd qs) :
    Calls Tryd.prog 26 #[.agg #[.slice A l.length c, .int .i64 n], .string (mkS (joinS ps)), .string (mkS (joinS qs))] W fun e w' => ∃ A' c', e = .returned (.tuple #[.agg #[.slice A' (linkP l n ps qs).1.length c', .int .i64 (linkP l n ps qs).2.1], .int .i64 (linkP l n ps qs).2.2]) ∧
      (linkP l n ps qs).1.length ≤ c' ∧ Mem w0 P w' B (fun w => S w ∧ Tr A' (linkP l n ps qs).1 w) := by
  refine (link_walk _ A c l n ps qs W (to_V HM hS hc) hI hl hn hp hq).mono ?_
  rintro e w' ⟨v0, rfl, hV, hb⟩
  obtain ⟨A', c', rfl, h1, h2⟩ := of_V HM hb hV
  exact ⟨A', c', rfl, h1, h2⟩
theorem linkP_ok {l : List S44} {n : Int} (h : Inv l n) {ps qs : Pth} (hc : ps = [] ∨ Cl ps) : Inv (linkP l n ps qs).1 (linkP l n ps qs).2.1 ∧ n ≤ (linkP l n ps qs).2.1 ∧ (linkP l n ps qs).2.1 ≤ n + 151 ∧ (linkP l n ps qs).1.length ≤ l.length + 151 := by
  unfold linkP
  rcases hc with rfl | hc
  · rw [if_pos rfl]; exact ⟨h, Int.le_refl _, by simp; omega, by simp⟩
  rw [if_neg hc.ne]
  cases hr : lookR l qs with
  | none => exact ⟨h, Int.le_refl _, by simp; omega, by simp⟩
  | some r =>
    simp only
    by_cases h1 : r.f2.f0 = 1
    · rw [if_pos h1]
      by_cases h2 : dirAt l ps
      · rw [if_pos h2]; exact ⟨h, Int.le_refl _, by simp; omega, by simp⟩
      rw [if_neg h2]
      have ok := parP_ok h ps.length ps (Nat.le_refl _) (pref_cl hc)
      have hlen := hc.length
      generalize parP l n ps.length ps = q at ok
      have hn := ok.next
      have hl := ok.len
      by_cases e0 : q.2.2 = 0
      · rw [if_pos e0]
        have epp := pp_row hc r.f1 r.f2
        have hr1 := ok.old _ _ hr
        refine ⟨?_, by simp; omega, by simp; omega, by have := len_ins_le (l := q.1) (rowOf ps r.f1 r.f2); simp only; omega⟩
        refine ok.inv.ins _ (by rw [epp]; exact hc) (by rw [epp]; rfl) (by rw [epp]; exact ok.all e0) ?_ (ok.inv.ids r (look_mem hr1).1) ?_ (.inl h1) (ok.inv.made r (look_mem hr1).1) (ok.inv.size r (look_mem hr1).1)
        · rw [epp]
          intro o ho
          have e4 : o.f2.f0 ≠ 4 := fun e => by
            rcases ok.new _ _ ho with h3 | ⟨_, h3, _⟩
            · exact h2 ⟨o, h3, e⟩
            · exact pref_ne h3 rfl
          exact ⟨fun e => absurd e e4, fun e => by have e' : r.f2.f0 = 4 := e; omega⟩
        · intro s hs _ e
          have := ok.inv.same s hs r (look_mem hr1).1 e
          exact ⟨this.1, h1⟩
      · rw [if_neg e0]; exact ⟨h, Int.le_refl _, by simp; omega, by simp⟩
    · rw [if_neg h1]; exact ⟨h, Int.le_refl _, by simp; omega, by simp⟩
end Go.Proofs.YtolpamojbiipaaaDoor.XA
