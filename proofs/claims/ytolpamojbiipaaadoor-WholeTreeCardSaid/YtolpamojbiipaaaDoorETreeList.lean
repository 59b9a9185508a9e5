/- tree.Sub and tree.List, walked by hand over Mem. Printed by wip/tools/gen_list.py. -/
import Derived.Test.YtolpamojbiipaaaDoorETreeCut
import Derived.Test.YtolpamojbiipaaaDoorEMemRows
namespace Go.Proofs.YtolpamojbiipaaaDoor.XA
open Go.RowKit Go.Proofs.YtolpamojbiipaaaDoorW.PrintWords Go.Proofs.YtolpamojbiipaaaDoorW.PrintLast Go.Proofs.YtolpamojbiipaaaDoorW.PrintMore Go.Proofs.YtolpamojbiipaaaDoor.Mem Go.Proofs.YtolpamojbiipaaaDoor.Pure
set_option linter.unusedVariables false
set_option linter.unusedSimpArgs false

def subL (ps : Pth) (l : List S44) : List S44 := l.filter (fun r => !(r.f0.toList == (mkS (joinS ps)).toList) && underS (joinS ps) r.f0.data.toList)
variable {w0 W : World} {P : Nat → Prop} {B : List Bx} {S : World → Prop}
set_option maxHeartbeats 8000000 in
set_option maxRecDepth 100000 in
theorem sub_M {A : Option Addr} {c : Nat} {l : List S44} {n : Int} {ps : Pth} (hM : Mem w0 P W B S) (hS : ∀ w, S w → Tr A l w) (hI : Inv l n) (hc : l.length ≤ c) (hl : l.length ≤ 900000) (hp : Gd ps) (hd : ps = [] ∨ ∃ r, lookR l ps = some r ∧ r.f2.f0 = 4) :
    Calls Tryd.prog 60 #[.agg #[.slice A l.length c, .int .i64 n], .string (mkS (joinS ps))] W fun e w' => ∃ v X, e = .returned (.tuple #[v, .int .i64 0]) ∧ OwnB 44 13 v (subL ps l).length (cellsL (subL ps l)) X ∧ Mem w0 P w' (B ++ X) S := by
  have HM := Aside0.mk hM
  have HS := Aside0.mk hS
  have HI := Aside0.mk hI
  have HC := Aside0.mk hc
  have HL := Aside0.mk hl
  have HP := Aside0.mk hp
  have HU := Aside0.mk (show (joinS ps).length ≤ 1000000 by have := hp.len; omega)
  clear hM hS hI hc hl
  by_cases h0 : ps = []
  · have b0 : ((mkS (joinS ps)).toList == ([] : List UInt8)) = true := by subst h0; exact beq_iff_eq.2 (mk_toList _)
    have b1 : (mkS (joinS ps)).toList.isEmpty = true := by subst h0; exact List.isEmpty_iff.2 (mk_toList _)
    clear hd hp h0
    cases hlq : lookR l ps with
    | none =>
      have HLQ := Aside0.mk hlq
      clear hlq
      go_enter Tryd.func60, Tryd.ntmps60
      go_wp2_with (first|go_skip|((with_reducible refine gate_dst (N := 2) rfl ?_);(with_reducible refine' bn HM ?qw rfl _ ?qx ?_);(case qw|qx=>rfl);clear HM;intro g2 _ HM)|((with_reducible refine gate_dst (N := 6) rfl ?_);(with_reducible refine' bz HM ?qw rfl ?qa ?qc ?_);(case qw|qa|qc=>rfl);clear HM;intro g6 _ HM)|((with_reducible refine' lc HM ?qw rfl ?qx ?qm ?qa ?qv ?_);(case qw|qx|qa=>rfl);(case qm=>repeat constructor);(case qv=>rfl))|((with_reducible refine' la HM ?qw rfl ?qx ?qm ?qa ?_);(case qw|qx=>rfl);(case qm=>repeat constructor);(case qa=>rfl))|((with_reducible refine' pa HM ?qw rfl ?qx _ ?qy ?qm ?qa ?_);(case qw|qx|qy=>rfl);(case qm=>repeat constructor);(case qa=>rfl);clear HM;intro _ HM)|((with_reducible refine' pc HM ?qw rfl ?qx ?qa ?qy ?qm ?qo ?qi ?_);(case qw|qx|qa=>rfl);(case qy=>first|exact (rfl:_=Value.int _ _)|exact (rfl:_=Value.slice _ _ _)|exact (rfl:_=Value.string _)|exact (rfl:_=Value.bool _));(case qm=>repeat constructor);(case qo=>exact ⟨rfl,rfl⟩);(case qi=>rfl);clear HM;intro _ HM;try simp only [List.set_cons_zero,List.set_cons_succ] at HM)|(go_at_call 23; (refine (get_none HM.out HS.out HI.out.wk HC.out HL.out HP.out HLQ.out).mono ?_); rintro e _ ⟨rfl, hM⟩; clear HM;have HM:=Aside0.mk hM;clear hM))
      go_loopw [33, 8] (fun v33 v8 wr => ∃ (i : Nat) (v : Value) (X : List Bx), v33 = .int .i64 i ∧ v8 = v ∧ Aside0 (i ≤ l.length) ∧ Aside0 (OwnB 44 13 v (subL ps (l.take i)).length (cellsL (subL ps (l.take i))) X) ∧ Aside0 (Mem w0 P wr ((g6, rowL z44, 44) :: (g2, [.slice A l.length c, .int .i64 n], 35) :: (B ++ X)) S)) (fun v33 _ _ => l.length - (intOf v33).toNat)
      case atStart => exact ⟨0, _, [], rfl, rfl, ⟨Nat.zero_le _⟩, ⟨OwnB.nil _ _⟩, by rw [List.append_nil]; exact HM⟩
      case round =>
        clear HM
        obtain ⟨i, v, X, rfl, rfl, HIX, HOW, HM⟩ := hrel
        have hib : (i : Int) ≤ 900000 := by have := HIX.out; have := HL.out; omega
        have hlz0 : (l.length : Int) ≤ 900000 := by have := HL.out; omega
        by_cases hlt : i < l.length
        · have hsx : subL ps (l.take (i + 1)) = subL ps (l.take i) ++ (if (!(l[i].f0.toList == (mkS (joinS ps)).toList) && underS (joinS ps) l[i].f0.data.toList) = true then [l[i]] else []) := by
            unfold subL
            exact filter_next (fun r => !(r.f0.toList == (mkS (joinS ps)).toList) && underS (joinS ps) r.f0.data.toList) l i hlt
          have HLO := Aside0.mk (show (subL ps (l.take i)).length ≤ 900000 by have := List.length_filter_le (fun r => !(r.f0.toList == (mkS (joinS ps)).toList) && underS (joinS ps) r.f0.data.toList) (l.take i); unfold subL; rw [List.length_take] at this; have := HL.out; omega)
          have HCY := Aside0.mk (HI.out.clean _ (List.getElem_mem hlt)).2
          have hlz : (i : Int) < (l.length : Int) := by omega
          obtain ⟨ad, ea, hx0, hx1, hx2, hx3, hx4, hx5, hx6, hx7, hx8, hx9, hx10, hx11, hx12⟩ := at_T44 (HS.out _ HM.out.now) (i : Int) (by omega) (by omega)
          have hrd : rd_T44 l (i : Int) = l[i] := by unfold rd_T44; rw [Int.toNat_natCast, List.getD_eq_getElem?_getD, List.getElem?_eq_getElem hlt]; rfl
          rw [Int.toNat_natCast, hrd] at hx0 hx1 hx2 hx3 hx4 hx5 hx6 hx7 hx8 hx9 hx11 hx12
          rw [Int.toNat_natCast] at hx10
          generalize l[i] = y at hx0 hx1 hx2 hx3 hx4 hx5 hx6 hx7 hx8 hx9 hx11 hx12 hsx HCY
          clear hrd
          subst ea
          obtain ⟨b, hb⟩ : ∃ b, (y.f0.toList == (mkS (joinS ps)).toList) = b := ⟨_, rfl⟩
          have hb2 : (y.f0.toList != (mkS (joinS ps)).toList) = !b := by rw [← hb]; rfl
          obtain ⟨u, hu⟩ : ∃ u, underS (joinS ps) y.f0.data.toList = u := ⟨_, rfl⟩
          rw [hb, hu] at hsx
          have HSX := Aside0.mk hsx
          clear hsx
          have HUM : Aside0 (∀ (W : World) (B : List Bx) (S : World → Prop), Mem w0 P W B S → Calls Tryd.prog 59 #[.string (mkS (joinS ps)), .string y.f0] W fun e w' => e = .returned (.bool u) ∧ Mem w0 P w' B S) := ⟨fun W B S hM => by
            have h := und_call (a := joinS ps) (b := joinS (pp y)) HU.out hM
            rw [← HCY.out] at h
            have e : joinS (pp y) = y.f0.data.toList := by conv => rhs; rw [HCY.out, mkS_data]
            rw [e, hu] at h
            exact h⟩
          go_upto_region 11 with (first|go_skip|((with_reducible refine gate_dst (N := 10) rfl ?_);(with_reducible refine' bz HM ?qw rfl ?qa ?qc ?_);(case qw|qa|qc=>rfl);clear HM;intro g10 _ HM)|((with_reducible refine' lc HM ?qw rfl ?qx ?qm ?qa ?qv ?_);(case qw|qx|qa=>rfl);(case qm=>repeat constructor);(case qv=>rfl))|((with_reducible refine' la HM ?qw rfl ?qx ?qm ?qa ?_);(case qw|qx=>rfl);(case qm=>repeat constructor);(case qa=>rfl))|((with_reducible refine' pa HM ?qw rfl ?qx _ ?qy ?qm ?qa ?_);(case qw|qx|qy=>rfl);(case qm=>repeat constructor);(case qa=>rfl);clear HM;intro _ HM)|((with_reducible refine' pc HM ?qw rfl ?qx ?qa ?qy ?qm ?qo ?qi ?_);(case qw|qx|qa=>rfl);(case qy=>first|exact (rfl:_=Value.int _ _)|exact (rfl:_=Value.slice _ _ _)|exact (rfl:_=Value.string _)|exact (rfl:_=Value.bool _));(case qm=>repeat constructor);(case qo=>exact ⟨rfl,rfl⟩);(case qi=>rfl);clear HM;intro _ HM;try simp only [List.set_cons_zero,List.set_cons_succ] at HM))
          clear hx0 hx1 hx2 hx3 hx4 hx5 hx6 hx7 hx8 hx9 hx10 hx11 hx12
          have hrow : ∀ (q : S44), [Value.string q.f0, .int .i64 q.f1, .int .i64 q.f2.f0, .int .i64 q.f2.f1, .int .i64 q.f2.f2, .int .i64 q.f2.f3, .int .i64 q.f2.f4, .string q.f2.f5, .string q.f2.f6, .string q.f2.f7, .slice none 0 0, .int .i64 q.f2.f8.f1, .bool q.f2.f9] = rowL q := fun _ => rfl
          rw [hrow] at HM
          clear hrow
          obtain ⟨Av, cv, rfl⟩ := HOW.out.slice
          cases b with
          | true =>
            go_wp2_with (first|go_skip|((with_reducible refine' lc HM ?qw rfl ?qx ?qm ?qa ?qv ?_);(case qw|qx|qa=>rfl);(case qm=>repeat constructor);(case qv=>rfl))|((with_reducible refine' la HM ?qw rfl ?qx ?qm ?qa ?_);(case qw|qx=>rfl);(case qm=>repeat constructor);(case qa=>rfl))|((with_reducible refine' pa HM ?qw rfl ?qx _ ?qy ?qm ?qa ?_);(case qw|qx|qy=>rfl);(case qm=>repeat constructor);(case qa=>rfl);clear HM;intro _ HM)|((with_reducible refine' pc HM ?qw rfl ?qx ?qa ?qy ?qm ?qo ?qi ?_);(case qw|qx|qa=>rfl);(case qy=>first|exact (rfl:_=Value.int _ _)|exact (rfl:_=Value.slice _ _ _)|exact (rfl:_=Value.string _)|exact (rfl:_=Value.bool _));(case qm=>repeat constructor);(case qo=>exact ⟨rfl,rfl⟩);(case qi=>rfl);clear HM;intro _ HM;try simp only [List.set_cons_zero,List.set_cons_succ] at HM)|((with_reducible refine' bz HM ?qw rfl ?qa ?qc ?_);(case qw|qa|qc=>rfl);clear HM;intro _ _ HM))
            go_roundw
            case rel => exact ⟨i + 1, _, X, by go_num, rfl, ⟨by omega⟩, ⟨by rw [HSX.out]; simpa using HOW.out⟩, ⟨HM.out.drop⟩⟩
            case measure => simp [intOf]; omega
          | false =>
            cases u with
            | false =>
              go_wp2_with (first|go_skip|((with_reducible refine' lc HM ?qw rfl ?qx ?qm ?qa ?qv ?_);(case qw|qx|qa=>rfl);(case qm=>repeat constructor);(case qv=>rfl))|((with_reducible refine' la HM ?qw rfl ?qx ?qm ?qa ?_);(case qw|qx=>rfl);(case qm=>repeat constructor);(case qa=>rfl))|((with_reducible refine' pa HM ?qw rfl ?qx _ ?qy ?qm ?qa ?_);(case qw|qx|qy=>rfl);(case qm=>repeat constructor);(case qa=>rfl);clear HM;intro _ HM)|((with_reducible refine' pc HM ?qw rfl ?qx ?qa ?qy ?qm ?qo ?qi ?_);(case qw|qx|qa=>rfl);(case qy=>first|exact (rfl:_=Value.int _ _)|exact (rfl:_=Value.slice _ _ _)|exact (rfl:_=Value.string _)|exact (rfl:_=Value.bool _));(case qm=>repeat constructor);(case qo=>exact ⟨rfl,rfl⟩);(case qi=>rfl);clear HM;intro _ HM;try simp only [List.set_cons_zero,List.set_cons_succ] at HM)|((with_reducible refine' bz HM ?qw rfl ?qa ?qc ?_);(case qw|qa|qc=>rfl);clear HM;intro _ _ HM)|(go_at_call 59; refine (HUM.out _ _ _ HM.out).mono ?_; rintro e _ ⟨rfl, hM⟩; clear HM;have HM:=Aside0.mk hM;clear hM))
              go_roundw
              case rel => exact ⟨i + 1, _, X, by go_num, rfl, ⟨by omega⟩, ⟨by rw [HSX.out]; simpa using HOW.out⟩, ⟨HM.out.drop⟩⟩
              case measure => simp [intOf]; omega
            | true =>
              go_wp2_with (first|go_skip|((with_reducible refine' lc HM ?qw rfl ?qx ?qm ?qa ?qv ?_);(case qw|qx|qa=>rfl);(case qm=>repeat constructor);(case qv=>rfl))|((with_reducible refine' la HM ?qw rfl ?qx ?qm ?qa ?_);(case qw|qx=>rfl);(case qm=>repeat constructor);(case qa=>rfl))|((with_reducible refine' pa HM ?qw rfl ?qx _ ?qy ?qm ?qa ?_);(case qw|qx|qy=>rfl);(case qm=>repeat constructor);(case qa=>rfl);clear HM;intro _ HM)|((with_reducible refine' pc HM ?qw rfl ?qx ?qa ?qy ?qm ?qo ?qi ?_);(case qw|qx|qa=>rfl);(case qy=>first|exact (rfl:_=Value.int _ _)|exact (rfl:_=Value.slice _ _ _)|exact (rfl:_=Value.string _)|exact (rfl:_=Value.bool _));(case qm=>repeat constructor);(case qo=>exact ⟨rfl,rfl⟩);(case qi=>rfl);clear HM;intro _ HM;try simp only [List.set_cons_zero,List.set_cons_succ] at HM)|((with_reducible refine' bz HM ?qw rfl ?qa ?qc ?_);(case qw|qa|qc=>rfl);clear HM;intro _ _ HM)|(go_at_call 59; refine (HUM.out _ _ _ HM.out).mono ?_; rintro e _ ⟨rfl, hM⟩; clear HM;have HM:=Aside0.mk hM;clear hM)|((with_reducible refine' bsG HM rfl rfl ?qx (fun w=>run_bs44 w y) ?_);(case qx=>rfl);clear HM;intro _ _ HM)|((with_reducible refine gate_builtin (b:=.append) rfl ?_);go_loud (refine' addG (cs:=rowL y) under33 inf44 rfl (by decide) (by decide) ((g10, rowL y, 44) :: (g6, rowL z44, 44) :: (g2, [.slice (some ad) l.length c, .int .i64 n], 35) :: B) HM HOW rfl (rowL_one y) rfl rfl ?qs ?qx ?qn ?_;(case qs|qx=>rfl);(case qn=>exact HLO.out);clear HM;clear HOW;intro vN XN _ HOW HM;have hM:=HM.out;simp only [List.cons_append,List.nil_append] at hM;clear HM;have HM:=Aside0.mk hM;clear hM)))
              have HOW2 : Aside0 (OwnB 44 13 vN (subL ps (l.take (i + 1))).length (cellsL (subL ps (l.take (i + 1)))) XN) := ⟨by
                rw [HSX.out, cellsL_append, List.length_append]
                have e : cellsL [y] = rowL y := by unfold cellsL; simp [rowC, rowL]
                simpa [e] using HOW.out⟩
              go_roundw
              case rel => exact ⟨i + 1, _, XN, by go_num, rfl, ⟨by omega⟩, HOW2, ⟨HM.out.drop.drop⟩⟩
              case measure => simp [intOf]; omega
        · have hil : i = l.length := by have := HIX.out; omega
          have hlz : ¬ ((i : Int) < (l.length : Int)) := by omega
          obtain ⟨Av, cv, rfl⟩ := HOW.out.slice
          have HOW2 : Aside0 (∃ v, v = Value.slice Av (subL ps (l.take i)).length cv ∧ OwnB 44 13 v (subL ps l).length (cellsL (subL ps l)) X) := ⟨_, rfl, by have := HOW.out; rw [hil, List.take_length] at this ⊢; exact this⟩
          clear hil HOW
          go_wp2_with (first|go_skip|((with_reducible refine' lc HM ?qw rfl ?qx ?qm ?qa ?qv ?_);(case qw|qx|qa=>rfl);(case qm=>repeat constructor);(case qv=>rfl))|((with_reducible refine' la HM ?qw rfl ?qx ?qm ?qa ?_);(case qw|qx=>rfl);(case qm=>repeat constructor);(case qa=>rfl))|((with_reducible refine' pa HM ?qw rfl ?qx _ ?qy ?qm ?qa ?_);(case qw|qx|qy=>rfl);(case qm=>repeat constructor);(case qa=>rfl);clear HM;intro _ HM)|((with_reducible refine' pc HM ?qw rfl ?qx ?qa ?qy ?qm ?qo ?qi ?_);(case qw|qx|qa=>rfl);(case qy=>first|exact (rfl:_=Value.int _ _)|exact (rfl:_=Value.slice _ _ _)|exact (rfl:_=Value.string _)|exact (rfl:_=Value.bool _));(case qm=>repeat constructor);(case qo=>exact ⟨rfl,rfl⟩);(case qi=>rfl);clear HM;intro _ HM;try simp only [List.set_cons_zero,List.set_cons_succ] at HM)|((with_reducible refine' bz HM ?qw rfl ?qa ?qc ?_);(case qw|qa|qc=>rfl);clear HM;intro _ _ HM))
          go_ret2
          obtain ⟨v, hv, hO⟩ := HOW2.out
          subst hv
          exact ⟨_, rfl, X, hO, HM.out.drop.drop⟩
    | some r =>
      have HLQ := Aside0.mk hlq
      clear hlq
      go_enter Tryd.func60, Tryd.ntmps60
      go_wp2_with (first|go_skip|((with_reducible refine gate_dst (N := 2) rfl ?_);(with_reducible refine' bn HM ?qw rfl _ ?qx ?_);(case qw|qx=>rfl);clear HM;intro g2 _ HM)|((with_reducible refine gate_dst (N := 6) rfl ?_);(with_reducible refine' bz HM ?qw rfl ?qa ?qc ?_);(case qw|qa|qc=>rfl);clear HM;intro g6 _ HM)|((with_reducible refine' lc HM ?qw rfl ?qx ?qm ?qa ?qv ?_);(case qw|qx|qa=>rfl);(case qm=>repeat constructor);(case qv=>rfl))|((with_reducible refine' la HM ?qw rfl ?qx ?qm ?qa ?_);(case qw|qx=>rfl);(case qm=>repeat constructor);(case qa=>rfl))|((with_reducible refine' pa HM ?qw rfl ?qx _ ?qy ?qm ?qa ?_);(case qw|qx|qy=>rfl);(case qm=>repeat constructor);(case qa=>rfl);clear HM;intro _ HM)|((with_reducible refine' pc HM ?qw rfl ?qx ?qa ?qy ?qm ?qo ?qi ?_);(case qw|qx|qa=>rfl);(case qy=>first|exact (rfl:_=Value.int _ _)|exact (rfl:_=Value.slice _ _ _)|exact (rfl:_=Value.string _)|exact (rfl:_=Value.bool _));(case qm=>repeat constructor);(case qo=>exact ⟨rfl,rfl⟩);(case qi=>rfl);clear HM;intro _ HM;try simp only [List.set_cons_zero,List.set_cons_succ] at HM)|(go_at_call 23; (refine (get_some HM.out HS.out HI.out.wk HC.out HL.out HP.out HLQ.out).mono ?_); rintro e _ ⟨rfl, hM⟩; clear HM;have HM:=Aside0.mk hM;clear hM))
      go_loopw [33, 8] (fun v33 v8 wr => ∃ (i : Nat) (v : Value) (X : List Bx), v33 = .int .i64 i ∧ v8 = v ∧ Aside0 (i ≤ l.length) ∧ Aside0 (OwnB 44 13 v (subL ps (l.take i)).length (cellsL (subL ps (l.take i))) X) ∧ Aside0 (Mem w0 P wr ((g6, rowL r, 44) :: (g2, [.slice A l.length c, .int .i64 n], 35) :: (B ++ X)) S)) (fun v33 _ _ => l.length - (intOf v33).toNat)
      case atStart => exact ⟨0, _, [], rfl, rfl, ⟨Nat.zero_le _⟩, ⟨OwnB.nil _ _⟩, by rw [List.append_nil]; exact HM⟩
      case round =>
        clear HM
        obtain ⟨i, v, X, rfl, rfl, HIX, HOW, HM⟩ := hrel
        have hib : (i : Int) ≤ 900000 := by have := HIX.out; have := HL.out; omega
        have hlz0 : (l.length : Int) ≤ 900000 := by have := HL.out; omega
        by_cases hlt : i < l.length
        · have hsx : subL ps (l.take (i + 1)) = subL ps (l.take i) ++ (if (!(l[i].f0.toList == (mkS (joinS ps)).toList) && underS (joinS ps) l[i].f0.data.toList) = true then [l[i]] else []) := by
            unfold subL
            exact filter_next (fun r => !(r.f0.toList == (mkS (joinS ps)).toList) && underS (joinS ps) r.f0.data.toList) l i hlt
          have HLO := Aside0.mk (show (subL ps (l.take i)).length ≤ 900000 by have := List.length_filter_le (fun r => !(r.f0.toList == (mkS (joinS ps)).toList) && underS (joinS ps) r.f0.data.toList) (l.take i); unfold subL; rw [List.length_take] at this; have := HL.out; omega)
          have HCY := Aside0.mk (HI.out.clean _ (List.getElem_mem hlt)).2
          have hlz : (i : Int) < (l.length : Int) := by omega
          obtain ⟨ad, ea, hx0, hx1, hx2, hx3, hx4, hx5, hx6, hx7, hx8, hx9, hx10, hx11, hx12⟩ := at_T44 (HS.out _ HM.out.now) (i : Int) (by omega) (by omega)
          have hrd : rd_T44 l (i : Int) = l[i] := by unfold rd_T44; rw [Int.toNat_natCast, List.getD_eq_getElem?_getD, List.getElem?_eq_getElem hlt]; rfl
          rw [Int.toNat_natCast, hrd] at hx0 hx1 hx2 hx3 hx4 hx5 hx6 hx7 hx8 hx9 hx11 hx12
          rw [Int.toNat_natCast] at hx10
          generalize l[i] = y at hx0 hx1 hx2 hx3 hx4 hx5 hx6 hx7 hx8 hx9 hx11 hx12 hsx HCY
          clear hrd
          subst ea
          obtain ⟨b, hb⟩ : ∃ b, (y.f0.toList == (mkS (joinS ps)).toList) = b := ⟨_, rfl⟩
          have hb2 : (y.f0.toList != (mkS (joinS ps)).toList) = !b := by rw [← hb]; rfl
          obtain ⟨u, hu⟩ : ∃ u, underS (joinS ps) y.f0.data.toList = u := ⟨_, rfl⟩
          rw [hb, hu] at hsx
          have HSX := Aside0.mk hsx
          clear hsx
          have HUM : Aside0 (∀ (W : World) (B : List Bx) (S : World → Prop), Mem w0 P W B S → Calls Tryd.prog 59 #[.string (mkS (joinS ps)), .string y.f0] W fun e w' => e = .returned (.bool u) ∧ Mem w0 P w' B S) := ⟨fun W B S hM => by
            have h := und_call (a := joinS ps) (b := joinS (pp y)) HU.out hM
            rw [← HCY.out] at h
            have e : joinS (pp y) = y.f0.data.toList := by conv => rhs; rw [HCY.out, mkS_data]
            rw [e, hu] at h
            exact h⟩
          go_upto_region 11 with (first|go_skip|((with_reducible refine gate_dst (N := 10) rfl ?_);(with_reducible refine' bz HM ?qw rfl ?qa ?qc ?_);(case qw|qa|qc=>rfl);clear HM;intro g10 _ HM)|((with_reducible refine' lc HM ?qw rfl ?qx ?qm ?qa ?qv ?_);(case qw|qx|qa=>rfl);(case qm=>repeat constructor);(case qv=>rfl))|((with_reducible refine' la HM ?qw rfl ?qx ?qm ?qa ?_);(case qw|qx=>rfl);(case qm=>repeat constructor);(case qa=>rfl))|((with_reducible refine' pa HM ?qw rfl ?qx _ ?qy ?qm ?qa ?_);(case qw|qx|qy=>rfl);(case qm=>repeat constructor);(case qa=>rfl);clear HM;intro _ HM)|((with_reducible refine' pc HM ?qw rfl ?qx ?qa ?qy ?qm ?qo ?qi ?_);(case qw|qx|qa=>rfl);(case qy=>first|exact (rfl:_=Value.int _ _)|exact (rfl:_=Value.slice _ _ _)|exact (rfl:_=Value.string _)|exact (rfl:_=Value.bool _));(case qm=>repeat constructor);(case qo=>exact ⟨rfl,rfl⟩);(case qi=>rfl);clear HM;intro _ HM;try simp only [List.set_cons_zero,List.set_cons_succ] at HM))
          clear hx0 hx1 hx2 hx3 hx4 hx5 hx6 hx7 hx8 hx9 hx10 hx11 hx12
          have hrow : ∀ (q : S44), [Value.string q.f0, .int .i64 q.f1, .int .i64 q.f2.f0, .int .i64 q.f2.f1, .int .i64 q.f2.f2, .int .i64 q.f2.f3, .int .i64 q.f2.f4, .string q.f2.f5, .string q.f2.f6, .string q.f2.f7, .slice none 0 0, .int .i64 q.f2.f8.f1, .bool q.f2.f9] = rowL q := fun _ => rfl
          rw [hrow] at HM
          clear hrow
          obtain ⟨Av, cv, rfl⟩ := HOW.out.slice
          cases b with
          | true =>
            go_wp2_with (first|go_skip|((with_reducible refine' lc HM ?qw rfl ?qx ?qm ?qa ?qv ?_);(case qw|qx|qa=>rfl);(case qm=>repeat constructor);(case qv=>rfl))|((with_reducible refine' la HM ?qw rfl ?qx ?qm ?qa ?_);(case qw|qx=>rfl);(case qm=>repeat constructor);(case qa=>rfl))|((with_reducible refine' pa HM ?qw rfl ?qx _ ?qy ?qm ?qa ?_);(case qw|qx|qy=>rfl);(case qm=>repeat constructor);(case qa=>rfl);clear HM;intro _ HM)|((with_reducible refine' pc HM ?qw rfl ?qx ?qa ?qy ?qm ?qo ?qi ?_);(case qw|qx|qa=>rfl);(case qy=>first|exact (rfl:_=Value.int _ _)|exact (rfl:_=Value.slice _ _ _)|exact (rfl:_=Value.string _)|exact (rfl:_=Value.bool _));(case qm=>repeat constructor);(case qo=>exact ⟨rfl,rfl⟩);(case qi=>rfl);clear HM;intro _ HM;try simp only [List.set_cons_zero,List.set_cons_succ] at HM)|((with_reducible refine' bz HM ?qw rfl ?qa ?qc ?_);(case qw|qa|qc=>rfl);clear HM;intro _ _ HM))
            go_roundw
            case rel => exact ⟨i + 1, _, X, by go_num, rfl, ⟨by omega⟩, ⟨by rw [HSX.out]; simpa using HOW.out⟩, ⟨HM.out.drop⟩⟩
            case measure => simp [intOf]; omega
          | false =>
            cases u with
            | false =>
              go_wp2_with (first|go_skip|((with_reducible refine' lc HM ?qw rfl ?qx ?qm ?qa ?qv ?_);(case qw|qx|qa=>rfl);(case qm=>repeat constructor);(case qv=>rfl))|((with_reducible refine' la HM ?qw rfl ?qx ?qm ?qa ?_);(case qw|qx=>rfl);(case qm=>repeat constructor);(case qa=>rfl))|((with_reducible refine' pa HM ?qw rfl ?qx _ ?qy ?qm ?qa ?_);(case qw|qx|qy=>rfl);(case qm=>repeat constructor);(case qa=>rfl);clear HM;intro _ HM)|((with_reducible refine' pc HM ?qw rfl ?qx ?qa ?qy ?qm ?qo ?qi ?_);(case qw|qx|qa=>rfl);(case qy=>first|exact (rfl:_=Value.int _ _)|exact (rfl:_=Value.slice _ _ _)|exact (rfl:_=Value.string _)|exact (rfl:_=Value.bool _));(case qm=>repeat constructor);(case qo=>exact ⟨rfl,rfl⟩);(case qi=>rfl);clear HM;intro _ HM;try simp only [List.set_cons_zero,List.set_cons_succ] at HM)|((with_reducible refine' bz HM ?qw rfl ?qa ?qc ?_);(case qw|qa|qc=>rfl);clear HM;intro _ _ HM)|(go_at_call 59; refine (HUM.out _ _ _ HM.out).mono ?_; rintro e _ ⟨rfl, hM⟩; clear HM;have HM:=Aside0.mk hM;clear hM))
              go_roundw
              case rel => exact ⟨i + 1, _, X, by go_num, rfl, ⟨by omega⟩, ⟨by rw [HSX.out]; simpa using HOW.out⟩, ⟨HM.out.drop⟩⟩
              case measure => simp [intOf]; omega
            | true =>
              go_wp2_with (first|go_skip|((with_reducible refine' lc HM ?qw rfl ?qx ?qm ?qa ?qv ?_);(case qw|qx|qa=>rfl);(case qm=>repeat constructor);(case qv=>rfl))|((with_reducible refine' la HM ?qw rfl ?qx ?qm ?qa ?_);(case qw|qx=>rfl);(case qm=>repeat constructor);(case qa=>rfl))|((with_reducible refine' pa HM ?qw rfl ?qx _ ?qy ?qm ?qa ?_);(case qw|qx|qy=>rfl);(case qm=>repeat constructor);(case qa=>rfl);clear HM;intro _ HM)|((with_reducible refine' pc HM ?qw rfl ?qx ?qa ?qy ?qm ?qo ?qi ?_);(case qw|qx|qa=>rfl);(case qy=>first|exact (rfl:_=Value.int _ _)|exact (rfl:_=Value.slice _ _ _)|exact (rfl:_=Value.string _)|exact (rfl:_=Value.bool _));(case qm=>repeat constructor);(case qo=>exact ⟨rfl,rfl⟩);(case qi=>rfl);clear HM;intro _ HM;try simp only [List.set_cons_zero,List.set_cons_succ] at HM)|((with_reducible refine' bz HM ?qw rfl ?qa ?qc ?_);(case qw|qa|qc=>rfl);clear HM;intro _ _ HM)|(go_at_call 59; refine (HUM.out _ _ _ HM.out).mono ?_; rintro e _ ⟨rfl, hM⟩; clear HM;have HM:=Aside0.mk hM;clear hM)|((with_reducible refine' bsG HM rfl rfl ?qx (fun w=>run_bs44 w y) ?_);(case qx=>rfl);clear HM;intro _ _ HM)|((with_reducible refine gate_builtin (b:=.append) rfl ?_);go_loud (refine' addG (cs:=rowL y) under33 inf44 rfl (by decide) (by decide) ((g10, rowL y, 44) :: (g6, rowL r, 44) :: (g2, [.slice (some ad) l.length c, .int .i64 n], 35) :: B) HM HOW rfl (rowL_one y) rfl rfl ?qs ?qx ?qn ?_;(case qs|qx=>rfl);(case qn=>exact HLO.out);clear HM;clear HOW;intro vN XN _ HOW HM;have hM:=HM.out;simp only [List.cons_append,List.nil_append] at hM;clear HM;have HM:=Aside0.mk hM;clear hM)))
              have HOW2 : Aside0 (OwnB 44 13 vN (subL ps (l.take (i + 1))).length (cellsL (subL ps (l.take (i + 1)))) XN) := ⟨by
                rw [HSX.out, cellsL_append, List.length_append]
                have e : cellsL [y] = rowL y := by unfold cellsL; simp [rowC, rowL]
                simpa [e] using HOW.out⟩
              go_roundw
              case rel => exact ⟨i + 1, _, XN, by go_num, rfl, ⟨by omega⟩, HOW2, ⟨HM.out.drop.drop⟩⟩
              case measure => simp [intOf]; omega
        · have hil : i = l.length := by have := HIX.out; omega
          have hlz : ¬ ((i : Int) < (l.length : Int)) := by omega
          obtain ⟨Av, cv, rfl⟩ := HOW.out.slice
          have HOW2 : Aside0 (∃ v, v = Value.slice Av (subL ps (l.take i)).length cv ∧ OwnB 44 13 v (subL ps l).length (cellsL (subL ps l)) X) := ⟨_, rfl, by have := HOW.out; rw [hil, List.take_length] at this ⊢; exact this⟩
          clear hil HOW
          go_wp2_with (first|go_skip|((with_reducible refine' lc HM ?qw rfl ?qx ?qm ?qa ?qv ?_);(case qw|qx|qa=>rfl);(case qm=>repeat constructor);(case qv=>rfl))|((with_reducible refine' la HM ?qw rfl ?qx ?qm ?qa ?_);(case qw|qx=>rfl);(case qm=>repeat constructor);(case qa=>rfl))|((with_reducible refine' pa HM ?qw rfl ?qx _ ?qy ?qm ?qa ?_);(case qw|qx|qy=>rfl);(case qm=>repeat constructor);(case qa=>rfl);clear HM;intro _ HM)|((with_reducible refine' pc HM ?qw rfl ?qx ?qa ?qy ?qm ?qo ?qi ?_);(case qw|qx|qa=>rfl);(case qy=>first|exact (rfl:_=Value.int _ _)|exact (rfl:_=Value.slice _ _ _)|exact (rfl:_=Value.string _)|exact (rfl:_=Value.bool _));(case qm=>repeat constructor);(case qo=>exact ⟨rfl,rfl⟩);(case qi=>rfl);clear HM;intro _ HM;try simp only [List.set_cons_zero,List.set_cons_succ] at HM)|((with_reducible refine' bz HM ?qw rfl ?qa ?qc ?_);(case qw|qa|qc=>rfl);clear HM;intro _ _ HM))
          go_ret2
          obtain ⟨v, hv, hO⟩ := HOW2.out
          subst hv
          exact ⟨_, rfl, X, hO, HM.out.drop.drop⟩
  · obtain ⟨r, hlq, hk⟩ := hd.resolve_left h0
    have hne : (mkS (joinS ps)).toList ≠ [] := by rw [mk_toList]; exact join_ne hp.good h0
    have b0 : ((mkS (joinS ps)).toList == ([] : List UInt8)) = false := beq_eq_false_iff_ne.2 hne
    have b1 : (mkS (joinS ps)).toList.isEmpty = false := List.isEmpty_eq_false_iff.2 hne
    have k1 : (r.f2.f0 != 4) = false := bne_eq_false_iff_eq.2 hk
    have HLQ := Aside0.mk hlq
    clear hd hp h0 hne hk hlq
    go_enter Tryd.func60, Tryd.ntmps60
    go_wp2_with (first|go_skip|((with_reducible refine gate_dst (N := 2) rfl ?_);(with_reducible refine' bn HM ?qw rfl _ ?qx ?_);(case qw|qx=>rfl);clear HM;intro g2 _ HM)|((with_reducible refine gate_dst (N := 6) rfl ?_);(with_reducible refine' bz HM ?qw rfl ?qa ?qc ?_);(case qw|qa|qc=>rfl);clear HM;intro g6 _ HM)|((with_reducible refine' lc HM ?qw rfl ?qx ?qm ?qa ?qv ?_);(case qw|qx|qa=>rfl);(case qm=>repeat constructor);(case qv=>rfl))|((with_reducible refine' la HM ?qw rfl ?qx ?qm ?qa ?_);(case qw|qx=>rfl);(case qm=>repeat constructor);(case qa=>rfl))|((with_reducible refine' pa HM ?qw rfl ?qx _ ?qy ?qm ?qa ?_);(case qw|qx|qy=>rfl);(case qm=>repeat constructor);(case qa=>rfl);clear HM;intro _ HM)|((with_reducible refine' pc HM ?qw rfl ?qx ?qa ?qy ?qm ?qo ?qi ?_);(case qw|qx|qa=>rfl);(case qy=>first|exact (rfl:_=Value.int _ _)|exact (rfl:_=Value.slice _ _ _)|exact (rfl:_=Value.string _)|exact (rfl:_=Value.bool _));(case qm=>repeat constructor);(case qo=>exact ⟨rfl,rfl⟩);(case qi=>rfl);clear HM;intro _ HM;try simp only [List.set_cons_zero,List.set_cons_succ] at HM)|(go_at_call 23; (refine (get_some HM.out HS.out HI.out.wk HC.out HL.out HP.out HLQ.out).mono ?_); rintro e _ ⟨rfl, hM⟩; clear HM;have HM:=Aside0.mk hM;clear hM))
    go_loopw [33, 8] (fun v33 v8 wr => ∃ (i : Nat) (v : Value) (X : List Bx), v33 = .int .i64 i ∧ v8 = v ∧ Aside0 (i ≤ l.length) ∧ Aside0 (OwnB 44 13 v (subL ps (l.take i)).length (cellsL (subL ps (l.take i))) X) ∧ Aside0 (Mem w0 P wr ((g6, rowL r, 44) :: (g2, [.slice A l.length c, .int .i64 n], 35) :: (B ++ X)) S)) (fun v33 _ _ => l.length - (intOf v33).toNat)
    case atStart => exact ⟨0, _, [], rfl, rfl, ⟨Nat.zero_le _⟩, ⟨OwnB.nil _ _⟩, by rw [List.append_nil]; exact HM⟩
    case round =>
      clear HM
      obtain ⟨i, v, X, rfl, rfl, HIX, HOW, HM⟩ := hrel
      have hib : (i : Int) ≤ 900000 := by have := HIX.out; have := HL.out; omega
      have hlz0 : (l.length : Int) ≤ 900000 := by have := HL.out; omega
      by_cases hlt : i < l.length
      · have hsx : subL ps (l.take (i + 1)) = subL ps (l.take i) ++ (if (!(l[i].f0.toList == (mkS (joinS ps)).toList) && underS (joinS ps) l[i].f0.data.toList) = true then [l[i]] else []) := by
          unfold subL
          exact filter_next (fun r => !(r.f0.toList == (mkS (joinS ps)).toList) && underS (joinS ps) r.f0.data.toList) l i hlt
        have HLO := Aside0.mk (show (subL ps (l.take i)).length ≤ 900000 by have := List.length_filter_le (fun r => !(r.f0.toList == (mkS (joinS ps)).toList) && underS (joinS ps) r.f0.data.toList) (l.take i); unfold subL; rw [List.length_take] at this; have := HL.out; omega)
        have HCY := Aside0.mk (HI.out.clean _ (List.getElem_mem hlt)).2
        have hlz : (i : Int) < (l.length : Int) := by omega
        obtain ⟨ad, ea, hx0, hx1, hx2, hx3, hx4, hx5, hx6, hx7, hx8, hx9, hx10, hx11, hx12⟩ := at_T44 (HS.out _ HM.out.now) (i : Int) (by omega) (by omega)
        have hrd : rd_T44 l (i : Int) = l[i] := by unfold rd_T44; rw [Int.toNat_natCast, List.getD_eq_getElem?_getD, List.getElem?_eq_getElem hlt]; rfl
        rw [Int.toNat_natCast, hrd] at hx0 hx1 hx2 hx3 hx4 hx5 hx6 hx7 hx8 hx9 hx11 hx12
        rw [Int.toNat_natCast] at hx10
        generalize l[i] = y at hx0 hx1 hx2 hx3 hx4 hx5 hx6 hx7 hx8 hx9 hx11 hx12 hsx HCY
        clear hrd
        subst ea
        obtain ⟨b, hb⟩ : ∃ b, (y.f0.toList == (mkS (joinS ps)).toList) = b := ⟨_, rfl⟩
        have hb2 : (y.f0.toList != (mkS (joinS ps)).toList) = !b := by rw [← hb]; rfl
        obtain ⟨u, hu⟩ : ∃ u, underS (joinS ps) y.f0.data.toList = u := ⟨_, rfl⟩
        rw [hb, hu] at hsx
        have HSX := Aside0.mk hsx
        clear hsx
        have HUM : Aside0 (∀ (W : World) (B : List Bx) (S : World → Prop), Mem w0 P W B S → Calls Tryd.prog 59 #[.string (mkS (joinS ps)), .string y.f0] W fun e w' => e = .returned (.bool u) ∧ Mem w0 P w' B S) := ⟨fun W B S hM => by
          have h := und_call (a := joinS ps) (b := joinS (pp y)) HU.out hM
          rw [← HCY.out] at h
          have e : joinS (pp y) = y.f0.data.toList := by conv => rhs; rw [HCY.out, mkS_data]
          rw [e, hu] at h
          exact h⟩
        go_upto_region 11 with (first|go_skip|((with_reducible refine gate_dst (N := 10) rfl ?_);(with_reducible refine' bz HM ?qw rfl ?qa ?qc ?_);(case qw|qa|qc=>rfl);clear HM;intro g10 _ HM)|((with_reducible refine' lc HM ?qw rfl ?qx ?qm ?qa ?qv ?_);(case qw|qx|qa=>rfl);(case qm=>repeat constructor);(case qv=>rfl))|((with_reducible refine' la HM ?qw rfl ?qx ?qm ?qa ?_);(case qw|qx=>rfl);(case qm=>repeat constructor);(case qa=>rfl))|((with_reducible refine' pa HM ?qw rfl ?qx _ ?qy ?qm ?qa ?_);(case qw|qx|qy=>rfl);(case qm=>repeat constructor);(case qa=>rfl);clear HM;intro _ HM)|((with_reducible refine' pc HM ?qw rfl ?qx ?qa ?qy ?qm ?qo ?qi ?_);(case qw|qx|qa=>rfl);(case qy=>first|exact (rfl:_=Value.int _ _)|exact (rfl:_=Value.slice _ _ _)|exact (rfl:_=Value.string _)|exact (rfl:_=Value.bool _));(case qm=>repeat constructor);(case qo=>exact ⟨rfl,rfl⟩);(case qi=>rfl);clear HM;intro _ HM;try simp only [List.set_cons_zero,List.set_cons_succ] at HM))
        clear hx0 hx1 hx2 hx3 hx4 hx5 hx6 hx7 hx8 hx9 hx10 hx11 hx12
        have hrow : ∀ (q : S44), [Value.string q.f0, .int .i64 q.f1, .int .i64 q.f2.f0, .int .i64 q.f2.f1, .int .i64 q.f2.f2, .int .i64 q.f2.f3, .int .i64 q.f2.f4, .string q.f2.f5, .string q.f2.f6, .string q.f2.f7, .slice none 0 0, .int .i64 q.f2.f8.f1, .bool q.f2.f9] = rowL q := fun _ => rfl
        rw [hrow] at HM
        clear hrow
        obtain ⟨Av, cv, rfl⟩ := HOW.out.slice
        cases b with
        | true =>
          go_wp2_with (first|go_skip|((with_reducible refine' lc HM ?qw rfl ?qx ?qm ?qa ?qv ?_);(case qw|qx|qa=>rfl);(case qm=>repeat constructor);(case qv=>rfl))|((with_reducible refine' la HM ?qw rfl ?qx ?qm ?qa ?_);(case qw|qx=>rfl);(case qm=>repeat constructor);(case qa=>rfl))|((with_reducible refine' pa HM ?qw rfl ?qx _ ?qy ?qm ?qa ?_);(case qw|qx|qy=>rfl);(case qm=>repeat constructor);(case qa=>rfl);clear HM;intro _ HM)|((with_reducible refine' pc HM ?qw rfl ?qx ?qa ?qy ?qm ?qo ?qi ?_);(case qw|qx|qa=>rfl);(case qy=>first|exact (rfl:_=Value.int _ _)|exact (rfl:_=Value.slice _ _ _)|exact (rfl:_=Value.string _)|exact (rfl:_=Value.bool _));(case qm=>repeat constructor);(case qo=>exact ⟨rfl,rfl⟩);(case qi=>rfl);clear HM;intro _ HM;try simp only [List.set_cons_zero,List.set_cons_succ] at HM)|((with_reducible refine' bz HM ?qw rfl ?qa ?qc ?_);(case qw|qa|qc=>rfl);clear HM;intro _ _ HM))
          go_roundw
          case rel => exact ⟨i + 1, _, X, by go_num, rfl, ⟨by omega⟩, ⟨by rw [HSX.out]; simpa using HOW.out⟩, ⟨HM.out.drop⟩⟩
          case measure => simp [intOf]; omega
        | false =>
          cases u with
          | false =>
            go_wp2_with (first|go_skip|((with_reducible refine' lc HM ?qw rfl ?qx ?qm ?qa ?qv ?_);(case qw|qx|qa=>rfl);(case qm=>repeat constructor);(case qv=>rfl))|((with_reducible refine' la HM ?qw rfl ?qx ?qm ?qa ?_);(case qw|qx=>rfl);(case qm=>repeat constructor);(case qa=>rfl))|((with_reducible refine' pa HM ?qw rfl ?qx _ ?qy ?qm ?qa ?_);(case qw|qx|qy=>rfl);(case qm=>repeat constructor);(case qa=>rfl);clear HM;intro _ HM)|((with_reducible refine' pc HM ?qw rfl ?qx ?qa ?qy ?qm ?qo ?qi ?_);(case qw|qx|qa=>rfl);(case qy=>first|exact (rfl:_=Value.int _ _)|exact (rfl:_=Value.slice _ _ _)|exact (rfl:_=Value.string _)|exact (rfl:_=Value.bool _));(case qm=>repeat constructor);(case qo=>exact ⟨rfl,rfl⟩);(case qi=>rfl);clear HM;intro _ HM;try simp only [List.set_cons_zero,List.set_cons_succ] at HM)|((with_reducible refine' bz HM ?qw rfl ?qa ?qc ?_);(case qw|qa|qc=>rfl);clear HM;intro _ _ HM)|(go_at_call 59; refine (HUM.out _ _ _ HM.out).mono ?_; rintro e _ ⟨rfl, hM⟩; clear HM;have HM:=Aside0.mk hM;clear hM))
            go_roundw
            case rel => exact ⟨i + 1, _, X, by go_num, rfl, ⟨by omega⟩, ⟨by rw [HSX.out]; simpa using HOW.out⟩, ⟨HM.out.drop⟩⟩
            case measure => simp [intOf]; omega
          | true =>
            go_wp2_with (first|go_skip|((with_reducible refine' lc HM ?qw rfl ?qx ?qm ?qa ?qv ?_);(case qw|qx|qa=>rfl);(case qm=>repeat constructor);(case qv=>rfl))|((with_reducible refine' la HM ?qw rfl ?qx ?qm ?qa ?_);(case qw|qx=>rfl);(case qm=>repeat constructor);(case qa=>rfl))|((with_reducible refine' pa HM ?qw rfl ?qx _ ?qy ?qm ?qa ?_);(case qw|qx|qy=>rfl);(case qm=>repeat constructor);(case qa=>rfl);clear HM;intro _ HM)|((with_reducible refine' pc HM ?qw rfl ?qx ?qa ?qy ?qm ?qo ?qi ?_);(case qw|qx|qa=>rfl);(case qy=>first|exact (rfl:_=Value.int _ _)|exact (rfl:_=Value.slice _ _ _)|exact (rfl:_=Value.string _)|exact (rfl:_=Value.bool _));(case qm=>repeat constructor);(case qo=>exact ⟨rfl,rfl⟩);(case qi=>rfl);clear HM;intro _ HM;try simp only [List.set_cons_zero,List.set_cons_succ] at HM)|((with_reducible refine' bz HM ?qw rfl ?qa ?qc ?_);(case qw|qa|qc=>rfl);clear HM;intro _ _ HM)|(go_at_call 59; refine (HUM.out _ _ _ HM.out).mono ?_; rintro e _ ⟨rfl, hM⟩; clear HM;have HM:=Aside0.mk hM;clear hM)|((with_reducible refine' bsG HM rfl rfl ?qx (fun w=>run_bs44 w y) ?_);(case qx=>rfl);clear HM;intro _ _ HM)|((with_reducible refine gate_builtin (b:=.append) rfl ?_);go_loud (refine' addG (cs:=rowL y) under33 inf44 rfl (by decide) (by decide) ((g10, rowL y, 44) :: (g6, rowL r, 44) :: (g2, [.slice (some ad) l.length c, .int .i64 n], 35) :: B) HM HOW rfl (rowL_one y) rfl rfl ?qs ?qx ?qn ?_;(case qs|qx=>rfl);(case qn=>exact HLO.out);clear HM;clear HOW;intro vN XN _ HOW HM;have hM:=HM.out;simp only [List.cons_append,List.nil_append] at hM;clear HM;have HM:=Aside0.mk hM;clear hM)))
            have HOW2 : Aside0 (OwnB 44 13 vN (subL ps (l.take (i + 1))).length (cellsL (subL ps (l.take (i + 1)))) XN) := ⟨by
              rw [HSX.out, cellsL_append, List.length_append]
              have e : cellsL [y] = rowL y := by unfold cellsL; simp [rowC, rowL]
              simpa [e] using HOW.out⟩
            go_roundw
            case rel => exact ⟨i + 1, _, XN, by go_num, rfl, ⟨by omega⟩, HOW2, ⟨HM.out.drop.drop⟩⟩
            case measure => simp [intOf]; omega
      · have hil : i = l.length := by have := HIX.out; omega
        have hlz : ¬ ((i : Int) < (l.length : Int)) := by omega
        obtain ⟨Av, cv, rfl⟩ := HOW.out.slice
        have HOW2 : Aside0 (∃ v, v = Value.slice Av (subL ps (l.take i)).length cv ∧ OwnB 44 13 v (subL ps l).length (cellsL (subL ps l)) X) := ⟨_, rfl, by have := HOW.out; rw [hil, List.take_length] at this ⊢; exact this⟩
        clear hil HOW
        go_wp2_with (first|go_skip|((with_reducible refine' lc HM ?qw rfl ?qx ?qm ?qa ?qv ?_);(case qw|qx|qa=>rfl);(case qm=>repeat constructor);(case qv=>rfl))|((with_reducible refine' la HM ?qw rfl ?qx ?qm ?qa ?_);(case qw|qx=>rfl);(case qm=>repeat constructor);(case qa=>rfl))|((with_reducible refine' pa HM ?qw rfl ?qx _ ?qy ?qm ?qa ?_);(case qw|qx|qy=>rfl);(case qm=>repeat constructor);(case qa=>rfl);clear HM;intro _ HM)|((with_reducible refine' pc HM ?qw rfl ?qx ?qa ?qy ?qm ?qo ?qi ?_);(case qw|qx|qa=>rfl);(case qy=>first|exact (rfl:_=Value.int _ _)|exact (rfl:_=Value.slice _ _ _)|exact (rfl:_=Value.string _)|exact (rfl:_=Value.bool _));(case qm=>repeat constructor);(case qo=>exact ⟨rfl,rfl⟩);(case qi=>rfl);clear HM;intro _ HM;try simp only [List.set_cons_zero,List.set_cons_succ] at HM)|((with_reducible refine' bz HM ?qw rfl ?qa ?qc ?_);(case qw|qa|qc=>rfl);clear HM;intro _ _ HM))
        go_ret2
        obtain ⟨v, hv, hO⟩ := HOW2.out
        subst hv
        exact ⟨_, rfl, X, hO, HM.out.drop.drop⟩
theorem enters61 : ∀ args w, (callFunc 61 args).run Tryd.prog w = .ok (.enter 61 args) w := Go.Proofs.enters_of Tryd.func61 (by kernel_rfl) rfl
theorem up_M {a : List UInt8} (ha : a.length ≤ 1000000) (HM : Mem w0 P W B S) : Calls Tryd.prog 40 #[.string (mkS a)] W fun e w' => e = .returned (.tuple #[.string (mkS (Pure.upS a)), .bool (decide (a ≠ []))]) ∧ Mem w0 P w' B S := by
  refine (up_calls a ha W).mono ?_
  rintro e w' ⟨rfl, hd⟩
  exact ⟨rfl, HM.call hd.below⟩
/-- Does a row not lie in a directory itself? -/
def notIn (ps : Pth) (r : S44) : Bool := (mkS (Pure.upS r.f0.data.toList)).toList != (mkS (joinS ps)).toList
set_option maxHeartbeats 4000000 in
set_option maxRecDepth 100000 in
theorem notin_M {l : List S44} {n : Int} {s : Pth} {gs : Nat} {r : S44} (hI : Inv l n) (hr : r ∈ l) (hm : Has gs [.string (mkS (joinS s))] 9 B) (hM : Mem w0 P W B S) :
    Calls Tryd.prog 61 (#[.agg (rowL r).toArray] ++ #[.pointer (some ⟨gs, 0, none⟩)]) W fun e w' => e = .returned (.bool (notIn s r)) ∧ Mem w0 P w' B S := by
  have hc := hI.clean r hr
  have hf := hc.2
  have HM := Aside0.mk hM
  have HH := Aside0.mk hm
  have HU := Aside0.mk (show (joinS (pp r)).length ≤ 1000000 by have := hc.1.len; omega)
  have e : r.f0.data.toList = joinS (pp r) := by conv => lhs; rw [hf, mkS_data]
  unfold notIn
  rw [e]
  generalize joinS (pp r) = b at hf HU ⊢
  obtain ⟨r0, r1, r2⟩ := r
  simp only at hf
  subst hf
  clear hM hm hr hI e hc
  show Calls Tryd.prog 61 #[.agg (rowL ⟨mkS b, r1, r2⟩).toArray, .pointer (some ⟨gs, 0, none⟩)] W _
  go_enter Tryd.func61, Tryd.ntmps61
  go_wp2_with (first|go_skip|((with_reducible refine gate_dst (N := 2) rfl ?_);(with_reducible refine' bn HM ?qw rfl _ ?qx ?_);(case qw|qx=>rfl);clear HM;intro g2 _ HM)|((with_reducible refine' lc HM ?qw rfl ?qx ?qm ?qa ?qv ?_);(case qw|qx|qa=>rfl);(case qm=>first|exact .t HH.out|(repeat constructor));(case qv=>rfl))|(go_at_call 40; (refine (up_M HU.out HM.out).mono ?_); rintro e _ ⟨rfl, hM⟩; clear HM;have HM:=Aside0.mk hM;clear hM))
  go_ret
  exact ⟨rfl, HM.out.drop⟩
def listL (ps : Pth) (l : List S44) : List S44 := (subL ps l).filter (fun r => !(notIn ps r))
set_option maxHeartbeats 8000000 in
set_option maxRecDepth 100000 in
theorem list_M {A : Option Addr} {c : Nat} {l : List S44} {n : Int} {ps : Pth} (hM : Mem w0 P W B S) (hS : ∀ w, S w → Tr A l w) (hI : Inv l n) (hc : l.length ≤ c) (hl : l.length ≤ 900000) (hp : Gd ps) (hd : ps = [] ∨ ∃ r, lookR l ps = some r ∧ r.f2.f0 = 4) :
    Calls Tryd.prog 39 #[.agg #[.slice A l.length c, .int .i64 n], .string (mkS (joinS ps))] W fun e w' => ∃ A' c', e = .returned (.tuple #[.slice A' (listL ps l).length c', .int .i64 0]) ∧ (listL ps l).length ≤ c' ∧ Mem w0 P w' B (fun w => S w ∧ Tr A' (listL ps l) w) := by
  have HM := Aside0.mk hM
  have HS := Aside0.mk hS
  have HI := Aside0.mk hI
  have HC := Aside0.mk hc
  have HL := Aside0.mk hl
  have HP := Aside0.mk hp
  have HD := Aside0.mk hd
  have hsl : (subL ps l).length ≤ 900000 := Nat.le_trans (List.length_filter_le _ _) hl
  have HSL := Aside0.mk hsl
  clear hM hS hI hc hl hp hsl
  rcases hd with rfl | ⟨r, hlq, hk⟩
  · cases hlq : lookR l [] with
    | none =>
      have HLQ := Aside0.mk hlq
      clear hlq
      go_enter Tryd.func39, Tryd.ntmps39
      go_wp2_with (first|go_skip|((with_reducible refine gate_dst (N := 3) rfl ?_);(with_reducible refine' bx1 HM ?qw rfl ?qx ?qv ?_);(case qw|qx=>rfl);(case qv=>rfl);clear HM;intro g3 _ HM)|((with_reducible refine gate_dst (N := 2) rfl ?_);(with_reducible refine' bn HM ?qw rfl _ ?qx ?_);(case qw|qx=>rfl);clear HM;intro g2 _ HM)|((with_reducible refine gate_dst (N := 6) rfl ?_);(with_reducible refine' bz HM ?qw rfl ?qa ?qc ?_);(case qw|qa|qc=>rfl);clear HM;intro g6 _ HM)|((with_reducible refine' lc HM ?qw rfl ?qx ?qm ?qa ?qv ?_);(case qw|qx|qa=>rfl);(case qm=>repeat constructor);(case qv=>rfl))|((with_reducible refine' la HM ?qw rfl ?qx ?qm ?qa ?_);(case qw|qx=>rfl);(case qm=>repeat constructor);(case qa=>rfl))|((with_reducible refine' pa HM ?qw rfl ?qx _ ?qy ?qm ?qa ?_);(case qw|qx|qy=>rfl);(case qm=>repeat constructor);(case qa=>rfl);clear HM;intro _ HM)|((with_reducible refine' pc HM ?qw rfl ?qx ?qa ?qy ?qm ?qo ?qi ?_);(case qw|qx|qa=>rfl);(case qy=>first|exact (rfl:_=Value.int _ _)|exact (rfl:_=Value.slice _ _ _)|exact (rfl:_=Value.string _)|exact (rfl:_=Value.bool _));(case qm=>repeat constructor);(case qo=>exact ⟨rfl,rfl⟩);(case qi=>rfl);clear HM;intro _ HM;try simp only [List.set_cons_zero,List.set_cons_succ] at HM)|(go_at_call 23; (refine (get_none HM.out HS.out HI.out.wk HC.out HL.out HP.out HLQ.out).mono ?_); rintro e _ ⟨rfl, hM⟩; clear HM;have HM:=Aside0.mk hM;clear hM)|(go_at_call 60; go_loud (refine (sub_M HM.out HS.out HI.out HC.out HL.out HP.out (.inl rfl)).mono ?_); rintro e _ ⟨v, X, rfl, hO, hM⟩; obtain ⟨Ao, co, rfl⟩ := hO.slice; simp only [List.cons_append, List.nil_append] at hM; have HOW := Aside0.mk hO; clear hO; clear HM;have HM:=Aside0.mk hM;clear hM)|(go_at_call 57; go_loud (refine (delf_M (HM.out.perm (List.perm_append_comm (l₁ := (g6, rowL z44, 44) :: (g3, [.string (mkS (joinS []))], 9) :: (g2, [.slice A l.length c, .int .i64 n], 35) :: B) (l₂ := X))) HOW.out HSL.out enters61 (pr := notIn []) (fun W C hM r hr => notin_M (s := []) (gs := g3) HI.out (List.mem_filter.1 hr).1 (Has.app _ (by repeat constructor)) hM)).mono ?_); rintro e _ ⟨A1, c1, X1, rfl, hO, hM⟩; have hM := hM.perm List.perm_append_comm; simp only [List.cons_append, List.nil_append] at hM; have HOC := Aside0.mk hO; clear hO; clear HM;have HM:=Aside0.mk hM;clear hM))
      go_ret2
      obtain ⟨A3, c3, hv, hc3, hM3⟩ := hand (B := _ :: _ :: _ :: B) (by simpa only [List.cons_append] using HM.out) HOC.out
      injection hv with e1 e2 e3
      subst e1 e3
      exact ⟨_, _, rfl, hc3, hM3.drop.drop.drop⟩
    | some r =>
      have := look_mem hlq
      exact absurd this.2 (HI.out.clean r this.1).1.ne
  · have HLQ := Aside0.mk hlq
    have k1 : (r.f2.f0 != 4) = false := bne_eq_false_iff_eq.2 hk
    clear hlq hk
    go_enter Tryd.func39, Tryd.ntmps39
    go_wp2_with (first|go_skip|((with_reducible refine gate_dst (N := 3) rfl ?_);(with_reducible refine' bx1 HM ?qw rfl ?qx ?qv ?_);(case qw|qx=>rfl);(case qv=>rfl);clear HM;intro g3 _ HM)|((with_reducible refine gate_dst (N := 2) rfl ?_);(with_reducible refine' bn HM ?qw rfl _ ?qx ?_);(case qw|qx=>rfl);clear HM;intro g2 _ HM)|((with_reducible refine gate_dst (N := 6) rfl ?_);(with_reducible refine' bz HM ?qw rfl ?qa ?qc ?_);(case qw|qa|qc=>rfl);clear HM;intro g6 _ HM)|((with_reducible refine' lc HM ?qw rfl ?qx ?qm ?qa ?qv ?_);(case qw|qx|qa=>rfl);(case qm=>repeat constructor);(case qv=>rfl))|((with_reducible refine' la HM ?qw rfl ?qx ?qm ?qa ?_);(case qw|qx=>rfl);(case qm=>repeat constructor);(case qa=>rfl))|((with_reducible refine' pa HM ?qw rfl ?qx _ ?qy ?qm ?qa ?_);(case qw|qx|qy=>rfl);(case qm=>repeat constructor);(case qa=>rfl);clear HM;intro _ HM)|((with_reducible refine' pc HM ?qw rfl ?qx ?qa ?qy ?qm ?qo ?qi ?_);(case qw|qx|qa=>rfl);(case qy=>first|exact (rfl:_=Value.int _ _)|exact (rfl:_=Value.slice _ _ _)|exact (rfl:_=Value.string _)|exact (rfl:_=Value.bool _));(case qm=>repeat constructor);(case qo=>exact ⟨rfl,rfl⟩);(case qi=>rfl);clear HM;intro _ HM;try simp only [List.set_cons_zero,List.set_cons_succ] at HM)|(go_at_call 23; (refine (get_some HM.out HS.out HI.out.wk HC.out HL.out HP.out HLQ.out).mono ?_); rintro e _ ⟨rfl, hM⟩; clear HM;have HM:=Aside0.mk hM;clear hM)|(go_at_call 60; go_loud (refine (sub_M HM.out HS.out HI.out HC.out HL.out HP.out HD.out).mono ?_); rintro e _ ⟨v, X, rfl, hO, hM⟩; obtain ⟨Ao, co, rfl⟩ := hO.slice; simp only [List.cons_append, List.nil_append] at hM; have HOW := Aside0.mk hO; clear hO; clear HM;have HM:=Aside0.mk hM;clear hM)|(go_at_call 57; go_loud (refine (delf_M (HM.out.perm (List.perm_append_comm (l₁ := (g6, rowL r, 44) :: (g3, [.string (mkS (joinS ps))], 9) :: (g2, [.slice A l.length c, .int .i64 n], 35) :: B) (l₂ := X))) HOW.out HSL.out enters61 (pr := notIn ps) (fun W C hM r hr => notin_M (s := ps) (gs := g3) HI.out (List.mem_filter.1 hr).1 (Has.app _ (by repeat constructor)) hM)).mono ?_); rintro e _ ⟨A1, c1, X1, rfl, hO, hM⟩; have hM := hM.perm List.perm_append_comm; simp only [List.cons_append, List.nil_append] at hM; have HOC := Aside0.mk hO; clear hO; clear HM;have HM:=Aside0.mk hM;clear hM))
    go_ret2
    obtain ⟨A3, c3, hv, hc3, hM3⟩ := hand (B := _ :: _ :: _ :: B) (by simpa only [List.cons_append] using HM.out) HOC.out
    injection hv with e1 e2 e3
    subst e1 e3
    exact ⟨_, _, rfl, hc3, hM3.drop.drop.drop⟩
end Go.Proofs.YtolpamojbiipaaaDoor.XA
