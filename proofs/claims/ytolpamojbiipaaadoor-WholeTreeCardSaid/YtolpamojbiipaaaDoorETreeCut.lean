/- tree.Cut and its closure, walked by hand over Mem. Printed by wip/tools/gen_cut.py. -/
import Derived.Test.YtolpamojbiipaaaDoorEDelFunc
import Derived.Test.YtolpamojbiipaaaDoorEMemRel
import Derived.Test.YtolpamojbiipaaaDoorUCuts
import Derived.Shelf.Abstract
namespace Go.Proofs.YtolpamojbiipaaaDoor.XA
open Go.RowKit Go.Proofs.YtolpamojbiipaaaDoorW.PrintWords Go.Proofs.YtolpamojbiipaaaDoorW.PrintLast Go.Proofs.YtolpamojbiipaaaDoorW.PrintMore Go.Proofs.YtolpamojbiipaaaDoor.Mem Go.Proofs.YtolpamojbiipaaaDoor.Pure
set_option linter.unusedVariables false
set_option linter.unusedSimpArgs false

theorem bx1 {w0 W : World} {P : Nat → Prop} {B : List Bx} {S : World → Prop} {ops : Array Oper} {rest : List Oper} {o : Oper} {a : Act} {Q : Exit → Act → World → Prop} {x : Operand} {ty : TypeId} {v : Value} (HM : Aside0 (Mem w0 P W B S)) (hw : Region.wanted o (yielded ops a.tmps) = true) (ho : o.op = .box ty x) (hx : a.eval x = v) (h1 : v.cells = #[v])
    (h : ∀ g W1, Aside0 (Mem w0 P W1 ((g, [v], ty) :: B) S) → wpList Tryd.prog ops Q rest (a.put o.dst (.pointer (some ⟨g, 0, none⟩))) W1) : wpList Tryd.prog ops Q (o :: rest) a W := box_one HM.out hw ho hx h1 (fun g W1 hM => h g W1 ⟨hM⟩)
theorem enters58 : ∀ args w, (callFunc 58 args).run Tryd.prog w = .ok (.enter 58 args) w := Go.Proofs.enters_of Tryd.func58 (by kernel_rfl) rfl
variable {w0 W : World} {P : Nat → Prop} {B : List Bx} {S : World → Prop}
theorem und_call {a b : List UInt8} (ha : a.length ≤ 1000000) (HM : Mem w0 P W B S) : Calls Tryd.prog 59 #[.string (mkS a), .string (mkS b)] W fun e w' => e = .returned (.bool (underS a b)) ∧ Mem w0 P w' B S := by
  refine (path_Under.calls (mkS a) (mkS b) _ W (under_f (by omega))).mono ?_
  rintro e w' ⟨rfl, hd⟩
  exact ⟨rfl, HM.call hd.below⟩
set_option maxHeartbeats 4000000 in
set_option maxRecDepth 100000 in
theorem und_M {l : List S44} {n : Int} {s : Pth} {gs : Nat} {r : S44} (hI : Inv l n) (hr : r ∈ l) (hs : Gd s) (hm : Has gs [.string (mkS (joinS s))] 9 B) (hM : Mem w0 P W B S) :
    Calls Tryd.prog 58 (#[.agg (rowL r).toArray] ++ #[.pointer (some ⟨gs, 0, none⟩)]) W fun e w' => e = .returned (.bool (underS (joinS s) r.f0.data.toList)) ∧ Mem w0 P w' B S := by
  have hf := (hI.clean r hr).2
  have e : r.f0.data.toList = joinS (pp r) := by rw [hf, mkS_data]
  rw [e]
  have HM := Aside0.mk hM
  have HH := Aside0.mk hm
  have HU := Aside0.mk (show (joinS s).length ≤ 1000000 by have := hs.len; omega)
  generalize joinS (pp r) = b at hf ⊢
  obtain ⟨r0, r1, r2⟩ := r
  simp only at hf
  subst hf
  clear hM hm hs hr hI e
  show Calls Tryd.prog 58 #[.agg (rowL ⟨mkS b, r1, r2⟩).toArray, .pointer (some ⟨gs, 0, none⟩)] W _
  go_enter Tryd.func58, Tryd.ntmps58
  go_wp2_with (first|go_skip|((with_reducible refine gate_dst (N := 2) rfl ?_);(with_reducible refine' bn HM ?qw rfl _ ?qx ?_);(case qw|qx=>rfl);clear HM;intro g2 _ HM)|((with_reducible refine' lc HM ?qw rfl ?qx ?qm ?qa ?qv ?_);(case qw|qx|qa=>rfl);(case qm=>first|exact .t HH.out|(repeat constructor));(case qv=>rfl))|(go_at_call 59; (refine (und_call HU.out HM.out).mono ?_); rintro e _ ⟨rfl, hM⟩; clear HM;have HM:=Aside0.mk hM;clear hM))
  go_ret
  exact ⟨rfl, HM.out.drop⟩
def cutP (l : List S44) (ps : Pth) : List S44 × Int := if lookR l ps = none ∧ ps ≠ [] then (l, 4) else (cutL ps l, 0)
set_option maxHeartbeats 8000000 in
set_option maxRecDepth 100000 in
theorem cut_M {A : Option Addr} {c : Nat} {l : List S44} {n : Int} {ps : Pth} (hM : Mem w0 P W B S) (hS : ∀ w, S w → Tr A l w) (hI : Inv l n) (hc : l.length ≤ c) (hl : l.length ≤ 900000) (hp : Gd ps) :
    Calls Tryd.prog 37 #[.agg #[.slice A l.length c, .int .i64 n], .string (mkS (joinS ps))] W fun e w' => ∃ A' c', e = .returned (.tuple #[.agg #[.slice A' (cutP l ps).1.length c', .int .i64 n], .int .i64 (cutP l ps).2]) ∧ (cutP l ps).1.length ≤ c' ∧ Mem w0 P w' B (fun w => S w ∧ Tr A' (cutP l ps).1 w) := by
  have HM := Aside0.mk hM
  have HS := Aside0.mk hS
  have HI := Aside0.mk hI
  have HC := Aside0.mk hc
  have HL := Aside0.mk hl
  have HL1 := Aside0.mk (show l.length ≤ 1000000 by omega)
  have HP := Aside0.mk hp
  clear hM hS hI hc hl
  unfold cutP
  cases hlq : lookR l ps with
  | some r =>
    have HLQ := Aside0.mk hlq
    clear hlq hp
    rw [if_neg (by simp)]
    go_enter Tryd.func37, Tryd.ntmps37
    go_wp2_with (first|go_skip|((with_reducible refine gate_dst (N := 3) rfl ?_);(with_reducible refine' bx1 HM ?qw rfl ?qx ?qv ?_);(case qw|qx=>rfl);(case qv=>rfl);clear HM;intro g3 _ HM)|((with_reducible refine gate_dst (N := 2) rfl ?_);(with_reducible refine' bn HM ?qw rfl _ ?qx ?_);(case qw|qx=>rfl);clear HM;intro g2 _ HM)|((with_reducible refine gate_dst (N := 4) rfl ?_);(with_reducible refine' bz HM ?qw rfl ?qa ?qc ?_);(case qw|qa|qc=>rfl);clear HM;intro g4 _ HM)|((with_reducible refine gate_dst (N := 6) rfl ?_);(with_reducible refine' bz HM ?qw rfl ?qa ?qc ?_);(case qw|qa|qc=>rfl);clear HM;intro g6 _ HM)|((with_reducible refine' lc HM ?qw rfl ?qx ?qm ?qa ?qv ?_);(case qw|qx|qa=>rfl);(case qm=>repeat constructor);(case qv=>rfl))|((with_reducible refine' la HM ?qw rfl ?qx ?qm ?qa ?_);(case qw|qx=>rfl);(case qm=>repeat constructor);(case qa=>rfl))|((with_reducible refine' pa HM ?qw rfl ?qx _ ?qy ?qm ?qa ?_);(case qw|qx|qy=>rfl);(case qm=>repeat constructor);(case qa=>rfl);clear HM;intro _ HM)|((with_reducible refine' pc HM ?qw rfl ?qx ?qa ?qy ?qm ?qo ?qi ?_);(case qw|qx|qa=>rfl);(case qy=>first|exact (rfl:_=Value.int _ _)|exact (rfl:_=Value.slice _ _ _)|exact (rfl:_=Value.string _)|exact (rfl:_=Value.bool _));(case qm=>repeat constructor);(case qo=>exact ⟨rfl,rfl⟩);(case qi=>rfl);clear HM;intro _ HM;try simp only [List.set_cons_zero,List.set_cons_succ] at HM)|(go_at_call 23; (refine (get_some HM.out HS.out HI.out.wk HC.out HL.out HP.out HLQ.out).mono ?_); rintro e _ ⟨rfl, hM⟩; clear HM;have HM:=Aside0.mk hM;clear hM)|(go_at_call 50; (refine (clone_M HM.out HS.out HL1.out).mono ?_); rintro e _ ⟨v, X, rfl, hO, hM⟩; obtain ⟨Ao, co, rfl⟩ := hO.slice; simp only [List.cons_append, List.nil_append] at hM; have HOW := Aside0.mk hO; clear hO; clear HM;have HM:=Aside0.mk hM;clear hM)|(go_at_call 57; go_loud (refine (delf_M (HM.out.perm (List.perm_append_comm (l₁ := (g6, rowL r, 44) :: (g4, zerL 35, 35) :: (g3, [.string (mkS (joinS ps))], 9) :: (g2, [.slice A l.length c, .int .i64 n], 35) :: B) (l₂ := X))) HOW.out HL.out enters58 (pr := fun r => underS (joinS ps) r.f0.data.toList) (fun W C hM r hr => und_M (s := ps) (gs := g3) HI.out hr HP.out (Has.app _ (by repeat constructor)) hM)).mono ?_); rintro e _ ⟨A1, c1, X1, rfl, hO, hM⟩; have hM := hM.perm List.perm_append_comm; simp only [List.cons_append, List.nil_append] at hM; have HOC := Aside0.mk hO; clear hO; clear HM;have HM:=Aside0.mk hM;clear hM))
    obtain ⟨A3, c3, hv, hc3, hM3⟩ := hand (B := _ :: _ :: _ :: _ :: B) (by simpa only [List.cons_append] using HM.out) HOC.out
    injection hv with e1 e2 e3
    subst e1 e3
    refine bodyPost_ret (ret_ct hM3 rfl rfl (by first | exact m0 | exact m1 | exact m2 | exact m3) (by exact agg35)) rfl ?_
    exact ⟨_, _, rfl, hc3, hM3.drop.drop.drop.drop⟩
  | none =>
    have HLQ := Aside0.mk hlq
    clear hlq
    by_cases h0 : ps = []
    · subst h0
      have b0 : ((mkS (joinS [])).toList == ([] : List UInt8)) = true := beq_iff_eq.2 (mk_toList _)
      have b1 : (mkS (joinS [])).toList.isEmpty = true := List.isEmpty_iff.2 (mk_toList _)
      clear hp
      rw [if_neg (by simp)]
      go_enter Tryd.func37, Tryd.ntmps37
      go_wp2_with (first|go_skip|((with_reducible refine gate_dst (N := 3) rfl ?_);(with_reducible refine' bx1 HM ?qw rfl ?qx ?qv ?_);(case qw|qx=>rfl);(case qv=>rfl);clear HM;intro g3 _ HM)|((with_reducible refine gate_dst (N := 2) rfl ?_);(with_reducible refine' bn HM ?qw rfl _ ?qx ?_);(case qw|qx=>rfl);clear HM;intro g2 _ HM)|((with_reducible refine gate_dst (N := 4) rfl ?_);(with_reducible refine' bz HM ?qw rfl ?qa ?qc ?_);(case qw|qa|qc=>rfl);clear HM;intro g4 _ HM)|((with_reducible refine gate_dst (N := 6) rfl ?_);(with_reducible refine' bz HM ?qw rfl ?qa ?qc ?_);(case qw|qa|qc=>rfl);clear HM;intro g6 _ HM)|((with_reducible refine' lc HM ?qw rfl ?qx ?qm ?qa ?qv ?_);(case qw|qx|qa=>rfl);(case qm=>repeat constructor);(case qv=>rfl))|((with_reducible refine' la HM ?qw rfl ?qx ?qm ?qa ?_);(case qw|qx=>rfl);(case qm=>repeat constructor);(case qa=>rfl))|((with_reducible refine' pa HM ?qw rfl ?qx _ ?qy ?qm ?qa ?_);(case qw|qx|qy=>rfl);(case qm=>repeat constructor);(case qa=>rfl);clear HM;intro _ HM)|((with_reducible refine' pc HM ?qw rfl ?qx ?qa ?qy ?qm ?qo ?qi ?_);(case qw|qx|qa=>rfl);(case qy=>first|exact (rfl:_=Value.int _ _)|exact (rfl:_=Value.slice _ _ _)|exact (rfl:_=Value.string _)|exact (rfl:_=Value.bool _));(case qm=>repeat constructor);(case qo=>exact ⟨rfl,rfl⟩);(case qi=>rfl);clear HM;intro _ HM;try simp only [List.set_cons_zero,List.set_cons_succ] at HM)|(go_at_call 23; (refine (get_none HM.out HS.out HI.out.wk HC.out HL.out HP.out HLQ.out).mono ?_); rintro e _ ⟨rfl, hM⟩; clear HM;have HM:=Aside0.mk hM;clear hM)|(go_at_call 50; (refine (clone_M HM.out HS.out HL1.out).mono ?_); rintro e _ ⟨v, X, rfl, hO, hM⟩; obtain ⟨Ao, co, rfl⟩ := hO.slice; simp only [List.cons_append, List.nil_append] at hM; have HOW := Aside0.mk hO; clear hO; clear HM;have HM:=Aside0.mk hM;clear hM)|(go_at_call 57; go_loud (refine (delf_M (HM.out.perm (List.perm_append_comm (l₁ := (g6, rowL z44, 44) :: (g4, zerL 35, 35) :: (g3, [.string (mkS (joinS []))], 9) :: (g2, [.slice A l.length c, .int .i64 n], 35) :: B) (l₂ := X))) HOW.out HL.out enters58 (pr := fun r => underS (joinS []) r.f0.data.toList) (fun W C hM r hr => und_M (s := []) (gs := g3) HI.out hr HP.out (Has.app _ (by repeat constructor)) hM)).mono ?_); rintro e _ ⟨A1, c1, X1, rfl, hO, hM⟩; have hM := hM.perm List.perm_append_comm; simp only [List.cons_append, List.nil_append] at hM; have HOC := Aside0.mk hO; clear hO; clear HM;have HM:=Aside0.mk hM;clear hM))
      obtain ⟨A3, c3, hv, hc3, hM3⟩ := hand (B := _ :: _ :: _ :: _ :: B) (by simpa only [List.cons_append] using HM.out) HOC.out
      injection hv with e1 e2 e3
      subst e1 e3
      refine bodyPost_ret (ret_ct hM3 rfl rfl (by first | exact m0 | exact m1 | exact m2 | exact m3) (by exact agg35)) rfl ?_
      exact ⟨_, _, rfl, hc3, hM3.drop.drop.drop.drop⟩
    · rw [if_pos ⟨rfl, h0⟩]
      have hne : (mkS (joinS ps)).toList ≠ [] := by rw [mk_toList]; exact join_ne hp.good h0
      have b0 : ((mkS (joinS ps)).toList == ([] : List UInt8)) = false := beq_eq_false_iff_ne.2 hne
      have b1 : (mkS (joinS ps)).toList.isEmpty = false := List.isEmpty_eq_false_iff.2 hne
      clear hp h0 hne
      go_enter Tryd.func37, Tryd.ntmps37
      go_wp2_with (first|go_skip|((with_reducible refine gate_dst (N := 3) rfl ?_);(with_reducible refine' bx1 HM ?qw rfl ?qx ?qv ?_);(case qw|qx=>rfl);(case qv=>rfl);clear HM;intro g3 _ HM)|((with_reducible refine gate_dst (N := 2) rfl ?_);(with_reducible refine' bn HM ?qw rfl _ ?qx ?_);(case qw|qx=>rfl);clear HM;intro g2 _ HM)|((with_reducible refine gate_dst (N := 4) rfl ?_);(with_reducible refine' bz HM ?qw rfl ?qa ?qc ?_);(case qw|qa|qc=>rfl);clear HM;intro g4 _ HM)|((with_reducible refine gate_dst (N := 6) rfl ?_);(with_reducible refine' bz HM ?qw rfl ?qa ?qc ?_);(case qw|qa|qc=>rfl);clear HM;intro g6 _ HM)|((with_reducible refine' lc HM ?qw rfl ?qx ?qm ?qa ?qv ?_);(case qw|qx|qa=>rfl);(case qm=>repeat constructor);(case qv=>rfl))|((with_reducible refine' la HM ?qw rfl ?qx ?qm ?qa ?_);(case qw|qx=>rfl);(case qm=>repeat constructor);(case qa=>rfl))|((with_reducible refine' pa HM ?qw rfl ?qx _ ?qy ?qm ?qa ?_);(case qw|qx|qy=>rfl);(case qm=>repeat constructor);(case qa=>rfl);clear HM;intro _ HM)|((with_reducible refine' pc HM ?qw rfl ?qx ?qa ?qy ?qm ?qo ?qi ?_);(case qw|qx|qa=>rfl);(case qy=>first|exact (rfl:_=Value.int _ _)|exact (rfl:_=Value.slice _ _ _)|exact (rfl:_=Value.string _)|exact (rfl:_=Value.bool _));(case qm=>repeat constructor);(case qo=>exact ⟨rfl,rfl⟩);(case qi=>rfl);clear HM;intro _ HM;try simp only [List.set_cons_zero,List.set_cons_succ] at HM)|(go_at_call 23; (refine (get_none HM.out HS.out HI.out.wk HC.out HL.out HP.out HLQ.out).mono ?_); rintro e _ ⟨rfl, hM⟩; clear HM;have HM:=Aside0.mk hM;clear hM))
      refine bodyPost_ret (ret_ct HM.out rfl rfl (by first | exact m0 | exact m1 | exact m2 | exact m3) (by exact agg35)) rfl ?_
      exact ⟨A, c, rfl, HC.out, HM.out.drop.drop.drop.drop.imp (fun w h => ⟨h, HS.out w h⟩)⟩
end Go.Proofs.YtolpamojbiipaaaDoor.XA
