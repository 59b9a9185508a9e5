/- merge.over, merge.Over, walked by hand over Mem. Printed by wip/tools/gen_over.py. -/
import Derived.Test.YtolpamojbiipaaaDoorEMemTree
import Derived.Test.YtolpamojbiipaaaDoorEMemS
namespace Go.Proofs.YtolpamojbiipaaaDoor.XA
open Go.RowKit Go.Proofs.YtolpamojbiipaaaDoorW.PrintWords Go.Proofs.YtolpamojbiipaaaDoorW.PrintLast Go.Proofs.YtolpamojbiipaaaDoorW.PrintMore Go.Proofs.YtolpamojbiipaaaDoor.Mem Go.Proofs.YtolpamojbiipaaaDoor.Pure
set_option linter.unusedVariables false
set_option linter.unusedSimpArgs false

theorem rowL_set1 (r : S44) (x : Int) : (rowL r).set 1 (.int .i64 x) = rowL ⟨r.f0, x, r.f2⟩ := rfl
/-- One row laid over a tree. -/
def overR (l : List S44) (r : S44) (more : Int) : List S44 × Int :=
  match lookR l (pp r) with
  | some o => if (o.f2.f0 == 4) = (r.f2.f0 == 4) then (if r.f2.f9 = true then (l, 0) else (insR l ⟨r.f0, if r.f2.f0 = 4 then o.f1 else r.f1 + more, r.f2⟩, 0)) else (l, 130)
  | none => (insR l ⟨r.f0, r.f1 + more, r.f2⟩, 0)
def overF : List S44 → List S44 → Int → Option (List S44)
  | l, [], _ => some l
  | l, r :: t, more => if (overR l r more).2 = 0 then overF (overR l r more).1 t more else none
def overT (a b : List S44) (na nb : Int) : List S44 × Int × Int := match overF a b na with | some t => (t, na + nb, 0) | none => (a, na, 130)
theorem overR_wk {l : List S44} {r : S44} {more : Int} (h : Wk l) (hc : Cl (pp r)) (hf : r.f0 = mkS (joinS (pp r))) : Wk (overR l r more).1 ∧ (overR l r more).1.length ≤ l.length + 1 := by
  have hi : ∀ i : Int, Wk (insR l ⟨r.f0, i, r.f2⟩) ∧ (insR l ⟨r.f0, i, r.f2⟩).length ≤ l.length + 1 := fun i => ⟨h.ins (r := ⟨r.f0, i, r.f2⟩) hc hf, len_ins_le _⟩
  unfold overR
  cases lookR l (pp r) with
  | none => exact hi _
  | some o =>
    simp only
    split
    · split
      · exact ⟨h, by simp⟩
      · exact hi _
    · exact ⟨h, by simp⟩
set_option maxHeartbeats 8000000 in
set_option maxRecDepth 100000 in
theorem over_M {w0 W : World} {P : Nat → Prop} {B : List Bx} {S : World → Prop} {A : Option Addr} {c : Nat} {l : List S44} {n more : Int} {r : S44} (hM : Mem w0 P W B S) (hS : ∀ w, S w → Tr A l w) (hW : Wk l) (hc : l.length ≤ c) (hl : l.length ≤ 900000)
    (hcl : Cl (pp r)) (hf : r.f0 = mkS (joinS (pp r))) (hid : 0 ≤ r.f1 ∧ r.f1 ≤ 1000000) (hmore : 0 ≤ more ∧ more ≤ 1000000) :
    Calls Tryd.prog 55 #[.agg #[.slice A l.length c, .int .i64 n], .agg (rowL r).toArray, .int .i64 more] W fun e w' => ∃ A' c', e = .returned (.tuple #[.agg #[.slice A' (overR l r more).1.length c', .int .i64 n], .int .i64 (overR l r more).2]) ∧ (overR l r more).1.length ≤ c' ∧ Mem w0 P w' B (fun w => S w ∧ Tr A' (overR l r more).1 w) := by
  have HM := Aside0.mk hM
  have HS := Aside0.mk hS
  have HW := Aside0.mk hW
  have HC := Aside0.mk hc
  have HL := Aside0.mk hl
  have HP := Aside0.mk (Gd.of (.inr hcl))
  have HF := Aside0.mk hf
  obtain ⟨hid1, hid2⟩ := hid
  obtain ⟨hmo1, hmo2⟩ := hmore
  have HRS := Aside0.mk (show r.f0.size ≤ 1000000 by rw [hf, mk_size]; have := hcl.len; omega)
  clear hM hS hW hc hl hcl
  obtain ⟨ps, hps⟩ : ∃ ps, ps = pp r := ⟨_, rfl⟩
  rw [← hps] at HP HF
  have hget : ∀ k : Nat, r.f0 = mkS (joinS ps) := fun _ => HF.out
  unfold overR
  rw [← hps]
  obtain ⟨s, i, nd⟩ := r
  have HPS := Aside0.mk hps
  simp only at hid1 hid2 HF HRS ⊢
  have hs := HF.out
  subst hs
  clear hps hget hf
  cases hlk : lookR l ps with
  | none =>
    have HLK := Aside0.mk hlk
    have HR := Aside0.mk (show (⟨mkS (joinS ps), i + more, nd⟩ : S44).f0.size ≤ 1000000 from HRS.out)
    clear hlk
    simp only
    go_enter Tryd.func55, Tryd.ntmps55
    go_wp2_with (first|go_skip|((with_reducible refine' lc HM ?qw rfl ?qx ?qm ?qa ?qv ?_);(case qw|qx|qa=>rfl);(case qm=>repeat constructor);(case qv=>rfl))|((with_reducible refine' la HM ?qw rfl ?qx ?qm ?qa ?_);(case qw|qx=>rfl);(case qm=>repeat constructor);(case qa=>rfl))|((with_reducible refine' pa HM ?qw rfl ?qx _ ?qy ?qm ?qa ?_);(case qw|qx|qy=>rfl);(case qm=>repeat constructor);(case qa=>rfl);clear HM;intro _ HM)|((with_reducible refine' pc HM ?qw rfl ?qx ?qa ?qy ?qm ?qo ?qi ?_);(case qw|qx|qa=>rfl);(case qy=>first|exact (rfl:_=Value.int _ _)|exact (rfl:_=Value.slice _ _ _)|exact (rfl:_=Value.string _)|exact (rfl:_=Value.bool _));(case qm=>repeat constructor);(case qo=>exact ⟨rfl,rfl⟩);(case qi=>rfl);clear HM;intro _ HM;try simp only [List.set_cons_zero,List.set_cons_succ,rowL_set1] at HM)|((with_reducible refine' bz HM ?qw rfl ?qa ?qc ?_);(case qw|qa|qc=>rfl);clear HM;intro _ _ HM)|((with_reducible refine' bn HM ?qw rfl _ ?qx ?_);(case qw|qx=>rfl);clear HM;intro _ _ HM)|(go_at_call 23;refine (get_none HM.out HS.out HW.out HC.out HL.out HP.out HLK.out).mono ?_;rintro e _ ⟨rfl, hM⟩;clear HM;have HM:=Aside0.mk hM;clear hM)|(go_at_call 52;refine (put_M (r := ⟨mkS (joinS ps), i + more, nd⟩) HM.out HS.out HW.out HC.out HL.out HR.out).mono ?_;rintro e _ ⟨A2, c2, rfl, hc2, hM⟩;have HC2 := Aside0.mk hc2; clear hc2; clear HM;have HM:=Aside0.mk hM;clear hM))
    refine bodyPost_ret (ret_ct HM.out rfl rfl (by first | exact m0 | exact m1 | exact m2 | exact m3 | exact m4) (by exact agg35)) rfl ?_
    exact ⟨A2, c2, rfl, HC2.out, HM.out.drop.drop.drop.drop⟩
  | some o =>
    have HLK := Aside0.mk hlk
    clear hlk
    simp only
    by_cases hk : (o.f2.f0 == 4) = (nd.f0 == 4)
    case neg =>
      rw [if_neg hk]
      have b1 : ((o.f2.f0 == 4) == (nd.f0 == 4)) = false := beq_eq_false_iff_ne.2 hk
      have b2 : ((o.f2.f0 == 4) != (nd.f0 == 4)) = true := bne_iff_ne.2 hk
      clear hk
      go_enter Tryd.func55, Tryd.ntmps55
      go_wp2_with (first|go_skip|((with_reducible refine' lc HM ?qw rfl ?qx ?qm ?qa ?qv ?_);(case qw|qx|qa=>rfl);(case qm=>repeat constructor);(case qv=>rfl))|((with_reducible refine' la HM ?qw rfl ?qx ?qm ?qa ?_);(case qw|qx=>rfl);(case qm=>repeat constructor);(case qa=>rfl))|((with_reducible refine' pa HM ?qw rfl ?qx _ ?qy ?qm ?qa ?_);(case qw|qx|qy=>rfl);(case qm=>repeat constructor);(case qa=>rfl);clear HM;intro _ HM)|((with_reducible refine' pc HM ?qw rfl ?qx ?qa ?qy ?qm ?qo ?qi ?_);(case qw|qx|qa=>rfl);(case qy=>first|exact (rfl:_=Value.int _ _)|exact (rfl:_=Value.slice _ _ _)|exact (rfl:_=Value.string _)|exact (rfl:_=Value.bool _));(case qm=>repeat constructor);(case qo=>exact ⟨rfl,rfl⟩);(case qi=>rfl);clear HM;intro _ HM;try simp only [List.set_cons_zero,List.set_cons_succ,rowL_set1] at HM)|((with_reducible refine' bz HM ?qw rfl ?qa ?qc ?_);(case qw|qa|qc=>rfl);clear HM;intro _ _ HM)|((with_reducible refine' bn HM ?qw rfl _ ?qx ?_);(case qw|qx=>rfl);clear HM;intro _ _ HM)|(go_at_call 23;refine (get_some HM.out HS.out HW.out HC.out HL.out HP.out HLK.out).mono ?_;rintro e _ ⟨rfl, hM⟩;clear HM;have HM:=Aside0.mk hM;clear hM))
      refine bodyPost_ret (ret_ct HM.out rfl rfl (by first | exact m0 | exact m1 | exact m2 | exact m3 | exact m4) (by exact agg35)) rfl ?_
      exact ⟨A, c, rfl, HC.out, (HM.out.drop.drop.drop.drop).imp (fun w h => ⟨h, HS.out _ h⟩)⟩
    rw [if_pos hk]
    have b1 : ((o.f2.f0 == 4) == (nd.f0 == 4)) = true := beq_iff_eq.2 hk
    have b2 : ((o.f2.f0 == 4) != (nd.f0 == 4)) = false := bne_eq_false_iff_eq.2 hk
    have HK := Aside0.mk hk
    clear hk
    by_cases hm : nd.f9 = true
    case pos =>
      rw [if_pos hm]
      go_enter Tryd.func55, Tryd.ntmps55
      go_wp2_with (first|go_skip|((with_reducible refine' lc HM ?qw rfl ?qx ?qm ?qa ?qv ?_);(case qw|qx|qa=>rfl);(case qm=>repeat constructor);(case qv=>rfl))|((with_reducible refine' la HM ?qw rfl ?qx ?qm ?qa ?_);(case qw|qx=>rfl);(case qm=>repeat constructor);(case qa=>rfl))|((with_reducible refine' pa HM ?qw rfl ?qx _ ?qy ?qm ?qa ?_);(case qw|qx|qy=>rfl);(case qm=>repeat constructor);(case qa=>rfl);clear HM;intro _ HM)|((with_reducible refine' pc HM ?qw rfl ?qx ?qa ?qy ?qm ?qo ?qi ?_);(case qw|qx|qa=>rfl);(case qy=>first|exact (rfl:_=Value.int _ _)|exact (rfl:_=Value.slice _ _ _)|exact (rfl:_=Value.string _)|exact (rfl:_=Value.bool _));(case qm=>repeat constructor);(case qo=>exact ⟨rfl,rfl⟩);(case qi=>rfl);clear HM;intro _ HM;try simp only [List.set_cons_zero,List.set_cons_succ,rowL_set1] at HM)|((with_reducible refine' bz HM ?qw rfl ?qa ?qc ?_);(case qw|qa|qc=>rfl);clear HM;intro _ _ HM)|((with_reducible refine' bn HM ?qw rfl _ ?qx ?_);(case qw|qx=>rfl);clear HM;intro _ _ HM)|(go_at_call 23;refine (get_some HM.out HS.out HW.out HC.out HL.out HP.out HLK.out).mono ?_;rintro e _ ⟨rfl, hM⟩;clear HM;have HM:=Aside0.mk hM;clear hM))
      refine bodyPost_ret (ret_ct HM.out rfl rfl (by first | exact m0 | exact m1 | exact m2 | exact m3 | exact m4) (by exact agg35)) rfl ?_
      exact ⟨A, c, rfl, HC.out, (HM.out.drop.drop.drop.drop).imp (fun w h => ⟨h, HS.out _ h⟩)⟩
    rw [if_neg hm]
    have hm' : nd.f9 = false := by simpa using hm
    clear hm
    by_cases hd : nd.f0 = 4
    case pos =>
      rw [if_pos hd]
      have b3 : (nd.f0 == 4) = true := beq_iff_eq.2 hd
      have b5 : (o.f2.f0 == 4) = true := HK.out.trans b3
      clear hd b1 b2
      have HR := Aside0.mk (show (⟨mkS (joinS ps), o.f1, nd⟩ : S44).f0.size ≤ 1000000 from HRS.out)
      go_enter Tryd.func55, Tryd.ntmps55
      go_wp2_with (first|go_skip|((with_reducible refine' lc HM ?qw rfl ?qx ?qm ?qa ?qv ?_);(case qw|qx|qa=>rfl);(case qm=>repeat constructor);(case qv=>rfl))|((with_reducible refine' la HM ?qw rfl ?qx ?qm ?qa ?_);(case qw|qx=>rfl);(case qm=>repeat constructor);(case qa=>rfl))|((with_reducible refine' pa HM ?qw rfl ?qx _ ?qy ?qm ?qa ?_);(case qw|qx|qy=>rfl);(case qm=>repeat constructor);(case qa=>rfl);clear HM;intro _ HM)|((with_reducible refine' pc HM ?qw rfl ?qx ?qa ?qy ?qm ?qo ?qi ?_);(case qw|qx|qa=>rfl);(case qy=>first|exact (rfl:_=Value.int _ _)|exact (rfl:_=Value.slice _ _ _)|exact (rfl:_=Value.string _)|exact (rfl:_=Value.bool _));(case qm=>repeat constructor);(case qo=>exact ⟨rfl,rfl⟩);(case qi=>rfl);clear HM;intro _ HM;try simp only [List.set_cons_zero,List.set_cons_succ,rowL_set1] at HM)|((with_reducible refine' bz HM ?qw rfl ?qa ?qc ?_);(case qw|qa|qc=>rfl);clear HM;intro _ _ HM)|((with_reducible refine' bn HM ?qw rfl _ ?qx ?_);(case qw|qx=>rfl);clear HM;intro _ _ HM)|(go_at_call 23;refine (get_some HM.out HS.out HW.out HC.out HL.out HP.out HLK.out).mono ?_;rintro e _ ⟨rfl, hM⟩;clear HM;have HM:=Aside0.mk hM;clear hM)|(go_at_call 52;refine (put_M (r := ⟨mkS (joinS ps), o.f1, nd⟩) HM.out HS.out HW.out HC.out HL.out HR.out).mono ?_;rintro e _ ⟨A2, c2, rfl, hc2, hM⟩;have HC2 := Aside0.mk hc2; clear hc2; clear HM;have HM:=Aside0.mk hM;clear hM))
      refine bodyPost_ret (ret_ct HM.out rfl rfl (by first | exact m0 | exact m1 | exact m2 | exact m3 | exact m4) (by exact agg35)) rfl ?_
      exact ⟨A2, c2, rfl, HC2.out, HM.out.drop.drop.drop.drop⟩
    rw [if_neg hd]
    have b3 : (nd.f0 == 4) = false := beq_eq_false_iff_ne.2 hd
    have b5 : (o.f2.f0 == 4) = false := HK.out.trans b3
    clear hd b1 b2
    have HR := Aside0.mk (show (⟨mkS (joinS ps), i + more, nd⟩ : S44).f0.size ≤ 1000000 from HRS.out)
    go_enter Tryd.func55, Tryd.ntmps55
    go_wp2_with (first|go_skip|((with_reducible refine' lc HM ?qw rfl ?qx ?qm ?qa ?qv ?_);(case qw|qx|qa=>rfl);(case qm=>repeat constructor);(case qv=>rfl))|((with_reducible refine' la HM ?qw rfl ?qx ?qm ?qa ?_);(case qw|qx=>rfl);(case qm=>repeat constructor);(case qa=>rfl))|((with_reducible refine' pa HM ?qw rfl ?qx _ ?qy ?qm ?qa ?_);(case qw|qx|qy=>rfl);(case qm=>repeat constructor);(case qa=>rfl);clear HM;intro _ HM)|((with_reducible refine' pc HM ?qw rfl ?qx ?qa ?qy ?qm ?qo ?qi ?_);(case qw|qx|qa=>rfl);(case qy=>first|exact (rfl:_=Value.int _ _)|exact (rfl:_=Value.slice _ _ _)|exact (rfl:_=Value.string _)|exact (rfl:_=Value.bool _));(case qm=>repeat constructor);(case qo=>exact ⟨rfl,rfl⟩);(case qi=>rfl);clear HM;intro _ HM;try simp only [List.set_cons_zero,List.set_cons_succ,rowL_set1] at HM)|((with_reducible refine' bz HM ?qw rfl ?qa ?qc ?_);(case qw|qa|qc=>rfl);clear HM;intro _ _ HM)|((with_reducible refine' bn HM ?qw rfl _ ?qx ?_);(case qw|qx=>rfl);clear HM;intro _ _ HM)|(go_at_call 23;refine (get_some HM.out HS.out HW.out HC.out HL.out HP.out HLK.out).mono ?_;rintro e _ ⟨rfl, hM⟩;clear HM;have HM:=Aside0.mk hM;clear hM)|(go_at_call 52;refine (put_M (r := ⟨mkS (joinS ps), i + more, nd⟩) HM.out HS.out HW.out HC.out HL.out HR.out).mono ?_;rintro e _ ⟨A2, c2, rfl, hc2, hM⟩;have HC2 := Aside0.mk hc2; clear hc2; clear HM;have HM:=Aside0.mk hM;clear hM))
    refine bodyPost_ret (ret_ct HM.out rfl rfl (by first | exact m0 | exact m1 | exact m2 | exact m3 | exact m4) (by exact agg35)) rfl ?_
    exact ⟨A2, c2, rfl, HC2.out, HM.out.drop.drop.drop.drop⟩


set_option maxHeartbeats 8000000 in
set_option maxRecDepth 100000 in
theorem overT_M {w0 W : World} {P : Nat → Prop} {B : List Bx} {S : World → Prop} {Aa Ab : Option Addr} {ca cb : Nat} {a b : List S44} {na nb : Int} (hM : Mem w0 P W B S) (hSa : ∀ w, S w → Tr Aa a w) (hSb : ∀ w, S w → Tr Ab b w) (hIa : Wk a) (hIb : Wk b) (hca : a.length ≤ ca) (hcb : b.length ≤ cb)
    (hla : a.length ≤ 400000) (hlb : b.length ≤ 400000) (hna : 0 ≤ na ∧ na ≤ 400000) (hnb : 0 ≤ nb ∧ nb ≤ 400000) (hib : ∀ r ∈ b, 0 ≤ r.f1 ∧ r.f1 ≤ 1000000) :
    Calls Tryd.prog 29 #[.agg #[.slice Aa a.length ca, .int .i64 na], .agg #[.slice Ab b.length cb, .int .i64 nb]] W fun e w' => ∃ A' c', e = .returned (.tuple #[.agg #[.slice A' (overT a b na nb).1.length c', .int .i64 (overT a b na nb).2.1], .int .i64 (overT a b na nb).2.2]) ∧ (overT a b na nb).1.length ≤ c' ∧ Mem w0 P w' B (fun w => S w ∧ Tr A' (overT a b na nb).1 w) := by
  have HM := Aside0.mk hM
  have HSA := Aside0.mk hSa
  have HSB := Aside0.mk hSb
  have HIA := Aside0.mk hIa
  have HIB := Aside0.mk hIb
  have HCA := Aside0.mk hca
  have HCB := Aside0.mk hcb
  have HNA2 := Aside0.mk (show 0 ≤ na ∧ na ≤ 1000000 by omega)
  have HLA := Aside0.mk hla
  have HBI := Aside0.mk hib
  obtain ⟨hna1, hna2⟩ := hna
  obtain ⟨hnb1, hnb2⟩ := hnb
  have hlbz : (b.length : Int) ≤ 400000 := by omega
  clear hM hSa hSb hIa hIb hca hcb hla hib
  obtain ⟨res, hres⟩ : ∃ res, res = overT a b na nb := ⟨_, rfl⟩
  rw [← hres]
  have HR := Aside0.mk hres
  clear hres
  go_enter Tryd.func29, Tryd.ntmps29
  go_wp2_with (first|go_skip|((with_reducible refine gate_dst (N := 2) rfl ?_);(with_reducible refine' bn HM ?qw rfl _ ?qx ?_);(case qw|qx=>rfl);clear HM;intro g2 _ HM)|((with_reducible refine gate_dst (N := 3) rfl ?_);(with_reducible refine' bn HM ?qw rfl _ ?qx ?_);(case qw|qx=>rfl);clear HM;intro g3 _ HM)|((with_reducible refine gate_dst (N := 4) rfl ?_);(with_reducible refine' bz HM ?qw rfl ?qa ?qc ?_);(case qw|qa|qc=>rfl);clear HM;intro g4 _ HM)|((with_reducible refine gate_dst (N := 6) rfl ?_);(with_reducible refine' bz HM ?qw rfl ?qa ?qc ?_);(case qw|qa|qc=>rfl);clear HM;intro g6 _ HM)|((with_reducible refine' lc HM ?qw rfl ?qx ?qm ?qa ?qv ?_);(case qw|qx|qa=>rfl);(case qm=>repeat constructor);(case qv=>rfl))|((with_reducible refine' la HM ?qw rfl ?qx ?qm ?qa ?_);(case qw|qx=>rfl);(case qm=>repeat constructor);(case qa=>rfl))|((with_reducible refine' pa HM ?qw rfl ?qx _ ?qy ?qm ?qa ?_);(case qw|qx|qy=>rfl);(case qm=>repeat constructor);(case qa=>rfl);clear HM;intro _ HM)|((with_reducible refine' pc HM ?qw rfl ?qx ?qa ?qy ?qm ?qo ?qi ?_);(case qw|qx|qa=>rfl);(case qy=>first|exact (rfl:_=Value.int _ _)|exact (rfl:_=Value.slice _ _ _)|exact (rfl:_=Value.string _)|exact (rfl:_=Value.bool _));(case qm=>repeat constructor);(case qo=>exact ⟨rfl,rfl⟩);(case qi=>rfl);clear HM;intro _ HM;try simp only [List.set_cons_zero,List.set_cons_succ] at HM))
  go_loopw [15] (fun v15 wr => ∃ (i : Nat) (l : List S44) (A : Option Addr) (c : Nat), v15 = .int .i64 i ∧ Aside0 (i ≤ b.length) ∧ Aside0 (overF l (b.drop i) na = overF a b na) ∧ Aside0 (Wk l) ∧ Aside0 (l.length ≤ a.length + i) ∧ Aside0 (l.length ≤ c) ∧
    Aside0 (Mem w0 P wr ((g6, [.slice A l.length c, .int .i64 na], 35) :: (g4, [.slice none 0 0, .int .i64 0], 35) :: (g3, [.slice Ab b.length cb, .int .i64 nb], 35) :: (g2, [.slice Aa a.length ca, .int .i64 na], 35) :: B) (fun w => S w ∧ Tr A l w))) (fun v15 _ => b.length - (intOf v15).toNat)
  case atStart => exact ⟨0, a, Aa, ca, rfl, ⟨Nat.zero_le _⟩, ⟨rfl⟩, HIA, ⟨Nat.le_refl _⟩, HCA, ⟨HM.out.imp (fun w h => ⟨h, HSA.out _ h⟩)⟩⟩
  case round =>
    clear HM
    obtain ⟨i, l, A, c, rfl, HIX, HF, HW, HLL, HC, HM⟩ := hrel
    have hib : (i : Int) ≤ 400000 := by have := HIX.out; omega
    have HL := Aside0.mk (show l.length ≤ 900000 by have := HLL.out; have := HLA.out; have := HIX.out; omega)
    by_cases hlt : i < b.length
    · have hlz : (i : Int) < (b.length : Int) := by omega
      obtain ⟨ad, ea, hx0, hx1, hx2, hx3, hx4, hx5, hx6, hx7, hx8, hx9, hx10, hx11, hx12⟩ := at_T44 (HSB.out _ HM.out.now.1) (i : Int) (by omega) (by omega)
      have hrd : rd_T44 b (i : Int) = b[i] := by unfold rd_T44; rw [Int.toNat_natCast, List.getD_eq_getElem?_getD, List.getElem?_eq_getElem hlt]; rfl
      have hfo := HF.out
      rw [List.drop_eq_getElem_cons hlt] at hfo
      have HY := Aside0.mk (HIB.out.clean _ (List.getElem_mem hlt))
      have HYI := Aside0.mk (HBI.out _ (List.getElem_mem hlt))
      rw [Int.toNat_natCast, hrd] at hx0 hx1 hx2 hx3 hx4 hx5 hx6 hx7 hx8 hx9 hx11 hx12
      rw [Int.toNat_natCast] at hx10
      generalize b[i] = y at hx0 hx1 hx2 hx3 hx4 hx5 hx6 hx7 hx8 hx9 hx11 hx12 hfo HY HYI
      clear hrd HF
      have HF := Aside0.mk hfo
      clear hfo
      have HWK := Aside0.mk (overR_wk (more := na) HW.out HY.out.1 HY.out.2)
      subst ea
      go_upto_region 5 with (first|go_skip|((with_reducible refine' lc HM ?qw rfl ?qx ?qm ?qa ?qv ?_);(case qw|qx|qa=>rfl);(case qm=>repeat constructor);(case qv=>rfl))|((with_reducible refine' la HM ?qw rfl ?qx ?qm ?qa ?_);(case qw|qx=>rfl);(case qm=>repeat constructor);(case qa=>rfl))|((with_reducible refine' pa HM ?qw rfl ?qx _ ?qy ?qm ?qa ?_);(case qw|qx|qy=>rfl);(case qm=>repeat constructor);(case qa=>rfl);clear HM;intro _ HM)|((with_reducible refine' pc HM ?qw rfl ?qx ?qa ?qy ?qm ?qo ?qi ?_);(case qw|qx|qa=>rfl);(case qy=>first|exact (rfl:_=Value.int _ _)|exact (rfl:_=Value.slice _ _ _)|exact (rfl:_=Value.string _)|exact (rfl:_=Value.bool _));(case qm=>repeat constructor);(case qo=>exact ⟨rfl,rfl⟩);(case qi=>rfl);clear HM;intro _ HM;try simp only [List.set_cons_zero,List.set_cons_succ] at HM)|((with_reducible refine' bz HM ?qw rfl ?qa ?qc ?_);(case qw|qa|qc=>rfl);clear HM;intro _ _ HM))
      clear hx0 hx1 hx2 hx3 hx4 hx5 hx6 hx7 hx8 hx9 hx10 hx11 hx12
      have hrow : ∀ (q : S44), [Value.string q.f0, .int .i64 q.f1, .int .i64 q.f2.f0, .int .i64 q.f2.f1, .int .i64 q.f2.f2, .int .i64 q.f2.f3, .int .i64 q.f2.f4, .string q.f2.f5, .string q.f2.f6, .string q.f2.f7, .slice none 0 0, .int .i64 q.f2.f8.f1, .bool q.f2.f9] = rowL q := fun _ => rfl
      rw [hrow] at HM
      clear hrow
      have hov := fun (W : World) (B : List Bx) (S' : World → Prop) (hM : Mem w0 P W B S') (hS : ∀ w, S' w → Tr A l w) => over_M (n := na) (more := na) (r := y) hM hS HW.out HC.out HL.out HY.out.1 HY.out.2 HYI.out HNA2.out
      by_cases he : (overR l y na).2 = 0
      · have HF2 : Aside0 (overF (overR l y na).1 (b.drop (i + 1)) na = overF a b na) := ⟨by have := HF.out; rw [overF, if_pos he] at this; exact this⟩
        generalize overR l y na = q at HWK HF2 he hov
        obtain ⟨q1, q2⟩ := q
        simp only at he
        subst he
        have HOV := Aside0.mk hov
        clear hov
        go_wp2_with (first|go_skip|((with_reducible refine' lc HM ?qw rfl ?qx ?qm ?qa ?qv ?_);(case qw|qx|qa=>rfl);(case qm=>repeat constructor);(case qv=>rfl))|((with_reducible refine' la HM ?qw rfl ?qx ?qm ?qa ?_);(case qw|qx=>rfl);(case qm=>repeat constructor);(case qa=>rfl))|((with_reducible refine' pa HM ?qw rfl ?qx _ ?qy ?qm ?qa ?_);(case qw|qx|qy=>rfl);(case qm=>repeat constructor);(case qa=>rfl);clear HM;intro _ HM)|((with_reducible refine' pc HM ?qw rfl ?qx ?qa ?qy ?qm ?qo ?qi ?_);(case qw|qx|qa=>rfl);(case qy=>first|exact (rfl:_=Value.int _ _)|exact (rfl:_=Value.slice _ _ _)|exact (rfl:_=Value.string _)|exact (rfl:_=Value.bool _));(case qm=>repeat constructor);(case qo=>exact ⟨rfl,rfl⟩);(case qi=>rfl);clear HM;intro _ HM;try simp only [List.set_cons_zero,List.set_cons_succ] at HM)|((with_reducible refine' bz HM ?qw rfl ?qa ?qc ?_);(case qw|qa|qc=>rfl);clear HM;intro _ _ HM)|(go_at_call 55;refine (HOV.out _ _ _ HM.out (fun _ h => h.2)).mono ?_;rintro e _ ⟨A2, c2, rfl, hc2, hM⟩;have HC2 := Aside0.mk hc2; clear hc2; clear HM;have HM:=Aside0.mk hM;clear hM))
        go_roundw
        case rel => exact ⟨i + 1, q1, A2, c2, by go_num, ⟨by omega⟩, HF2, ⟨HWK.out.1⟩, ⟨by have h1 : q1.length ≤ l.length + 1 := HWK.out.2; have := HLL.out; omega⟩, HC2, ⟨(HM.out.drop.drop).imp (fun w h => ⟨h.1.1, h.2⟩)⟩⟩
        case measure => simp [intOf]; omega
      · have hre := HR.out
        unfold overT at hre
        rw [← HF.out, overF, if_neg he] at hre
        simp only at hre
        have he2 : (overR l y na).2 = 130 := by
          have : (overR l y na).2 = 0 ∨ (overR l y na).2 = 130 := by
            unfold overR
            cases lookR l (pp y) with
            | none => exact .inl rfl
            | some o => simp only; split; (split <;> exact .inl rfl); exact .inr rfl
          exact this.resolve_left he
        generalize overR l y na = q at HWK he he2 hov
        obtain ⟨q1, q2⟩ := q
        simp only at he he2
        subst he2
        subst hre
        have HOV := Aside0.mk hov
        clear hov he
        go_wp2_with (first|go_skip|((with_reducible refine' lc HM ?qw rfl ?qx ?qm ?qa ?qv ?_);(case qw|qx|qa=>rfl);(case qm=>repeat constructor);(case qv=>rfl))|((with_reducible refine' la HM ?qw rfl ?qx ?qm ?qa ?_);(case qw|qx=>rfl);(case qm=>repeat constructor);(case qa=>rfl))|((with_reducible refine' pa HM ?qw rfl ?qx _ ?qy ?qm ?qa ?_);(case qw|qx|qy=>rfl);(case qm=>repeat constructor);(case qa=>rfl);clear HM;intro _ HM)|((with_reducible refine' pc HM ?qw rfl ?qx ?qa ?qy ?qm ?qo ?qi ?_);(case qw|qx|qa=>rfl);(case qy=>first|exact (rfl:_=Value.int _ _)|exact (rfl:_=Value.slice _ _ _)|exact (rfl:_=Value.string _)|exact (rfl:_=Value.bool _));(case qm=>repeat constructor);(case qo=>exact ⟨rfl,rfl⟩);(case qi=>rfl);clear HM;intro _ HM;try simp only [List.set_cons_zero,List.set_cons_succ] at HM)|((with_reducible refine' bz HM ?qw rfl ?qa ?qc ?_);(case qw|qa|qc=>rfl);clear HM;intro _ _ HM)|(go_at_call 55;refine (HOV.out _ _ _ HM.out (fun _ h => h.2)).mono ?_;rintro e _ ⟨A2, c2, rfl, hc2, hM⟩;have HC2 := Aside0.mk hc2; clear hc2; clear HM;have HM:=Aside0.mk hM;clear hM))
        refine bodyPost_ret (ret_ct HM.out rfl rfl (by first | exact m0 | exact m1 | exact m2 | exact m3 | exact m4 | exact m5) (by exact agg35)) rfl ?_
        exact ⟨Aa, ca, rfl, HCA.out, (HM.out.drop.drop.drop.drop.drop.drop).imp (fun w h => ⟨h.1.1, HSA.out _ h.1.1⟩)⟩
    · have hil : i = b.length := by have := HIX.out; omega
      have hlz : ¬ ((i : Int) < (b.length : Int)) := by omega
      have hre := HR.out
      unfold overT at hre
      rw [← HF.out, hil, List.drop_length, overF] at hre
      simp only at hre
      subst hre
      clear HF hil
      go_wp2_with (first|go_skip|((with_reducible refine' lc HM ?qw rfl ?qx ?qm ?qa ?qv ?_);(case qw|qx|qa=>rfl);(case qm=>repeat constructor);(case qv=>rfl))|((with_reducible refine' la HM ?qw rfl ?qx ?qm ?qa ?_);(case qw|qx=>rfl);(case qm=>repeat constructor);(case qa=>rfl))|((with_reducible refine' pa HM ?qw rfl ?qx _ ?qy ?qm ?qa ?_);(case qw|qx|qy=>rfl);(case qm=>repeat constructor);(case qa=>rfl);clear HM;intro _ HM)|((with_reducible refine' pc HM ?qw rfl ?qx ?qa ?qy ?qm ?qo ?qi ?_);(case qw|qx|qa=>rfl);(case qy=>first|exact (rfl:_=Value.int _ _)|exact (rfl:_=Value.slice _ _ _)|exact (rfl:_=Value.string _)|exact (rfl:_=Value.bool _));(case qm=>repeat constructor);(case qo=>exact ⟨rfl,rfl⟩);(case qi=>rfl);clear HM;intro _ HM;try simp only [List.set_cons_zero,List.set_cons_succ] at HM)|((with_reducible refine' bz HM ?qw rfl ?qa ?qc ?_);(case qw|qa|qc=>rfl);clear HM;intro _ _ HM))
      refine bodyPost_ret (ret_ct HM.out rfl rfl (by first | exact m0 | exact m1 | exact m2 | exact m3 | exact m4 | exact m5) (by exact agg35)) rfl ?_
      exact ⟨A, c, rfl, HC.out, HM.out.drop.drop.drop.drop⟩
end Go.Proofs.YtolpamojbiipaaaDoor.XA
