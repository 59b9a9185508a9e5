/- MergeOver's walk over Mem. Printed by wip/tools. -/
import Derived.Test.YtolpamojbiipaaaDoorEMemMerge
import Derived.Test.YtolpamojbiipaaaDoorEMemS
import Derived.Test.YtolpamojbiipaaaDoorERef17
import Derived.Test.YtolpamojbiipaaaDoorEMemRelG
import Derived.Test.YtolpamojbiipaaaDoorUOverW
namespace Go.Proofs.YtolpamojbiipaaaDoor.XA
open Go.RowKit Go.Proofs.YtolpamojbiipaaaDoorW.PrintWords Go.Proofs.YtolpamojbiipaaaDoorW.PrintLast Go.Proofs.YtolpamojbiipaaaDoorW.PrintMore Go.Proofs.YtolpamojbiipaaaDoor.Mem Go.Proofs.YtolpamojbiipaaaDoor.Pure
set_option linter.unusedVariables false
set_option linter.unusedSimpArgs false

def mo8r15T : Bool × List (List Nat × List Nat) := (true, [([], []), ([0], [0]), ([1], [1]), ([2], [2]), ([3, 2], [2, 3]), ([4, 2, 2], [2, 4]), ([5], [5]), ([6, 5], [5, 6]), ([5], [5]), ([8, 5], [5, 8]), ([7, 9, 5], [5, 7, 9]), ([10, 5], [5, 10]), ([11, 5], [5, 11]), ([5], [5]), ([13, 5], [5, 13]), ([12, 14, 5, 5], [5, 12, 14]), ([15, 5], [5, 15]), ([5, 16, 2], [2, 5, 16]), ([2, 17], [2, 17])])
def mo8r15B : List Nat := [0, 1, 3, 7, 15, 31, 63, 127, 63, 319, 1023, 2047, 4095, 63, 8255, 32767, 65535, 131071, 262143]
theorem mo8r15Tab : rtab .any (opsOf Tryd.f8 15) = mo8r15T := by kernel_rfl
theorem mo8r15Bits : waitsOk mo8r15T.2 mo8r15B = true := by kernel_rfl
theorem cmpr_M {w0 W : World} {P : Nat → Prop} {B : List Bx} {S : World → Prop} {r s : S44} (hr : r.f0.size ≤ 1000000) (hs : s.f0.size ≤ 1000000) (hM : Mem w0 P W B S) :
    Calls Tryd.prog 32 #[.string r.f0, .string s.f0] W fun e w' => e = .returned (.int .i64 (cmpP (pp r) (pp s))) ∧ Mem w0 P w' B S := by
  obtain ⟨k, hk⟩ := Pure.compare_ev (a := r.f0.data.toList) (b := s.f0.data.toList) (by rw [← Pure.size_dl]; exact hr) (by rw [← Pure.size_dl]; exact hs)
  rw [mkS_of, mkS_of] at hk
  refine (path_Compare.calls k r.f0 s.f0 _ W (hk k (Nat.le_refl _))).mono ?_
  rintro e w' ⟨rfl, hb⟩
  exact ⟨rfl, hM.call hb⟩
theorem look_at {q : List S73} {s : ByteArray} {yw : S73} (h : lookW q s = some yw) : ∃ j, ixW q s = some j ∧ q.getD j z73 = yw := by
  cases e : ixW q s with
  | none => rw [ix_none.1 e] at h; cases h
  | some j => rw [ix_some e] at h; exact ⟨j, rfl, Option.some.inj h⟩
set_option maxHeartbeats 8000000 in
set_option maxRecDepth 100000 in
theorem MergeOver_walk (w : World) (HG0 : GG w) (A0 : Option Addr) (c0 : Nat) (xs : List S104) (hr0 : Kd.C k104 w A0 xs.length xs) (hm0 : xs.length ≤ 9223372036854775807) (hw0 : ∀ x ∈ xs, ((Lit.int .i64 x.f0).wf = true ∧ (Lit.int .i64 x.f1).wf = true ∧ x.f2.size ≤ 9223372036854775807 ∧ x.f3.size ≤ 9223372036854775807)) (A1 : Option Addr) (c1 : Nat) (ys : List S104) (hr1 : Kd.C k104 w A1 ys.length ys) (hm1 : ys.length ≤ 9223372036854775807) (hw1 : ∀ x ∈ ys, ((Lit.int .i64 x.f0).wf = true ∧ (Lit.int .i64 x.f1).wf = true ∧ x.f2.size ≤ 9223372036854775807 ∧ x.f3.size ≤ 9223372036854775807)) :
    Calls Tryd.prog 8 #[.slice A0 xs.length c0, .slice A1 ys.length c1] w fun e w' => e = .returned (.bool true) ∧ Below w.heap.size w w' := by
  have HM : Aside0 (Mem w (fun k => k < w.heap.size) w [] (Two A0 A1 xs ys)) := ⟨two_M hr0 hr1⟩
  clear hw0 hw1 hr0 hr1
  by_cases hl0 : 30 < xs.length
  · have b0 : decide ((30 : Int) < (xs.length : Int)) = true := decide_eq_true (by omega)
    clear hl0
    go_enter Tryd.func8, Tryd.ntmps8
    go_wp2_with (first|go_skip|(go_at_call 27;refine (lays_M HM.out).mono ?_;rintro e _ ⟨rfl, hM⟩;clear HM;have HM:=Aside0.mk hM;clear hM))
    go_ret
    exact ⟨rfl, HM.out.below⟩
  have b0 : decide ((30 : Int) < (xs.length : Int)) = false := decide_eq_false (by omega)
  by_cases hl1 : 30 < ys.length
  · have b1 : decide ((30 : Int) < (ys.length : Int)) = true := decide_eq_true (by omega)
    clear hl1
    go_enter Tryd.func8, Tryd.ntmps8
    go_wp2_with (first|go_skip|(go_at_call 27;refine (lays_M HM.out).mono ?_;rintro e _ ⟨rfl, hM⟩;clear HM;have HM:=Aside0.mk hM;clear hM))
    go_ret
    exact ⟨rfl, HM.out.below⟩
  have b1 : decide ((30 : Int) < (ys.length : Int)) = false := decide_eq_false (by omega)
  obtain ⟨a, na, ws, nw, ea, hIa, hLa, hNa, hLw, hNw0, hNw, hPa⟩ := plants (P := fun k => k < w.heap.size) HG0 xs (by omega) 0 (by omega)
  obtain ⟨b, nb, ws2, nw2, eb, hIb, hLb, hNb, hLw2, hNw20, hNw2, hPb⟩ := plants (P := fun k => k < w.heap.size) HG0 ys (by omega) 5000 (by omega)
  have HIA := Aside0.mk hIa
  have HIB := Aside0.mk hIb
  have HLA := Aside0.mk hLa
  have HLB := Aside0.mk hLb
  have HNA := Aside0.mk hNa
  have HNB := Aside0.mk hNb
  have HPA := Aside0.mk hPa
  have HPB := Aside0.mk hPb
  clear hl0 hl1 HG0 hPa hPb hIa hIb
  have hra := planted17_rel 0 xs
  have hrb := planted17_rel 5000 ys
  rw [ea] at hra
  rw [eb] at hrb
  simp only at hra hrb
  obtain ⟨hra, rfl⟩ := hra
  obtain ⟨hrb, rfl⟩ := hrb
  clear ea eb
  have hia := HIA.out
  have hib0 := HIB.out
  have hrel := over_rel hia hib0 hra hrb
  have hxb : ∀ x ∈ ws2, 0 ≤ x.f2 ∧ x.f2 ≤ 1000 ∧ 0 ≤ x.f4 ∧ x.f4 ≤ 4530 := fun x hx => by
    have h1 := (hrb.clean x hx).2
    obtain ⟨r, hr, _, _, hc⟩ := hrb.row hx
    have h2 := hib0.ids r hr
    have h3 := hc.2.2.1
    omega
  obtain ⟨t, nt, err, ht, hIt, hLt⟩ : ∃ t nt err, overT a b nw nw2 = (t, nt, err) ∧ Inv t nt ∧ t.length ≤ 9060 := by
    rcases over_split hia hib0 with ⟨t, ht, hok, _⟩ | ⟨ht, _⟩
    · exact ⟨t, _, _, ht, hok.inv, by have := hok.len; have := newN_le a b; omega⟩
    · exact ⟨a, _, _, ht, hia, by omega⟩
  obtain ⟨⟨q, nq, eq⟩, hq⟩ : ∃ z, ovW ws nw ws2 nw2 5000 = z := ⟨_, rfl⟩
  rw [ht, hq] at hrel
  simp only at hrel
  obtain ⟨hrel, rfl, rfl⟩ := hrel
  have hlq := hrel.len hIt.sorted hIt.clean
  have hO17 := fun (W : World) (B : List Bx) (S : World → Prop) (Aw Ax : Option Addr) {cw cx : Nat} (hM : Mem w (fun k => k < w.heap.size) W B S) (h1 : ∀ w, S w → Wr Aw ws w) (h2 : ∀ w, S w → Wr Ax ws2 w) (h3 : ws.length ≤ cw) (h4 : ws2.length ≤ cx) => over17_M (nx := nw2) (nw := nw) (more := 5000) hM h1 h2 h3 h4 hLw hLw2 ⟨hNw0, hNw⟩ ⟨hNw20, hNw2⟩ (by omega) hxb
  rw [hq] at hO17
  have HO17 := Aside0.mk hO17
  have HOV := Aside0.mk ht
  have HIT := Aside0.mk hIt
  have HLQ := Aside0.mk (show q.length ≤ 1000000 by omega)
  have HFQ : Aside0 (∀ r ∈ t, ∃ j y, ixW q r.f0 = some j ∧ q.getD j z73 = y ∧ Cor 0 r y) := ⟨fun r hr => by
    obtain ⟨y, hy, hc⟩ := hrel.thing hIt hr
    obtain ⟨j, h1, h2⟩ := look_at hy
    exact ⟨j, y, h1, h2, hc⟩⟩
  have kl : ((t.length : Int) != (q.length : Int)) = false := bne_eq_false_iff_eq.2 (by omega)
  have hlt9 : (t.length : Int) ≤ 9060 := by omega
  clear hia hib0 hra hrb hrel hxb ht hIt hq hO17 hLt hlq
  go_enter Tryd.func8, Tryd.ntmps8
  go_upto_region 6 with (first|go_skip|((with_reducible refine gate_dst (N := 5) rfl ?_);(with_reducible refine' bz HM ?qw rfl ?qa ?qc ?_);(case qw|qa|qc=>rfl);clear HM;intro g5 _ HM)|((with_reducible refine gate_dst (N := 6) rfl ?_);(with_reducible refine' bz HM ?qw rfl ?qa ?qc ?_);(case qw|qa|qc=>rfl);clear HM;intro g6 _ HM)|((with_reducible refine gate_dst (N := 7) rfl ?_);(with_reducible refine' bz HM ?qw rfl ?qa ?qc ?_);(case qw|qa|qc=>rfl);clear HM;intro g7 _ HM)|((with_reducible refine gate_dst (N := 8) rfl ?_);(with_reducible refine' bz HM ?qw rfl ?qa ?qc ?_);(case qw|qa|qc=>rfl);clear HM;intro g8 _ HM)|((with_reducible refine' lc HM ?qw rfl ?qx ?qm ?qa ?qv ?_);(case qw|qx|qa=>rfl);(case qm=>repeat constructor);(case qv=>rfl))|((with_reducible refine' la HM ?qw rfl ?qx ?qm ?qa ?_);(case qw|qx=>rfl);(case qm=>repeat constructor);(case qa=>rfl))|((with_reducible refine' pa HM ?qw rfl ?qx _ ?qy ?qm ?qa ?_);(case qw|qx|qy=>rfl);(case qm=>repeat constructor);(case qa=>rfl);clear HM;intro _ HM)|(go_at_call 27;refine (lays_M HM.out).mono ?_;rintro e _ ⟨rfl, hM⟩;clear HM;have HM:=Aside0.mk hM;clear hM)|(go_at_call 28; (refine (HPA.out _ _ _ _ _ HM.out (fun _ h => h.1)).mono ?_); rintro e _ ⟨Aa, ca, Awa, cwa, rfl, hc, hcw, hM⟩; have HCa := Aside0.mk hc; have HCWa := Aside0.mk hcw; clear hc hcw; clear HM;have HM:=Aside0.mk hM;clear hM))
  go_upto_region 7 with (first|go_skip|((with_reducible refine gate_dst (N := 5) rfl ?_);(with_reducible refine' bz HM ?qw rfl ?qa ?qc ?_);(case qw|qa|qc=>rfl);clear HM;intro g5 _ HM)|((with_reducible refine gate_dst (N := 6) rfl ?_);(with_reducible refine' bz HM ?qw rfl ?qa ?qc ?_);(case qw|qa|qc=>rfl);clear HM;intro g6 _ HM)|((with_reducible refine gate_dst (N := 7) rfl ?_);(with_reducible refine' bz HM ?qw rfl ?qa ?qc ?_);(case qw|qa|qc=>rfl);clear HM;intro g7 _ HM)|((with_reducible refine gate_dst (N := 8) rfl ?_);(with_reducible refine' bz HM ?qw rfl ?qa ?qc ?_);(case qw|qa|qc=>rfl);clear HM;intro g8 _ HM)|((with_reducible refine' lc HM ?qw rfl ?qx ?qm ?qa ?qv ?_);(case qw|qx|qa=>rfl);(case qm=>repeat constructor);(case qv=>rfl))|((with_reducible refine' la HM ?qw rfl ?qx ?qm ?qa ?_);(case qw|qx=>rfl);(case qm=>repeat constructor);(case qa=>rfl))|((with_reducible refine' pa HM ?qw rfl ?qx _ ?qy ?qm ?qa ?_);(case qw|qx|qy=>rfl);(case qm=>repeat constructor);(case qa=>rfl);clear HM;intro _ HM)|(go_at_call 28; (refine (HPB.out _ _ _ _ _ HM.out (fun _ h => h.1.1.2)).mono ?_); rintro e _ ⟨Ab, cb, Awb, cwb, rfl, hc, hcw, hM⟩; have HCb := Aside0.mk hc; have HCWb := Aside0.mk hcw; clear hc hcw; clear HM;have HM:=Aside0.mk hM;clear hM))
  go_upto_region 8 with (first|go_skip|((with_reducible refine gate_dst (N := 9) rfl ?_);(with_reducible refine' bz HM ?qw rfl ?qa ?qc ?_);(case qw|qa|qc=>rfl);clear HM;intro g9 _ HM)|((with_reducible refine' lc HM ?qw rfl ?qx ?qm ?qa ?qv ?_);(case qw|qx|qa=>rfl);(case qm=>repeat constructor);(case qv=>rfl))|((with_reducible refine' la HM ?qw rfl ?qx ?qm ?qa ?_);(case qw|qx=>rfl);(case qm=>repeat constructor);(case qa=>rfl))|((with_reducible refine' pa HM ?qw rfl ?qx _ ?qy ?qm ?qa ?_);(case qw|qx|qy=>rfl);(case qm=>repeat constructor);(case qa=>rfl);clear HM;intro _ HM)|(go_at_call 29; (refine (over_C HIA.out HIB.out (by have := HLA.out; omega) (by have := HLB.out; omega) (by have := HNA.out; omega) (by have := HNB.out; omega) HOV.out HM.out (fun _ h => h.1.1.1.2) (fun _ h => h.1.2) HCa.out HCb.out).mono ?_); rintro e _ ⟨At, ct, rfl, hc, hM⟩; have HCt := Aside0.mk hc; clear hc; clear HM;have HM:=Aside0.mk hM;clear hM))
  go_upto_region 9 with (first|go_skip|((with_reducible refine gate_dst (N := 11) rfl ?_);(with_reducible refine' bz HM ?qw rfl ?qa ?qc ?_);(case qw|qa|qc=>rfl);clear HM;intro g11 _ HM)|((with_reducible refine' lc HM ?qw rfl ?qx ?qm ?qa ?qv ?_);(case qw|qx|qa=>rfl);(case qm=>repeat constructor);(case qv=>rfl))|((with_reducible refine' la HM ?qw rfl ?qx ?qm ?qa ?_);(case qw|qx=>rfl);(case qm=>repeat constructor);(case qa=>rfl))|((with_reducible refine' pa HM ?qw rfl ?qx _ ?qy ?qm ?qa ?_);(case qw|qx|qy=>rfl);(case qm=>repeat constructor);(case qa=>rfl);clear HM;intro _ HM)|(go_at_call 30; (refine (HO17.out _ _ _ _ _ HM.out (fun _ h => h.1.1.1.2) (fun _ h => h.1.2) HCWa.out HCWb.out).mono ?_); rintro e _ ⟨Aq, cq, rfl, hc, hM⟩; have HCq := Aside0.mk hc; clear hc; clear HM;have HM:=Aside0.mk hM;clear hM))
  have hMb := HM.out.imp (S' := (fun w => Tr At t w ∧ Wr Aq q w)) (fun w h => ⟨h.1.2, h.2⟩)
  clear HM
  have HM := Aside0.mk hMb
  clear hMb
  go_wp2_with (first|go_skip|((with_reducible refine' lc HM ?qw rfl ?qx ?qm ?qa ?qv ?_);(case qw|qx|qa=>rfl);(case qm=>repeat constructor);(case qv=>rfl))|((with_reducible refine' la HM ?qw rfl ?qx ?qm ?qa ?_);(case qw|qx=>rfl);(case qm=>repeat constructor);(case qa=>rfl))|((with_reducible refine' pa HM ?qw rfl ?qx _ ?qy ?qm ?qa ?_);(case qw|qx|qy=>rfl);(case qm=>repeat constructor);(case qa=>rfl);clear HM;intro _ HM)|((with_reducible refine' bz HM ?qw rfl ?qa ?qc ?_);(case qw|qa|qc=>rfl);clear HM;intro _ _ HM))
  clear kl
  go_loopw [71] (fun v71 wr => ∃ (i : Nat), v71 = .int .i64 i ∧ Aside0 (i ≤ t.length) ∧ Aside0 (Mem w (fun k => k < w.heap.size) wr ((g11, [.slice Aq q.length cq, .int .i64 nq], 64) :: (g9, [.slice At t.length ct, .int .i64 nq], 35) :: (g8, [.slice Awb ws2.length cwb, .int .i64 nw2], 64) :: (g7, [.slice Ab b.length cb, .int .i64 nw2], 35) :: (g6, [.slice Awa ws.length cwa, .int .i64 nw], 64) :: (g5, [.slice Aa a.length ca, .int .i64 nw], 35) :: []) (fun w => Tr At t w ∧ Wr Aq q w))) (fun v71 _ => t.length - (intOf v71).toNat)
  case atStart => exact ⟨0, rfl, ⟨Nat.zero_le _⟩, HM⟩
  case round =>
    clear HM
    obtain ⟨i, rfl, HIX0, HM⟩ := hrel
    have hib : (i : Int) ≤ 9060 := by have := HIX0.out; omega
    by_cases hlt : i < t.length
    · obtain ⟨j, yw, hix, hyq, hco⟩ := HFQ.out _ (List.getElem_mem hlt)
      have HY := Aside0.mk (HIT.out.clean _ (List.getElem_mem hlt))
      have hpv : ∀ k, i = k + 1 → ∃ pv, t[k]? = some pv ∧ pv.f0.size ≤ 1000000 ∧ cmpP (pp pv) (pp t[i]) < 0 := fun k hk => by
        have hkl : k < t.length := by omega
        have hs := List.pairwise_iff_getElem.1 HIT.out.sorted k i hkl hlt (by omega)
        have hc := HIT.out.clean _ (List.getElem_mem hkl)
        exact ⟨t[k], List.getElem?_eq_getElem hkl, by rw [hc.2, mk_size]; have := hc.1.len; omega, hs⟩
      have hlz : (i : Int) < (t.length : Int) := by omega
      obtain ⟨ad, ea, hx0, hx1, hx2, hx3, hx4, hx5, hx6, hx7, hx8, hx9, hx10, hx11, hx12⟩ := at_T44 (HM.out.now.1) (i : Int) (by omega) (by omega)
      have hrd : rd_T44 t (i : Int) = t[i] := by unfold rd_T44; rw [Int.toNat_natCast, List.getD_eq_getElem?_getD, List.getElem?_eq_getElem hlt]; rfl
      rw [Int.toNat_natCast, hrd] at hx0 hx1 hx2 hx3 hx4 hx5 hx6 hx7 hx8 hx9 hx11 hx12
      rw [Int.toNat_natCast] at hx10
      generalize t[i] = y at hx0 hx1 hx2 hx3 hx4 hx5 hx6 hx7 hx8 hx9 hx11 hx12 hix hco hpv HY
      clear hrd
      subst ea
      have HSY := Aside0.mk (show y.f0.size ≤ 1000000 by have := HY.out; rw [this.2, mk_size]; have := this.1.len; omega)
      have HIX := Aside0.mk hix
      obtain ⟨v0, v1, v2, v3, v4⟩ := yw
      obtain ⟨e1, e2, e3, hmk⟩ := hco
      simp only at e1 e2 e3 hmk
      subst e1 e2 e3
      have HMK := Aside0.mk hmk
      have HYQ := Aside0.mk hyq
      have hj0 : (0 : Int) ≤ (j : Int) := by omega
      have hj1 : decide ((j : Int) < 0) = false := decide_eq_false (by omega)
      clear hix hyq hmk
      go_upto_region 14 with (first|go_skip|((with_reducible refine gate_dst (N := 14) rfl ?_);(with_reducible refine' bz HM ?qw rfl ?qa ?qc ?_);(case qw|qa|qc=>rfl);clear HM;intro g14 _ HM)|((with_reducible refine' lc HM ?qw rfl ?qx ?qm ?qa ?qv ?_);(case qw|qx|qa=>rfl);(case qm=>repeat constructor);(case qv=>rfl))|((with_reducible refine' la HM ?qw rfl ?qx ?qm ?qa ?_);(case qw|qx=>rfl);(case qm=>repeat constructor);(case qa=>rfl))|((with_reducible refine' pa HM ?qw rfl ?qx _ ?qy ?qm ?qa ?_);(case qw|qx|qy=>rfl);(case qm=>repeat constructor);(case qa=>rfl);clear HM;intro _ HM))
      clear hx0 hx1 hx2 hx3 hx4 hx5 hx6 hx7 hx8 hx9 hx10 hx11 hx12
      have hrow : ∀ (q : S44), [Value.string q.f0, .int .i64 q.f1, .int .i64 q.f2.f0, .int .i64 q.f2.f1, .int .i64 q.f2.f2, .int .i64 q.f2.f3, .int .i64 q.f2.f4, .string q.f2.f5, .string q.f2.f6, .string q.f2.f7, .slice none 0 0, .int .i64 q.f2.f8.f1, .bool q.f2.f9] = rowL q := fun _ => rfl
      rw [hrow] at HM
      clear hrow
      go_upto_region 15 with (first|go_skip|((with_reducible refine' lc HM ?qw rfl ?qx ?qm ?qa ?qv ?_);(case qw|qx|qa=>rfl);(case qm=>repeat constructor);(case qv=>rfl))|((with_reducible refine' la HM ?qw rfl ?qx ?qm ?qa ?_);(case qw|qx=>rfl);(case qm=>repeat constructor);(case qa=>rfl))|((with_reducible refine' pa HM ?qw rfl ?qx _ ?qy ?qm ?qa ?_);(case qw|qx|qy=>rfl);(case qm=>repeat constructor);(case qa=>rfl);clear HM;intro _ HM)|((with_reducible refine' bz HM ?qw rfl ?qa ?qc ?_);(case qw|qa|qc=>rfl);clear HM;intro _ _ HM)|(go_at_call 31; (refine (rfind_some HM.out (fun _ h => h.2) HCq.out HLQ.out HIX.out).mono ?_); rintro e _ ⟨rfl, hM⟩; clear HM;have HM:=Aside0.mk hM;clear hM))
      cases i with
      | zero =>
        clear hpv
        refine r_relA (n := 19) (fun q0 l q_ w' => Mem w (fun k => k < w.heap.size) w' (((g14, rowL y, 44) :: (g11, [.slice Aq q.length cq, .int .i64 nq], 64) :: (g9, [.slice (some ad) t.length ct, .int .i64 nq], 35) :: (g8, [.slice Awb ws2.length cwb, .int .i64 nw2], 64) :: (g7, [.slice Ab b.length cb, .int .i64 nw2], 35) :: (g6, [.slice Awa ws.length cwa, .int .i64 nw], 64) :: (g5, [.slice Aa a.length ca, .int .i64 nw], 35) :: [])) (fun w => Tr (some ad) t w ∧ Wr Aq q w) ∧ Frm q0 q_ [80, 81, 82, 83, 84, 85, 86, 87, 88, 89, 90, 91, 92, 93, 94, 95, 96, 97, 98] ∧ Slots q_ l [(0, 80, Value.int .i64 (j : Int)), (1, 81, Value.bool false), (2, 82, Value.bool false), (3, 83, Value.int .i64 ((0 : Nat) : Int)), (4, 84, Value.bool false), (5, 85, Value.bool false), (6, 86, undef), (7, 87, undef), (8, 88, undef), (9, 89, undef), (10, 90, undef), (11, 91, undef), (12, 92, undef), (13, 93, undef), (14, 94, undef), (15, 95, undef), (16, 96, undef), (17, 97, Value.bool false), (18, 98, Value.bool false)]) (by kernel_rfl) mo8r15Tab (by kernel_rfl) rfl rfl ?_ ?_ ?_
        · exact ⟨HM.out.drew, Frm.refl _ _, Slots.start⟩
        rotate_left
        · intro l q_ w' i o hl hi ho hr ⟨hM, hF, hS⟩ K hK
          clear HM
          obtain ⟨_, rfl⟩ := Array.getElem?_eq_some_iff.1 ho
          clear ho
          have x9 := hF.get (N:=9) (by decide) (rfl:_=Value.pointer (some ⟨g9, 0, none⟩))
          have x13 := hF.get (N:=13) (by decide) (rfl:_=Value.int .i64 ((0 : Nat) : Int))
          have x14 := hF.get (N:=14) (by decide) (rfl:_=Value.pointer (some ⟨g14, 0, none⟩))
          have x15 := hF.get (N:=15) (by decide) (rfl:_=Value.int .i64 (j : Int))
          have hz : q_.tmps.size = _ := hF.z
          have HF := Aside0.mk hF
          clear hF
          have hi2 : i < 19 := hi
          have hc : i = 0 ∨ i = 1 ∨ i = 2 ∨ i = 3 ∨ i = 4 ∨ i = 5 ∨ i = 6 ∨ i = 7 ∨ i = 8 ∨ i = 9 ∨ i = 10 ∨ i = 11 ∨ i = 12 ∨ i = 13 ∨ i = 14 ∨ i = 15 ∨ i = 16 ∨ i = 17 ∨ i = 18 := by omega
          rcases hc with rfl | rfl | rfl | rfl | rfl | rfl | rfl | rfl | rfl | rfl | rfl | rfl | rfl | rfl | rfl | rfl | rfl | rfl | rfl
          · refine k_mv (Value.int .i64 (j : Int)) (wanted_none rfl) (by first|exact .inl rfl|exact .inr rfl) x15 ?_
            exact hK _ _ ⟨hM, HF.out.put _ (by decide), hS.set 0 rfl (by omega) (by rw [hz]; exact Nat.le_of_ble_eq_true rfl) (show ([0, 1, 2, 3, 4, 5, 6, 7, 8, 9, 10, 11, 12, 13, 14, 15, 16, 17, 18] : List Nat).Nodup by decide) (show ([80, 81, 82, 83, 84, 85, 86, 87, 88, 89, 90, 91, 92, 93, 94, 95, 96, 97, 98] : List Nat).Nodup by decide)⟩
          · have x80 := hS.nth 0 rfl (ready_dep hr rfl (show 0 ∈ _ by decide))
            have y80 := slot_get x80
            refine k_pure (Value.bool false) (wanted_none rfl) (by first|(go_simp;done)|(go_simp;simp only [y80];done)|(go_simp;rfl)|(go_simp;simp [bne];done)|(go_simp;rw [IntKind.wrap_i64];omega)|(go_simp;simp only [y80];go_simp)) ?_
            exact hK _ _ ⟨hM, HF.out.put _ (by decide), hS.set 1 rfl (by omega) (by rw [hz]; exact Nat.le_of_ble_eq_true rfl) (show ([0, 1, 2, 3, 4, 5, 6, 7, 8, 9, 10, 11, 12, 13, 14, 15, 16, 17, 18] : List Nat).Nodup by decide) (show ([80, 81, 82, 83, 84, 85, 86, 87, 88, 89, 90, 91, 92, 93, 94, 95, 96, 97, 98] : List Nat).Nodup by decide)⟩
          · have x81 := hS.nth 1 rfl (ready_dep hr rfl (show 1 ∈ _ by decide))
            refine k_mv (Value.bool false) (wanted_none rfl) (by first|exact .inl rfl|exact .inr rfl) x81 ?_
            exact hK _ _ ⟨hM, HF.out.put _ (by decide), hS.set 2 rfl (by omega) (by rw [hz]; exact Nat.le_of_ble_eq_true rfl) (show ([0, 1, 2, 3, 4, 5, 6, 7, 8, 9, 10, 11, 12, 13, 14, 15, 16, 17, 18] : List Nat).Nodup by decide) (show ([80, 81, 82, 83, 84, 85, 86, 87, 88, 89, 90, 91, 92, 93, 94, 95, 96, 97, 98] : List Nat).Nodup by decide)⟩
          · have x82 := hS.nth 2 rfl (ready_dep hr rfl (show 2 ∈ _ by decide))
            refine k_mv (Value.int .i64 ((0 : Nat) : Int)) (wanted_at (want := false) (b := false) rfl rfl rfl x82 (by rw [hz]; exact Nat.le_of_ble_eq_true rfl)) (by first|exact .inl rfl|exact .inr rfl) x13 ?_
            exact hK _ _ ⟨hM, HF.out.put _ (by decide), hS.set 3 rfl (by omega) (by rw [hz]; exact Nat.le_of_ble_eq_true rfl) (show ([0, 1, 2, 3, 4, 5, 6, 7, 8, 9, 10, 11, 12, 13, 14, 15, 16, 17, 18] : List Nat).Nodup by decide) (show ([80, 81, 82, 83, 84, 85, 86, 87, 88, 89, 90, 91, 92, 93, 94, 95, 96, 97, 98] : List Nat).Nodup by decide)⟩
          · have x82 := hS.nth 2 rfl (ready_dep hr rfl (show 2 ∈ _ by decide))
            have x83 := hS.nth 3 rfl (ready_dep hr rfl (show 3 ∈ _ by decide))
            have y83 := slot_get x83
            refine k_pure (Value.bool false) (wanted_at (want := false) (b := false) rfl rfl rfl x82 (by rw [hz]; exact Nat.le_of_ble_eq_true rfl)) (by first|(go_simp;done)|(go_simp;simp only [y83];done)|(go_simp;rfl)|(go_simp;simp [bne];done)|(go_simp;rw [IntKind.wrap_i64];omega)|(go_simp;simp only [y83];go_simp)) ?_
            exact hK _ _ ⟨hM, HF.out.put _ (by decide), hS.set 4 rfl (by omega) (by rw [hz]; exact Nat.le_of_ble_eq_true rfl) (show ([0, 1, 2, 3, 4, 5, 6, 7, 8, 9, 10, 11, 12, 13, 14, 15, 16, 17, 18] : List Nat).Nodup by decide) (show ([80, 81, 82, 83, 84, 85, 86, 87, 88, 89, 90, 91, 92, 93, 94, 95, 96, 97, 98] : List Nat).Nodup by decide)⟩
          · have x82 := hS.nth 2 rfl (ready_dep hr rfl (show 2 ∈ _ by decide))
            have x84 := hS.nth 4 rfl (ready_dep hr rfl (show 4 ∈ _ by decide))
            refine k_mv (Value.bool false) (wanted_at (want := false) (b := false) rfl rfl rfl x82 (by rw [hz]; exact Nat.le_of_ble_eq_true rfl)) (by first|exact .inl rfl|exact .inr rfl) x84 ?_
            exact hK _ _ ⟨hM, HF.out.put _ (by decide), hS.set 5 rfl (by omega) (by rw [hz]; exact Nat.le_of_ble_eq_true rfl) (show ([0, 1, 2, 3, 4, 5, 6, 7, 8, 9, 10, 11, 12, 13, 14, 15, 16, 17, 18] : List Nat).Nodup by decide) (show ([80, 81, 82, 83, 84, 85, 86, 87, 88, 89, 90, 91, 92, 93, 94, 95, 96, 97, 98] : List Nat).Nodup by decide)⟩
          · have x85 := hS.nth 5 rfl (ready_dep hr rfl (show 5 ∈ _ by decide))
            refine k_skip (wanted_at (want := true) (b := false) rfl rfl rfl x85 (by rw [hz]; exact Nat.le_of_ble_eq_true rfl)) ?_
            exact hK _ _ ⟨hM, HF.out.put _ (by decide), hS.set 6 rfl (by omega) (by rw [hz]; exact Nat.le_of_ble_eq_true rfl) (show ([0, 1, 2, 3, 4, 5, 6, 7, 8, 9, 10, 11, 12, 13, 14, 15, 16, 17, 18] : List Nat).Nodup by decide) (show ([80, 81, 82, 83, 84, 85, 86, 87, 88, 89, 90, 91, 92, 93, 94, 95, 96, 97, 98] : List Nat).Nodup by decide)⟩
          · have x85 := hS.nth 5 rfl (ready_dep hr rfl (show 5 ∈ _ by decide))
            refine k_skip (wanted_at (want := true) (b := false) rfl rfl rfl x85 (by rw [hz]; exact Nat.le_of_ble_eq_true rfl)) ?_
            exact hK _ _ ⟨hM, HF.out.put _ (by decide), hS.set 7 rfl (by omega) (by rw [hz]; exact Nat.le_of_ble_eq_true rfl) (show ([0, 1, 2, 3, 4, 5, 6, 7, 8, 9, 10, 11, 12, 13, 14, 15, 16, 17, 18] : List Nat).Nodup by decide) (show ([80, 81, 82, 83, 84, 85, 86, 87, 88, 89, 90, 91, 92, 93, 94, 95, 96, 97, 98] : List Nat).Nodup by decide)⟩
          · have x85 := hS.nth 5 rfl (ready_dep hr rfl (show 5 ∈ _ by decide))
            refine k_skip (wanted_at (want := true) (b := false) rfl rfl rfl x85 (by rw [hz]; exact Nat.le_of_ble_eq_true rfl)) ?_
            exact hK _ _ ⟨hM, HF.out.put _ (by decide), hS.set 8 rfl (by omega) (by rw [hz]; exact Nat.le_of_ble_eq_true rfl) (show ([0, 1, 2, 3, 4, 5, 6, 7, 8, 9, 10, 11, 12, 13, 14, 15, 16, 17, 18] : List Nat).Nodup by decide) (show ([80, 81, 82, 83, 84, 85, 86, 87, 88, 89, 90, 91, 92, 93, 94, 95, 96, 97, 98] : List Nat).Nodup by decide)⟩
          · have x85 := hS.nth 5 rfl (ready_dep hr rfl (show 5 ∈ _ by decide))
            refine k_skip (wanted_at (want := true) (b := false) rfl rfl rfl x85 (by rw [hz]; exact Nat.le_of_ble_eq_true rfl)) ?_
            exact hK _ _ ⟨hM, HF.out.put _ (by decide), hS.set 9 rfl (by omega) (by rw [hz]; exact Nat.le_of_ble_eq_true rfl) (show ([0, 1, 2, 3, 4, 5, 6, 7, 8, 9, 10, 11, 12, 13, 14, 15, 16, 17, 18] : List Nat).Nodup by decide) (show ([80, 81, 82, 83, 84, 85, 86, 87, 88, 89, 90, 91, 92, 93, 94, 95, 96, 97, 98] : List Nat).Nodup by decide)⟩
          · have x85 := hS.nth 5 rfl (ready_dep hr rfl (show 5 ∈ _ by decide))
            refine k_skip (wanted_at (want := true) (b := false) rfl rfl rfl x85 (by rw [hz]; exact Nat.le_of_ble_eq_true rfl)) ?_
            exact hK _ _ ⟨hM, HF.out.put _ (by decide), hS.set 10 rfl (by omega) (by rw [hz]; exact Nat.le_of_ble_eq_true rfl) (show ([0, 1, 2, 3, 4, 5, 6, 7, 8, 9, 10, 11, 12, 13, 14, 15, 16, 17, 18] : List Nat).Nodup by decide) (show ([80, 81, 82, 83, 84, 85, 86, 87, 88, 89, 90, 91, 92, 93, 94, 95, 96, 97, 98] : List Nat).Nodup by decide)⟩
          · have x85 := hS.nth 5 rfl (ready_dep hr rfl (show 5 ∈ _ by decide))
            refine k_skip (wanted_at (want := true) (b := false) rfl rfl rfl x85 (by rw [hz]; exact Nat.le_of_ble_eq_true rfl)) ?_
            exact hK _ _ ⟨hM, HF.out.put _ (by decide), hS.set 11 rfl (by omega) (by rw [hz]; exact Nat.le_of_ble_eq_true rfl) (show ([0, 1, 2, 3, 4, 5, 6, 7, 8, 9, 10, 11, 12, 13, 14, 15, 16, 17, 18] : List Nat).Nodup by decide) (show ([80, 81, 82, 83, 84, 85, 86, 87, 88, 89, 90, 91, 92, 93, 94, 95, 96, 97, 98] : List Nat).Nodup by decide)⟩
          · have x85 := hS.nth 5 rfl (ready_dep hr rfl (show 5 ∈ _ by decide))
            refine k_skip (wanted_at (want := true) (b := false) rfl rfl rfl x85 (by rw [hz]; exact Nat.le_of_ble_eq_true rfl)) ?_
            exact hK _ _ ⟨hM, HF.out.put _ (by decide), hS.set 12 rfl (by omega) (by rw [hz]; exact Nat.le_of_ble_eq_true rfl) (show ([0, 1, 2, 3, 4, 5, 6, 7, 8, 9, 10, 11, 12, 13, 14, 15, 16, 17, 18] : List Nat).Nodup by decide) (show ([80, 81, 82, 83, 84, 85, 86, 87, 88, 89, 90, 91, 92, 93, 94, 95, 96, 97, 98] : List Nat).Nodup by decide)⟩
          · have x85 := hS.nth 5 rfl (ready_dep hr rfl (show 5 ∈ _ by decide))
            refine k_skip (wanted_at (want := true) (b := false) rfl rfl rfl x85 (by rw [hz]; exact Nat.le_of_ble_eq_true rfl)) ?_
            exact hK _ _ ⟨hM, HF.out.put _ (by decide), hS.set 13 rfl (by omega) (by rw [hz]; exact Nat.le_of_ble_eq_true rfl) (show ([0, 1, 2, 3, 4, 5, 6, 7, 8, 9, 10, 11, 12, 13, 14, 15, 16, 17, 18] : List Nat).Nodup by decide) (show ([80, 81, 82, 83, 84, 85, 86, 87, 88, 89, 90, 91, 92, 93, 94, 95, 96, 97, 98] : List Nat).Nodup by decide)⟩
          · have x85 := hS.nth 5 rfl (ready_dep hr rfl (show 5 ∈ _ by decide))
            refine k_skip (wanted_at (want := true) (b := false) rfl rfl rfl x85 (by rw [hz]; exact Nat.le_of_ble_eq_true rfl)) ?_
            exact hK _ _ ⟨hM, HF.out.put _ (by decide), hS.set 14 rfl (by omega) (by rw [hz]; exact Nat.le_of_ble_eq_true rfl) (show ([0, 1, 2, 3, 4, 5, 6, 7, 8, 9, 10, 11, 12, 13, 14, 15, 16, 17, 18] : List Nat).Nodup by decide) (show ([80, 81, 82, 83, 84, 85, 86, 87, 88, 89, 90, 91, 92, 93, 94, 95, 96, 97, 98] : List Nat).Nodup by decide)⟩
          · have x85 := hS.nth 5 rfl (ready_dep hr rfl (show 5 ∈ _ by decide))
            refine k_skip (wanted_at (want := true) (b := false) rfl rfl rfl x85 (by rw [hz]; exact Nat.le_of_ble_eq_true rfl)) ?_
            exact hK _ _ ⟨hM, HF.out.put _ (by decide), hS.set 15 rfl (by omega) (by rw [hz]; exact Nat.le_of_ble_eq_true rfl) (show ([0, 1, 2, 3, 4, 5, 6, 7, 8, 9, 10, 11, 12, 13, 14, 15, 16, 17, 18] : List Nat).Nodup by decide) (show ([80, 81, 82, 83, 84, 85, 86, 87, 88, 89, 90, 91, 92, 93, 94, 95, 96, 97, 98] : List Nat).Nodup by decide)⟩
          · have x85 := hS.nth 5 rfl (ready_dep hr rfl (show 5 ∈ _ by decide))
            refine k_skip (wanted_at (want := true) (b := false) rfl rfl rfl x85 (by rw [hz]; exact Nat.le_of_ble_eq_true rfl)) ?_
            exact hK _ _ ⟨hM, HF.out.put _ (by decide), hS.set 16 rfl (by omega) (by rw [hz]; exact Nat.le_of_ble_eq_true rfl) (show ([0, 1, 2, 3, 4, 5, 6, 7, 8, 9, 10, 11, 12, 13, 14, 15, 16, 17, 18] : List Nat).Nodup by decide) (show ([80, 81, 82, 83, 84, 85, 86, 87, 88, 89, 90, 91, 92, 93, 94, 95, 96, 97, 98] : List Nat).Nodup by decide)⟩
          · have x82 := hS.nth 2 rfl (ready_dep hr rfl (show 2 ∈ _ by decide))
            have x85 := hS.nth 5 rfl (ready_dep hr rfl (show 5 ∈ _ by decide))
            have x96 := hS.nth 16 rfl (ready_dep hr rfl (show 16 ∈ _ by decide))
            have y85 := slot_get x85
            have y96 := slot_get x96
            refine k_pure (Value.bool false) (wanted_at (want := false) (b := false) rfl rfl rfl x82 (by rw [hz]; exact Nat.le_of_ble_eq_true rfl)) (by first|(go_simp;done)|(go_simp;simp only [y85, y96];done)|(go_simp;rfl)|(go_simp;simp [bne];done)|(go_simp;rw [IntKind.wrap_i64];omega)|(go_simp;simp only [y85, y96];go_simp)) ?_
            exact hK _ _ ⟨hM, HF.out.put _ (by decide), hS.set 17 rfl (by omega) (by rw [hz]; exact Nat.le_of_ble_eq_true rfl) (show ([0, 1, 2, 3, 4, 5, 6, 7, 8, 9, 10, 11, 12, 13, 14, 15, 16, 17, 18] : List Nat).Nodup by decide) (show ([80, 81, 82, 83, 84, 85, 86, 87, 88, 89, 90, 91, 92, 93, 94, 95, 96, 97, 98] : List Nat).Nodup by decide)⟩
          · have x82 := hS.nth 2 rfl (ready_dep hr rfl (show 2 ∈ _ by decide))
            have x97 := hS.nth 17 rfl (ready_dep hr rfl (show 17 ∈ _ by decide))
            have y82 := slot_get x82
            have y97 := slot_get x97
            refine k_pure (Value.bool false) (wanted_none rfl) (by first|(go_simp;done)|(go_simp;simp only [y82, y97];done)|(go_simp;rfl)|(go_simp;simp [bne];done)|(go_simp;rw [IntKind.wrap_i64];omega)|(go_simp;simp only [y82, y97];go_simp)) ?_
            exact hK _ _ ⟨hM, HF.out.put _ (by decide), hS.set 18 rfl (by omega) (by rw [hz]; exact Nat.le_of_ble_eq_true rfl) (show ([0, 1, 2, 3, 4, 5, 6, 7, 8, 9, 10, 11, 12, 13, 14, 15, 16, 17, 18] : List Nat).Nodup by decide) (show ([80, 81, 82, 83, 84, 85, 86, 87, 88, 89, 90, 91, 92, 93, 94, 95, 96, 97, 98] : List Nat).Nodup by decide)⟩
        intro q_ w' ⟨hM, hF, hS⟩
        have hA := hS.all hF (by intro e he; simp only [List.mem_cons, List.not_mem_nil, or_false] at he; rcases he with rfl | rfl | rfl | rfl | rfl | rfl | rfl | rfl | rfl | rfl | rfl | rfl | rfl | rfl | rfl | rfl | rfl | rfl | rfl <;> exact Nat.le_of_ble_eq_true rfl) (by intro e he; simp only [List.mem_cons, List.not_mem_nil, or_false] at he; rcases he with rfl | rfl | rfl | rfl | rfl | rfl | rfl | rfl | rfl | rfl | rfl | rfl | rfl | rfl | rfl | rfl | rfl | rfl | rfl <;> exact Nat.le_of_ble_eq_true rfl) (show ([80, 81, 82, 83, 84, 85, 86, 87, 88, 89, 90, 91, 92, 93, 94, 95, 96, 97, 98] : List Nat).Nodup by decide)
        subst hA
        clear HM
        have HM := Aside0.mk hM
        clear hM hF hS
        simp only [fillAll, List.map_cons, List.map_nil, Act.put, List.setIfInBounds_toArray, List.set_cons_zero, List.set_cons_succ]
        go_upto_region 17 with (first|go_skip|((with_reducible refine' lc HM ?qw rfl ?qx ?qm ?qa ?qv ?_);(case qw|qx|qa=>rfl);(case qm=>repeat constructor);(case qv=>rfl))|((with_reducible refine' la HM ?qw rfl ?qx ?qm ?qa ?_);(case qw|qx=>rfl);(case qm=>repeat constructor);(case qa=>rfl))|((with_reducible refine' pa HM ?qw rfl ?qx _ ?qy ?qm ?qa ?_);(case qw|qx|qy=>rfl);(case qm=>repeat constructor);(case qa=>rfl);clear HM;intro _ HM)|((with_reducible refine' bz HM ?qw rfl ?qa ?qc ?_);(case qw|qa|qc=>rfl);clear HM;intro _ _ HM))
        have hqj : (j : Int) < (q.length : Int) := by have := ix_lt HIX.out; omega
        obtain ⟨aq, eq, hw0, hw1, hw2, hw3, hw4⟩ := at_T73 HM.out.now.2 (j : Int) (by omega) (by omega)
        rw [rd_nat73, HYQ.out, Int.toNat_natCast] at hw0 hw1 hw2 hw3 hw4
        simp only at hw0 hw1 hw2 hw3 hw4
        subst eq
        go_upto_region 18 with (first|go_skip|((with_reducible refine' lc HM ?qw rfl ?qx ?qm ?qa ?qv ?_);(case qw|qx|qa=>rfl);(case qm=>repeat constructor);(case qv=>rfl))|((with_reducible refine' la HM ?qw rfl ?qx ?qm ?qa ?_);(case qw|qx=>rfl);(case qm=>repeat constructor);(case qa=>rfl))|((with_reducible refine' pa HM ?qw rfl ?qx _ ?qy ?qm ?qa ?_);(case qw|qx|qy=>rfl);(case qm=>repeat constructor);(case qa=>rfl);clear HM;intro _ HM)|((with_reducible refine' bz HM ?qw rfl ?qa ?qc ?_);(case qw|qa|qc=>rfl);clear HM;intro _ _ HM))
        clear hw0 hw1 hw2 hw3 hw4
        rcases Bool.eq_false_or_eq_true y.f2.f9 with hm9 | hm9
        · have k3 : (!y.f2.f9) = false := by rw [hm9]; rfl
          clear hm9
          go_wp2_with (first|go_skip|((with_reducible refine' lc HM ?qw rfl ?qx ?qm ?qa ?qv ?_);(case qw|qx|qa=>rfl);(case qm=>repeat constructor);(case qv=>rfl))|((with_reducible refine' la HM ?qw rfl ?qx ?qm ?qa ?_);(case qw|qx=>rfl);(case qm=>repeat constructor);(case qa=>rfl))|((with_reducible refine' pa HM ?qw rfl ?qx _ ?qy ?qm ?qa ?_);(case qw|qx|qy=>rfl);(case qm=>repeat constructor);(case qa=>rfl);clear HM;intro _ HM)|((with_reducible refine' bz HM ?qw rfl ?qa ?qc ?_);(case qw|qa|qc=>rfl);clear HM;intro _ _ HM))
          go_roundw
          case rel => exact ⟨1, by go_num, ⟨by omega⟩, ⟨HM.out.drop.drop⟩⟩
          case measure => simp [intOf]; omega
        · have k3 : (!y.f2.f9) = true := by rw [hm9]; rfl
          have hmk := HMK.out hm9
          have k4 : (y.f2.f1 != v2) = false := bne_eq_false_iff_eq.2 (by omega)
          clear hm9 hmk
          go_wp2_with (first|go_skip|((with_reducible refine' lc HM ?qw rfl ?qx ?qm ?qa ?qv ?_);(case qw|qx|qa=>rfl);(case qm=>repeat constructor);(case qv=>rfl))|((with_reducible refine' la HM ?qw rfl ?qx ?qm ?qa ?_);(case qw|qx=>rfl);(case qm=>repeat constructor);(case qa=>rfl))|((with_reducible refine' pa HM ?qw rfl ?qx _ ?qy ?qm ?qa ?_);(case qw|qx|qy=>rfl);(case qm=>repeat constructor);(case qa=>rfl);clear HM;intro _ HM)|((with_reducible refine' bz HM ?qw rfl ?qa ?qc ?_);(case qw|qa|qc=>rfl);clear HM;intro _ _ HM))
          go_roundw
          case rel => exact ⟨1, by go_num, ⟨by omega⟩, ⟨HM.out.drop.drop⟩⟩
          case measure => simp [intOf]; omega
      | succ k =>
        obtain ⟨pv, hpk, hps, hcm⟩ := hpv k rfl
        have hk1 : (k : Int) + 1 ≤ 9060 := by omega
        have hkt : (k : Int) < (t.length : Int) := by omega
        have HSZ := Aside0.mk (And.intro hps HSY.out)
        have hcm2 : decide (0 ≤ cmpP (pp pv) (pp y)) = false := decide_eq_false (by omega)
        have HPV : Aside0 (∀ w, Tr (some ad) t w → w.cell? (ad.add (k * 13)) = some (.string pv.f0)) := ⟨fun w hw => by
          obtain ⟨ad2, ea2, hx0, _⟩ := at_T44 hw (k : Int) (by omega) (by omega)
          injection ea2 with ea2
          subst ea2
          rw [Int.toNat_natCast, show rd_T44 t (k : Int) = pv by unfold rd_T44; rw [Int.toNat_natCast, List.getD_eq_getElem?_getD, hpk]; rfl] at hx0
          exact hx0⟩
        clear hpv hpk hps hcm
        refine r_relA (n := 19) (fun q0 l q_ w' => Mem w (fun k => k < w.heap.size) w' (((g14, rowL y, 44) :: (g11, [.slice Aq q.length cq, .int .i64 nq], 64) :: (g9, [.slice (some ad) t.length ct, .int .i64 nq], 35) :: (g8, [.slice Awb ws2.length cwb, .int .i64 nw2], 64) :: (g7, [.slice Ab b.length cb, .int .i64 nw2], 35) :: (g6, [.slice Awa ws.length cwa, .int .i64 nw], 64) :: (g5, [.slice Aa a.length ca, .int .i64 nw], 35) :: [])) (fun w => Tr (some ad) t w ∧ Wr Aq q w) ∧ Frm q0 q_ [80, 81, 82, 83, 84, 85, 86, 87, 88, 89, 90, 91, 92, 93, 94, 95, 96, 97, 98] ∧ Slots q_ l [(0, 80, Value.int .i64 (j : Int)), (1, 81, Value.bool false), (2, 82, Value.bool false), (3, 83, Value.int .i64 ((k + 1 : Nat) : Int)), (4, 84, Value.bool true), (5, 85, Value.bool true), (6, 86, Value.pointer (some ⟨g9, 0, none⟩)), (7, 87, Value.slice (some ad) t.length ct), (8, 88, Value.int .i64 ((k + 1 : Nat) : Int)), (9, 89, Value.int .i64 (k : Int)), (10, 90, Value.pointer (some (ad.add (k * 13)))), (11, 91, Value.pointer (some (ad.add (k * 13)))), (12, 92, Value.string pv.f0), (13, 93, Value.pointer (some ⟨g14, 0, none⟩)), (14, 94, Value.string y.f0), (15, 95, Value.int .i64 (cmpP (pp pv) (pp y))), (16, 96, Value.bool false), (17, 97, Value.bool false), (18, 98, Value.bool false)]) (by kernel_rfl) mo8r15Tab (by kernel_rfl) rfl rfl ?_ ?_ ?_
        · exact ⟨HM.out.drew, Frm.refl _ _, Slots.start⟩
        rotate_left
        · intro l q_ w' i o hl hi ho hr ⟨hM, hF, hS⟩ K hK
          clear HM
          obtain ⟨_, rfl⟩ := Array.getElem?_eq_some_iff.1 ho
          clear ho
          have x9 := hF.get (N:=9) (by decide) (rfl:_=Value.pointer (some ⟨g9, 0, none⟩))
          have x13 := hF.get (N:=13) (by decide) (rfl:_=Value.int .i64 ((k + 1 : Nat) : Int))
          have x14 := hF.get (N:=14) (by decide) (rfl:_=Value.pointer (some ⟨g14, 0, none⟩))
          have x15 := hF.get (N:=15) (by decide) (rfl:_=Value.int .i64 (j : Int))
          have hz : q_.tmps.size = _ := hF.z
          have HF := Aside0.mk hF
          clear hF
          have hi2 : i < 19 := hi
          have hc : i = 0 ∨ i = 1 ∨ i = 2 ∨ i = 3 ∨ i = 4 ∨ i = 5 ∨ i = 6 ∨ i = 7 ∨ i = 8 ∨ i = 9 ∨ i = 10 ∨ i = 11 ∨ i = 12 ∨ i = 13 ∨ i = 14 ∨ i = 15 ∨ i = 16 ∨ i = 17 ∨ i = 18 := by omega
          rcases hc with rfl | rfl | rfl | rfl | rfl | rfl | rfl | rfl | rfl | rfl | rfl | rfl | rfl | rfl | rfl | rfl | rfl | rfl | rfl
          · refine k_mv (Value.int .i64 (j : Int)) (wanted_none rfl) (by first|exact .inl rfl|exact .inr rfl) x15 ?_
            exact hK _ _ ⟨hM, HF.out.put _ (by decide), hS.set 0 rfl (by omega) (by rw [hz]; exact Nat.le_of_ble_eq_true rfl) (show ([0, 1, 2, 3, 4, 5, 6, 7, 8, 9, 10, 11, 12, 13, 14, 15, 16, 17, 18] : List Nat).Nodup by decide) (show ([80, 81, 82, 83, 84, 85, 86, 87, 88, 89, 90, 91, 92, 93, 94, 95, 96, 97, 98] : List Nat).Nodup by decide)⟩
          · have x80 := hS.nth 0 rfl (ready_dep hr rfl (show 0 ∈ _ by decide))
            have y80 := slot_get x80
            refine k_pure (Value.bool false) (wanted_none rfl) (by first|(go_simp;done)|(go_simp;simp only [y80];done)|(go_simp;rfl)|(go_simp;simp [bne];done)|(go_simp;rw [IntKind.wrap_i64];omega)|(go_simp;simp only [y80];go_simp)) ?_
            exact hK _ _ ⟨hM, HF.out.put _ (by decide), hS.set 1 rfl (by omega) (by rw [hz]; exact Nat.le_of_ble_eq_true rfl) (show ([0, 1, 2, 3, 4, 5, 6, 7, 8, 9, 10, 11, 12, 13, 14, 15, 16, 17, 18] : List Nat).Nodup by decide) (show ([80, 81, 82, 83, 84, 85, 86, 87, 88, 89, 90, 91, 92, 93, 94, 95, 96, 97, 98] : List Nat).Nodup by decide)⟩
          · have x81 := hS.nth 1 rfl (ready_dep hr rfl (show 1 ∈ _ by decide))
            refine k_mv (Value.bool false) (wanted_none rfl) (by first|exact .inl rfl|exact .inr rfl) x81 ?_
            exact hK _ _ ⟨hM, HF.out.put _ (by decide), hS.set 2 rfl (by omega) (by rw [hz]; exact Nat.le_of_ble_eq_true rfl) (show ([0, 1, 2, 3, 4, 5, 6, 7, 8, 9, 10, 11, 12, 13, 14, 15, 16, 17, 18] : List Nat).Nodup by decide) (show ([80, 81, 82, 83, 84, 85, 86, 87, 88, 89, 90, 91, 92, 93, 94, 95, 96, 97, 98] : List Nat).Nodup by decide)⟩
          · have x82 := hS.nth 2 rfl (ready_dep hr rfl (show 2 ∈ _ by decide))
            refine k_mv (Value.int .i64 ((k + 1 : Nat) : Int)) (wanted_at (want := false) (b := false) rfl rfl rfl x82 (by rw [hz]; exact Nat.le_of_ble_eq_true rfl)) (by first|exact .inl rfl|exact .inr rfl) x13 ?_
            exact hK _ _ ⟨hM, HF.out.put _ (by decide), hS.set 3 rfl (by omega) (by rw [hz]; exact Nat.le_of_ble_eq_true rfl) (show ([0, 1, 2, 3, 4, 5, 6, 7, 8, 9, 10, 11, 12, 13, 14, 15, 16, 17, 18] : List Nat).Nodup by decide) (show ([80, 81, 82, 83, 84, 85, 86, 87, 88, 89, 90, 91, 92, 93, 94, 95, 96, 97, 98] : List Nat).Nodup by decide)⟩
          · have x82 := hS.nth 2 rfl (ready_dep hr rfl (show 2 ∈ _ by decide))
            have x83 := hS.nth 3 rfl (ready_dep hr rfl (show 3 ∈ _ by decide))
            have y83 := slot_get x83
            refine k_pure (Value.bool true) (wanted_at (want := false) (b := false) rfl rfl rfl x82 (by rw [hz]; exact Nat.le_of_ble_eq_true rfl)) (by first|(go_simp;done)|(go_simp;simp only [y83];done)|(go_simp;rfl)|(go_simp;simp [bne];done)|(go_simp;rw [IntKind.wrap_i64];omega)|(go_simp;simp only [y83];go_simp)) ?_
            exact hK _ _ ⟨hM, HF.out.put _ (by decide), hS.set 4 rfl (by omega) (by rw [hz]; exact Nat.le_of_ble_eq_true rfl) (show ([0, 1, 2, 3, 4, 5, 6, 7, 8, 9, 10, 11, 12, 13, 14, 15, 16, 17, 18] : List Nat).Nodup by decide) (show ([80, 81, 82, 83, 84, 85, 86, 87, 88, 89, 90, 91, 92, 93, 94, 95, 96, 97, 98] : List Nat).Nodup by decide)⟩
          · have x82 := hS.nth 2 rfl (ready_dep hr rfl (show 2 ∈ _ by decide))
            have x84 := hS.nth 4 rfl (ready_dep hr rfl (show 4 ∈ _ by decide))
            refine k_mv (Value.bool true) (wanted_at (want := false) (b := false) rfl rfl rfl x82 (by rw [hz]; exact Nat.le_of_ble_eq_true rfl)) (by first|exact .inl rfl|exact .inr rfl) x84 ?_
            exact hK _ _ ⟨hM, HF.out.put _ (by decide), hS.set 5 rfl (by omega) (by rw [hz]; exact Nat.le_of_ble_eq_true rfl) (show ([0, 1, 2, 3, 4, 5, 6, 7, 8, 9, 10, 11, 12, 13, 14, 15, 16, 17, 18] : List Nat).Nodup by decide) (show ([80, 81, 82, 83, 84, 85, 86, 87, 88, 89, 90, 91, 92, 93, 94, 95, 96, 97, 98] : List Nat).Nodup by decide)⟩
          · have x85 := hS.nth 5 rfl (ready_dep hr rfl (show 5 ∈ _ by decide))
            refine k_fa (Value.pointer (some ⟨g9, 0, none⟩)) (wanted_at (want := true) (b := true) rfl rfl rfl x85 (by rw [hz]; exact Nat.le_of_ble_eq_true rfl)) rfl x9 (fun w => by go_simp) ?_
            exact hK _ _ ⟨hM, HF.out.put _ (by decide), hS.set 6 rfl (by omega) (by rw [hz]; exact Nat.le_of_ble_eq_true rfl) (show ([0, 1, 2, 3, 4, 5, 6, 7, 8, 9, 10, 11, 12, 13, 14, 15, 16, 17, 18] : List Nat).Nodup by decide) (show ([80, 81, 82, 83, 84, 85, 86, 87, 88, 89, 90, 91, 92, 93, 94, 95, 96, 97, 98] : List Nat).Nodup by decide)⟩
          · have x85 := hS.nth 5 rfl (ready_dep hr rfl (show 5 ∈ _ by decide))
            have x86 := hS.nth 6 rfl (ready_dep hr rfl (show 6 ∈ _ by decide))
            refine k_cell hM (wanted_at (want := true) (b := true) rfl rfl rfl x85 (by rw [hz]; exact Nat.le_of_ble_eq_true rfl)) rfl x86 (by repeat constructor) rfl rfl ?_
            exact hK _ _ ⟨hM, HF.out.put _ (by decide), hS.set 7 rfl (by omega) (by rw [hz]; exact Nat.le_of_ble_eq_true rfl) (show ([0, 1, 2, 3, 4, 5, 6, 7, 8, 9, 10, 11, 12, 13, 14, 15, 16, 17, 18] : List Nat).Nodup by decide) (show ([80, 81, 82, 83, 84, 85, 86, 87, 88, 89, 90, 91, 92, 93, 94, 95, 96, 97, 98] : List Nat).Nodup by decide)⟩
          · have x85 := hS.nth 5 rfl (ready_dep hr rfl (show 5 ∈ _ by decide))
            refine k_mv (Value.int .i64 ((k + 1 : Nat) : Int)) (wanted_at (want := true) (b := true) rfl rfl rfl x85 (by rw [hz]; exact Nat.le_of_ble_eq_true rfl)) (by first|exact .inl rfl|exact .inr rfl) x13 ?_
            exact hK _ _ ⟨hM, HF.out.put _ (by decide), hS.set 8 rfl (by omega) (by rw [hz]; exact Nat.le_of_ble_eq_true rfl) (show ([0, 1, 2, 3, 4, 5, 6, 7, 8, 9, 10, 11, 12, 13, 14, 15, 16, 17, 18] : List Nat).Nodup by decide) (show ([80, 81, 82, 83, 84, 85, 86, 87, 88, 89, 90, 91, 92, 93, 94, 95, 96, 97, 98] : List Nat).Nodup by decide)⟩
          · have x85 := hS.nth 5 rfl (ready_dep hr rfl (show 5 ∈ _ by decide))
            have x88 := hS.nth 8 rfl (ready_dep hr rfl (show 8 ∈ _ by decide))
            have y88 := slot_get x88
            refine k_pure (Value.int .i64 (k : Int)) (wanted_at (want := true) (b := true) rfl rfl rfl x85 (by rw [hz]; exact Nat.le_of_ble_eq_true rfl)) (by first|(go_simp;done)|(go_simp;simp only [y88];done)|(go_simp;rfl)|(go_simp;simp [bne];done)|(go_simp;rw [IntKind.wrap_i64];omega)|(go_simp;simp only [y88];go_simp)) ?_
            exact hK _ _ ⟨hM, HF.out.put _ (by decide), hS.set 9 rfl (by omega) (by rw [hz]; exact Nat.le_of_ble_eq_true rfl) (show ([0, 1, 2, 3, 4, 5, 6, 7, 8, 9, 10, 11, 12, 13, 14, 15, 16, 17, 18] : List Nat).Nodup by decide) (show ([80, 81, 82, 83, 84, 85, 86, 87, 88, 89, 90, 91, 92, 93, 94, 95, 96, 97, 98] : List Nat).Nodup by decide)⟩
          · have x85 := hS.nth 5 rfl (ready_dep hr rfl (show 5 ∈ _ by decide))
            have x87 := hS.nth 7 rfl (ready_dep hr rfl (show 7 ∈ _ by decide))
            have x89 := hS.nth 9 rfl (ready_dep hr rfl (show 9 ∈ _ by decide))
            have y87 := slot_get x87
            have y89 := slot_get x89
            refine k_pure (Value.pointer (some (ad.add (k * 13)))) (wanted_at (want := true) (b := true) rfl rfl rfl x85 (by rw [hz]; exact Nat.le_of_ble_eq_true rfl)) (by first|(go_simp;done)|(go_simp;simp only [y87, y89];done)|(go_simp;rfl)|(go_simp;simp [bne];done)|(go_simp;rw [IntKind.wrap_i64];omega)|(go_simp;simp only [y87, y89];go_simp)) ?_
            exact hK _ _ ⟨hM, HF.out.put _ (by decide), hS.set 10 rfl (by omega) (by rw [hz]; exact Nat.le_of_ble_eq_true rfl) (show ([0, 1, 2, 3, 4, 5, 6, 7, 8, 9, 10, 11, 12, 13, 14, 15, 16, 17, 18] : List Nat).Nodup by decide) (show ([80, 81, 82, 83, 84, 85, 86, 87, 88, 89, 90, 91, 92, 93, 94, 95, 96, 97, 98] : List Nat).Nodup by decide)⟩
          · have x85 := hS.nth 5 rfl (ready_dep hr rfl (show 5 ∈ _ by decide))
            have x90 := hS.nth 10 rfl (ready_dep hr rfl (show 10 ∈ _ by decide))
            refine k_fa (Value.pointer (some (ad.add (k * 13)))) (wanted_at (want := true) (b := true) rfl rfl rfl x85 (by rw [hz]; exact Nat.le_of_ble_eq_true rfl)) rfl x90 (fun w => by go_simp) ?_
            exact hK _ _ ⟨hM, HF.out.put _ (by decide), hS.set 11 rfl (by omega) (by rw [hz]; exact Nat.le_of_ble_eq_true rfl) (show ([0, 1, 2, 3, 4, 5, 6, 7, 8, 9, 10, 11, 12, 13, 14, 15, 16, 17, 18] : List Nat).Nodup by decide) (show ([80, 81, 82, 83, 84, 85, 86, 87, 88, 89, 90, 91, 92, 93, 94, 95, 96, 97, 98] : List Nat).Nodup by decide)⟩
          · have x85 := hS.nth 5 rfl (ready_dep hr rfl (show 5 ∈ _ by decide))
            have x91 := hS.nth 11 rfl (ready_dep hr rfl (show 11 ∈ _ by decide))
            refine k_ld (wanted_at (want := true) (b := true) rfl rfl rfl x85 (by rw [hz]; exact Nat.le_of_ble_eq_true rfl)) rfl x91 rfl ((HPV.out _ hM.now.1)) ?_
            exact hK _ _ ⟨hM, HF.out.put _ (by decide), hS.set 12 rfl (by omega) (by rw [hz]; exact Nat.le_of_ble_eq_true rfl) (show ([0, 1, 2, 3, 4, 5, 6, 7, 8, 9, 10, 11, 12, 13, 14, 15, 16, 17, 18] : List Nat).Nodup by decide) (show ([80, 81, 82, 83, 84, 85, 86, 87, 88, 89, 90, 91, 92, 93, 94, 95, 96, 97, 98] : List Nat).Nodup by decide)⟩
          · have x85 := hS.nth 5 rfl (ready_dep hr rfl (show 5 ∈ _ by decide))
            refine k_fa (Value.pointer (some ⟨g14, 0, none⟩)) (wanted_at (want := true) (b := true) rfl rfl rfl x85 (by rw [hz]; exact Nat.le_of_ble_eq_true rfl)) rfl x14 (fun w => by go_simp) ?_
            exact hK _ _ ⟨hM, HF.out.put _ (by decide), hS.set 13 rfl (by omega) (by rw [hz]; exact Nat.le_of_ble_eq_true rfl) (show ([0, 1, 2, 3, 4, 5, 6, 7, 8, 9, 10, 11, 12, 13, 14, 15, 16, 17, 18] : List Nat).Nodup by decide) (show ([80, 81, 82, 83, 84, 85, 86, 87, 88, 89, 90, 91, 92, 93, 94, 95, 96, 97, 98] : List Nat).Nodup by decide)⟩
          · have x85 := hS.nth 5 rfl (ready_dep hr rfl (show 5 ∈ _ by decide))
            have x93 := hS.nth 13 rfl (ready_dep hr rfl (show 13 ∈ _ by decide))
            refine k_cell hM (wanted_at (want := true) (b := true) rfl rfl rfl x85 (by rw [hz]; exact Nat.le_of_ble_eq_true rfl)) rfl x93 (by repeat constructor) rfl rfl ?_
            exact hK _ _ ⟨hM, HF.out.put _ (by decide), hS.set 14 rfl (by omega) (by rw [hz]; exact Nat.le_of_ble_eq_true rfl) (show ([0, 1, 2, 3, 4, 5, 6, 7, 8, 9, 10, 11, 12, 13, 14, 15, 16, 17, 18] : List Nat).Nodup by decide) (show ([80, 81, 82, 83, 84, 85, 86, 87, 88, 89, 90, 91, 92, 93, 94, 95, 96, 97, 98] : List Nat).Nodup by decide)⟩
          · have x85 := hS.nth 5 rfl (ready_dep hr rfl (show 5 ∈ _ by decide))
            have x92 := hS.nth 12 rfl (ready_dep hr rfl (show 12 ∈ _ by decide))
            have x94 := hS.nth 14 rfl (ready_dep hr rfl (show 14 ∈ _ by decide))
            refine goes_ Tryd.func32 (by kernel_rfl) rfl #[Value.string pv.f0, Value.string y.f0] (wanted_at (want := true) (b := true) rfl rfl rfl x85 (by rw [hz]; exact Nat.le_of_ble_eq_true rfl)) rfl rfl (by simp only [List.map_toArray, List.map_cons, List.map_nil, x92, x94]) ?_
            refine (cmpr_M HSZ.out.1 HSZ.out.2 hM).mono ?_
            rintro e w_ ⟨rfl, hM2⟩
            refine ⟨_, rfl, ?_⟩
            exact hK _ _ ⟨hM2, HF.out.put _ (by decide), hS.set 15 rfl (by omega) (by rw [hz]; exact Nat.le_of_ble_eq_true rfl) (show ([0, 1, 2, 3, 4, 5, 6, 7, 8, 9, 10, 11, 12, 13, 14, 15, 16, 17, 18] : List Nat).Nodup by decide) (show ([80, 81, 82, 83, 84, 85, 86, 87, 88, 89, 90, 91, 92, 93, 94, 95, 96, 97, 98] : List Nat).Nodup by decide)⟩
          · have x85 := hS.nth 5 rfl (ready_dep hr rfl (show 5 ∈ _ by decide))
            have x95 := hS.nth 15 rfl (ready_dep hr rfl (show 15 ∈ _ by decide))
            have y95 := slot_get x95
            refine k_pure (Value.bool false) (wanted_at (want := true) (b := true) rfl rfl rfl x85 (by rw [hz]; exact Nat.le_of_ble_eq_true rfl)) (by first|(go_simp;done)|(go_simp;simp only [y95];done)|(go_simp;rfl)|(go_simp;simp [bne];done)|(go_simp;rw [IntKind.wrap_i64];omega)|(go_simp;simp only [y95];go_simp)) ?_
            exact hK _ _ ⟨hM, HF.out.put _ (by decide), hS.set 16 rfl (by omega) (by rw [hz]; exact Nat.le_of_ble_eq_true rfl) (show ([0, 1, 2, 3, 4, 5, 6, 7, 8, 9, 10, 11, 12, 13, 14, 15, 16, 17, 18] : List Nat).Nodup by decide) (show ([80, 81, 82, 83, 84, 85, 86, 87, 88, 89, 90, 91, 92, 93, 94, 95, 96, 97, 98] : List Nat).Nodup by decide)⟩
          · have x82 := hS.nth 2 rfl (ready_dep hr rfl (show 2 ∈ _ by decide))
            have x85 := hS.nth 5 rfl (ready_dep hr rfl (show 5 ∈ _ by decide))
            have x96 := hS.nth 16 rfl (ready_dep hr rfl (show 16 ∈ _ by decide))
            have y85 := slot_get x85
            have y96 := slot_get x96
            refine k_pure (Value.bool false) (wanted_at (want := false) (b := false) rfl rfl rfl x82 (by rw [hz]; exact Nat.le_of_ble_eq_true rfl)) (by first|(go_simp;done)|(go_simp;simp only [y85, y96];done)|(go_simp;rfl)|(go_simp;simp [bne];done)|(go_simp;rw [IntKind.wrap_i64];omega)|(go_simp;simp only [y85, y96];go_simp)) ?_
            exact hK _ _ ⟨hM, HF.out.put _ (by decide), hS.set 17 rfl (by omega) (by rw [hz]; exact Nat.le_of_ble_eq_true rfl) (show ([0, 1, 2, 3, 4, 5, 6, 7, 8, 9, 10, 11, 12, 13, 14, 15, 16, 17, 18] : List Nat).Nodup by decide) (show ([80, 81, 82, 83, 84, 85, 86, 87, 88, 89, 90, 91, 92, 93, 94, 95, 96, 97, 98] : List Nat).Nodup by decide)⟩
          · have x82 := hS.nth 2 rfl (ready_dep hr rfl (show 2 ∈ _ by decide))
            have x97 := hS.nth 17 rfl (ready_dep hr rfl (show 17 ∈ _ by decide))
            have y82 := slot_get x82
            have y97 := slot_get x97
            refine k_pure (Value.bool false) (wanted_none rfl) (by first|(go_simp;done)|(go_simp;simp only [y82, y97];done)|(go_simp;rfl)|(go_simp;simp [bne];done)|(go_simp;rw [IntKind.wrap_i64];omega)|(go_simp;simp only [y82, y97];go_simp)) ?_
            exact hK _ _ ⟨hM, HF.out.put _ (by decide), hS.set 18 rfl (by omega) (by rw [hz]; exact Nat.le_of_ble_eq_true rfl) (show ([0, 1, 2, 3, 4, 5, 6, 7, 8, 9, 10, 11, 12, 13, 14, 15, 16, 17, 18] : List Nat).Nodup by decide) (show ([80, 81, 82, 83, 84, 85, 86, 87, 88, 89, 90, 91, 92, 93, 94, 95, 96, 97, 98] : List Nat).Nodup by decide)⟩
        intro q_ w' ⟨hM, hF, hS⟩
        have hA := hS.all hF (by intro e he; simp only [List.mem_cons, List.not_mem_nil, or_false] at he; rcases he with rfl | rfl | rfl | rfl | rfl | rfl | rfl | rfl | rfl | rfl | rfl | rfl | rfl | rfl | rfl | rfl | rfl | rfl | rfl <;> exact Nat.le_of_ble_eq_true rfl) (by intro e he; simp only [List.mem_cons, List.not_mem_nil, or_false] at he; rcases he with rfl | rfl | rfl | rfl | rfl | rfl | rfl | rfl | rfl | rfl | rfl | rfl | rfl | rfl | rfl | rfl | rfl | rfl | rfl <;> exact Nat.le_of_ble_eq_true rfl) (show ([80, 81, 82, 83, 84, 85, 86, 87, 88, 89, 90, 91, 92, 93, 94, 95, 96, 97, 98] : List Nat).Nodup by decide)
        subst hA
        clear HM
        have HM := Aside0.mk hM
        clear hM hF hS
        simp only [fillAll, List.map_cons, List.map_nil, Act.put, List.setIfInBounds_toArray, List.set_cons_zero, List.set_cons_succ]
        go_upto_region 17 with (first|go_skip|((with_reducible refine' lc HM ?qw rfl ?qx ?qm ?qa ?qv ?_);(case qw|qx|qa=>rfl);(case qm=>repeat constructor);(case qv=>rfl))|((with_reducible refine' la HM ?qw rfl ?qx ?qm ?qa ?_);(case qw|qx=>rfl);(case qm=>repeat constructor);(case qa=>rfl))|((with_reducible refine' pa HM ?qw rfl ?qx _ ?qy ?qm ?qa ?_);(case qw|qx|qy=>rfl);(case qm=>repeat constructor);(case qa=>rfl);clear HM;intro _ HM)|((with_reducible refine' bz HM ?qw rfl ?qa ?qc ?_);(case qw|qa|qc=>rfl);clear HM;intro _ _ HM))
        have hqj : (j : Int) < (q.length : Int) := by have := ix_lt HIX.out; omega
        obtain ⟨aq, eq, hw0, hw1, hw2, hw3, hw4⟩ := at_T73 HM.out.now.2 (j : Int) (by omega) (by omega)
        rw [rd_nat73, HYQ.out, Int.toNat_natCast] at hw0 hw1 hw2 hw3 hw4
        simp only at hw0 hw1 hw2 hw3 hw4
        subst eq
        go_upto_region 18 with (first|go_skip|((with_reducible refine' lc HM ?qw rfl ?qx ?qm ?qa ?qv ?_);(case qw|qx|qa=>rfl);(case qm=>repeat constructor);(case qv=>rfl))|((with_reducible refine' la HM ?qw rfl ?qx ?qm ?qa ?_);(case qw|qx=>rfl);(case qm=>repeat constructor);(case qa=>rfl))|((with_reducible refine' pa HM ?qw rfl ?qx _ ?qy ?qm ?qa ?_);(case qw|qx|qy=>rfl);(case qm=>repeat constructor);(case qa=>rfl);clear HM;intro _ HM)|((with_reducible refine' bz HM ?qw rfl ?qa ?qc ?_);(case qw|qa|qc=>rfl);clear HM;intro _ _ HM))
        clear hw0 hw1 hw2 hw3 hw4
        rcases Bool.eq_false_or_eq_true y.f2.f9 with hm9 | hm9
        · have k3 : (!y.f2.f9) = false := by rw [hm9]; rfl
          clear hm9
          go_wp2_with (first|go_skip|((with_reducible refine' lc HM ?qw rfl ?qx ?qm ?qa ?qv ?_);(case qw|qx|qa=>rfl);(case qm=>repeat constructor);(case qv=>rfl))|((with_reducible refine' la HM ?qw rfl ?qx ?qm ?qa ?_);(case qw|qx=>rfl);(case qm=>repeat constructor);(case qa=>rfl))|((with_reducible refine' pa HM ?qw rfl ?qx _ ?qy ?qm ?qa ?_);(case qw|qx|qy=>rfl);(case qm=>repeat constructor);(case qa=>rfl);clear HM;intro _ HM)|((with_reducible refine' bz HM ?qw rfl ?qa ?qc ?_);(case qw|qa|qc=>rfl);clear HM;intro _ _ HM))
          go_roundw
          case rel => exact ⟨k + 1 + 1, by go_num, ⟨by omega⟩, ⟨HM.out.drop.drop⟩⟩
          case measure => simp [intOf]; omega
        · have k3 : (!y.f2.f9) = true := by rw [hm9]; rfl
          have hmk := HMK.out hm9
          have k4 : (y.f2.f1 != v2) = false := bne_eq_false_iff_eq.2 (by omega)
          clear hm9 hmk
          go_wp2_with (first|go_skip|((with_reducible refine' lc HM ?qw rfl ?qx ?qm ?qa ?qv ?_);(case qw|qx|qa=>rfl);(case qm=>repeat constructor);(case qv=>rfl))|((with_reducible refine' la HM ?qw rfl ?qx ?qm ?qa ?_);(case qw|qx=>rfl);(case qm=>repeat constructor);(case qa=>rfl))|((with_reducible refine' pa HM ?qw rfl ?qx _ ?qy ?qm ?qa ?_);(case qw|qx|qy=>rfl);(case qm=>repeat constructor);(case qa=>rfl);clear HM;intro _ HM)|((with_reducible refine' bz HM ?qw rfl ?qa ?qc ?_);(case qw|qa|qc=>rfl);clear HM;intro _ _ HM))
          go_roundw
          case rel => exact ⟨k + 1 + 1, by go_num, ⟨by omega⟩, ⟨HM.out.drop.drop⟩⟩
          case measure => simp [intOf]; omega
    · have hil : i = t.length := by have := HIX0.out; omega
      have hlz : ¬ ((i : Int) < (t.length : Int)) := by omega
      clear hil HIX0
      go_wp2_with (first|go_skip|((with_reducible refine' lc HM ?qw rfl ?qx ?qm ?qa ?qv ?_);(case qw|qx|qa=>rfl);(case qm=>repeat constructor);(case qv=>rfl))|((with_reducible refine' la HM ?qw rfl ?qx ?qm ?qa ?_);(case qw|qx=>rfl);(case qm=>repeat constructor);(case qa=>rfl))|((with_reducible refine' pa HM ?qw rfl ?qx _ ?qy ?qm ?qa ?_);(case qw|qx|qy=>rfl);(case qm=>repeat constructor);(case qa=>rfl);clear HM;intro _ HM)|((with_reducible refine' bz HM ?qw rfl ?qa ?qc ?_);(case qw|qa|qc=>rfl);clear HM;intro _ _ HM))
      go_ret
      exact ⟨rfl, HM.out.below⟩
end Go.Proofs.YtolpamojbiipaaaDoor.XA
