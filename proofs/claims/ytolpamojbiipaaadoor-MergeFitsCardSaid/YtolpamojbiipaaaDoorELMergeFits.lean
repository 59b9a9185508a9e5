/- MergeFits's walk over Mem. Printed by wip/tools. -/
import Derived.Test.YtolpamojbiipaaaDoorEMemMerge
import Derived.Test.YtolpamojbiipaaaDoorEMemS
import Derived.Test.YtolpamojbiipaaaDoorUFits
import Derived.Test.YtolpamojbiipaaaDoorEMemRel
import Derived.Test.YtolpamojbiipaaaDoorEPlus
namespace Go.Proofs.YtolpamojbiipaaaDoor.XA
open Go.RowKit Go.Proofs.YtolpamojbiipaaaDoorW.PrintWords Go.Proofs.YtolpamojbiipaaaDoorW.PrintLast Go.Proofs.YtolpamojbiipaaaDoorW.PrintMore Go.Proofs.YtolpamojbiipaaaDoor.Mem Go.Proofs.YtolpamojbiipaaaDoor.Pure
set_option linter.unusedVariables false
set_option linter.unusedSimpArgs false

def ftr10T : Bool × List (List Nat × List Nat) := (true, [([], []), ([0], [0]), ([], []), ([2, 1], [2]), ([], []), ([4, 3], [4]), ([3, 5, 5], [3, 5]), ([], []), ([], []), ([7, 1, 6, 0, 1, 7, 8], [1, 7]), ([8, 6, 9, 0, 1, 2, 3, 4, 5, 6, 7, 8, 9], [6, 8])])
def ftr10B : List Nat := [0, 1, 0, 7, 0, 31, 63, 0, 0, 511, 1023]
theorem ftr10Tab : rtab .any (opsOf Tryd.f14 10) = ftr10T := by kernel_rfl
theorem ftr10Bits : waitsOk ftr10T.2 ftr10B = true := by kernel_rfl
set_option maxHeartbeats 8000000 in
set_option maxRecDepth 100000 in
theorem MergeFits_walk (w : World) (HG0 : GG w) (A0 : Option Addr) (c0 : Nat) (xs : List S104) (hr0 : Kd.C k104 w A0 xs.length xs) (hm0 : xs.length ≤ 9223372036854775807) (hw0 : ∀ x ∈ xs, ((Lit.int .i64 x.f0).wf = true ∧ (Lit.int .i64 x.f1).wf = true ∧ x.f2.size ≤ 9223372036854775807 ∧ x.f3.size ≤ 9223372036854775807)) (A1 : Option Addr) (c1 : Nat) (ys : List S104) (hr1 : Kd.C k104 w A1 ys.length ys) (hm1 : ys.length ≤ 9223372036854775807) (hw1 : ∀ x ∈ ys, ((Lit.int .i64 x.f0).wf = true ∧ (Lit.int .i64 x.f1).wf = true ∧ x.f2.size ≤ 9223372036854775807 ∧ x.f3.size ≤ 9223372036854775807)) :
    Calls Tryd.prog 14 #[.slice A0 xs.length c0, .slice A1 ys.length c1] w fun e w' => e = .returned (.bool true) ∧ Below w.heap.size w w' := by
  have HM : Aside0 (Mem w (fun k => k < w.heap.size) w [] (Two A0 A1 xs ys)) := ⟨two_M hr0 hr1⟩
  clear hw0 hw1 hr0 hr1
  by_cases hl0 : 30 < xs.length
  · have b0 : decide ((30 : Int) < (xs.length : Int)) = true := decide_eq_true (by omega)
    clear hl0
    go_enter Tryd.func14, Tryd.ntmps14
    go_wp2_with (first|go_skip|(go_at_call 27;refine (lays_M HM.out).mono ?_;rintro e _ ⟨rfl, hM⟩;clear HM;have HM:=Aside0.mk hM;clear hM))
    go_ret
    exact ⟨rfl, HM.out.below⟩
  have b0 : decide ((30 : Int) < (xs.length : Int)) = false := decide_eq_false (by omega)
  by_cases hl1 : 30 < ys.length
  · have b1 : decide ((30 : Int) < (ys.length : Int)) = true := decide_eq_true (by omega)
    clear hl1
    go_enter Tryd.func14, Tryd.ntmps14
    go_wp2_with (first|go_skip|(go_at_call 27;refine (lays_M HM.out).mono ?_;rintro e _ ⟨rfl, hM⟩;clear HM;have HM:=Aside0.mk hM;clear hM))
    go_ret
    exact ⟨rfl, HM.out.below⟩
  have b1 : decide ((30 : Int) < (ys.length : Int)) = false := decide_eq_false (by omega)
  obtain ⟨a, na, ws, nw, ea, hIa, hLa, hNa, hLw, hNw0, hNw, hPa⟩ := plants (P := fun k => k < w.heap.size) HG0 xs (by omega) 0 (by omega)
  obtain ⟨b, nb, ws2, nw2, eb, hIb, hLb, hNb, hLw2, hNw20, hNw2, hPb⟩ := plants (P := fun k => k < w.heap.size) HG0 ys (by omega) 5000 (by omega)
  have HIA := Aside0.mk hIa
  have HIB := Aside0.mk hIb
  have HLA := Aside0.mk hLa
  have HLB := Aside0.mk hLb
  have HNA := Aside0.mk hNa
  have HNB := Aside0.mk hNb
  have HPA := Aside0.mk hPa
  have HPB := Aside0.mk hPb
  clear hl0 hl1 HG0 hPa hPb hIa hIb
  clear ea eb
  have hia := HIA.out
  have hib0 := HIB.out
  rcases over_split HIA.out HIB.out with ⟨t, ht, hok, _⟩ | ⟨ht, _⟩
  case inr =>
    have HOV := Aside0.mk ht
    clear ht hia hib0
    go_enter Tryd.func14, Tryd.ntmps14
    go_upto_region 6 with (first|go_skip|((with_reducible refine gate_dst (N := 5) rfl ?_);(with_reducible refine' bz HM ?qw rfl ?qa ?qc ?_);(case qw|qa|qc=>rfl);clear HM;intro g5 _ HM)|((with_reducible refine gate_dst (N := 6) rfl ?_);(with_reducible refine' bz HM ?qw rfl ?qa ?qc ?_);(case qw|qa|qc=>rfl);clear HM;intro g6 _ HM)|((with_reducible refine gate_dst (N := 7) rfl ?_);(with_reducible refine' bz HM ?qw rfl ?qa ?qc ?_);(case qw|qa|qc=>rfl);clear HM;intro g7 _ HM)|((with_reducible refine gate_dst (N := 8) rfl ?_);(with_reducible refine' bz HM ?qw rfl ?qa ?qc ?_);(case qw|qa|qc=>rfl);clear HM;intro g8 _ HM)|((with_reducible refine' lc HM ?qw rfl ?qx ?qm ?qa ?qv ?_);(case qw|qx|qa=>rfl);(case qm=>repeat constructor);(case qv=>rfl))|((with_reducible refine' la HM ?qw rfl ?qx ?qm ?qa ?_);(case qw|qx=>rfl);(case qm=>repeat constructor);(case qa=>rfl))|((with_reducible refine' pa HM ?qw rfl ?qx _ ?qy ?qm ?qa ?_);(case qw|qx|qy=>rfl);(case qm=>repeat constructor);(case qa=>rfl);clear HM;intro _ HM)|(go_at_call 27;refine (lays_M HM.out).mono ?_;rintro e _ ⟨rfl, hM⟩;clear HM;have HM:=Aside0.mk hM;clear hM)|(go_at_call 28; (refine (HPA.out.tree HM.out ?hS).mono ?_); (case hS => exact fun _ h => h.1); rintro e _ ⟨Aa, ca, Awa, cwa, rfl, hc, hM⟩; have HCa := Aside0.mk hc; clear hc; clear HM;have HM:=Aside0.mk hM;clear hM))
    go_upto_region 7 with (first|go_skip|((with_reducible refine gate_dst (N := 5) rfl ?_);(with_reducible refine' bz HM ?qw rfl ?qa ?qc ?_);(case qw|qa|qc=>rfl);clear HM;intro g5 _ HM)|((with_reducible refine gate_dst (N := 6) rfl ?_);(with_reducible refine' bz HM ?qw rfl ?qa ?qc ?_);(case qw|qa|qc=>rfl);clear HM;intro g6 _ HM)|((with_reducible refine gate_dst (N := 7) rfl ?_);(with_reducible refine' bz HM ?qw rfl ?qa ?qc ?_);(case qw|qa|qc=>rfl);clear HM;intro g7 _ HM)|((with_reducible refine gate_dst (N := 8) rfl ?_);(with_reducible refine' bz HM ?qw rfl ?qa ?qc ?_);(case qw|qa|qc=>rfl);clear HM;intro g8 _ HM)|((with_reducible refine' lc HM ?qw rfl ?qx ?qm ?qa ?qv ?_);(case qw|qx|qa=>rfl);(case qm=>repeat constructor);(case qv=>rfl))|((with_reducible refine' la HM ?qw rfl ?qx ?qm ?qa ?_);(case qw|qx=>rfl);(case qm=>repeat constructor);(case qa=>rfl))|((with_reducible refine' pa HM ?qw rfl ?qx _ ?qy ?qm ?qa ?_);(case qw|qx|qy=>rfl);(case qm=>repeat constructor);(case qa=>rfl);clear HM;intro _ HM)|(go_at_call 28; (refine (HPB.out.tree HM.out ?hS).mono ?_); (case hS => exact fun _ h => h.1.2); rintro e _ ⟨Ab, cb, Awb, cwb, rfl, hc, hM⟩; have HCb := Aside0.mk hc; clear hc; clear HM;have HM:=Aside0.mk hM;clear hM))
    go_wp2_with (first|go_skip|((with_reducible refine gate_dst (N := 9) rfl ?_);(with_reducible refine' bz HM ?qw rfl ?qa ?qc ?_);(case qw|qa|qc=>rfl);clear HM;intro g9 _ HM)|((with_reducible refine' lc HM ?qw rfl ?qx ?qm ?qa ?qv ?_);(case qw|qx|qa=>rfl);(case qm=>repeat constructor);(case qv=>rfl))|((with_reducible refine' la HM ?qw rfl ?qx ?qm ?qa ?_);(case qw|qx=>rfl);(case qm=>repeat constructor);(case qa=>rfl))|((with_reducible refine' pa HM ?qw rfl ?qx _ ?qy ?qm ?qa ?_);(case qw|qx|qy=>rfl);(case qm=>repeat constructor);(case qa=>rfl);clear HM;intro _ HM)|(go_at_call 29; (refine (over_C HIA.out HIB.out (by have := HLA.out; omega) (by have := HLB.out; omega) (by have := HNA.out; omega) (by have := HNB.out; omega) HOV.out HM.out ?hSa ?hSb HCa.out HCb.out).mono ?_); (case hSa => exact fun _ h => h.1.2); (case hSb => exact fun _ h => h.2); rintro e _ ⟨At, ct, rfl, hc, hM⟩; have HCt := Aside0.mk hc; clear hc; clear HM;have HM:=Aside0.mk hM;clear hM))
    go_ret
    exact ⟨rfl, HM.out.below⟩
  have hlen := hok.len
  have hnn := newN_le a b
  have hit := hok.inv
  have hLt : t.length ≤ 9060 := by omega
  have hNt : na + nb ≤ 9060 := by omega
  have hfit := fits_use hia hib0 hok hLa hLb
  have HFB : Aside0 (∀ r ∈ b, ∃ x, lookR t (pp r) = some x ∧ x.f2.f0 = r.f2.f0 ∧ (r.f2.f9 = true ∨ x.f2.f1 = r.f2.f1)) := ⟨fun r hr => fits_b hia hib0 hok hr⟩
  have HFA : Aside0 (∀ r ∈ a, (lookR b (pp r) = none ∧ lookR t (pp r) = some r) ∨ ∃ s x, lookR b (pp r) = some s ∧ lookR t (pp r) = some x) := ⟨fun r hr => fits_a hia hib0 hok hr⟩
  obtain ⟨tn, hn1, hn2, hn3⟩ := fits_none hib0
  have hn4 := fits_same a na
  have hua0 := use_bounds hia (by omega) (by omega)
  have hub0 := use_bounds hib0 (by omega) (by omega)
  obtain ⟨⟨z1, z2, z3, z4⟩, hut⟩ : ∃ z, ofL t = z := ⟨_, rfl⟩
  obtain ⟨⟨x1, x2, x3, x4⟩, hua⟩ : ∃ z, ofL a = z := ⟨_, rfl⟩
  obtain ⟨⟨y1, y2, y3, y4⟩, hub⟩ : ∃ z, ofL b = z := ⟨_, rfl⟩
  rw [hut, hua, hub] at hfit
  rw [hua] at hua0
  rw [hub] at hub0
  simp only at hfit hua0 hub0
  have HUt : Aside0 (∀ (W : World) (B : List Bx) (S : World → Prop) {A : Option Addr} {c : Nat} {n : Int}, Mem w (fun k => k < w.heap.size) W B S → (∀ w, S w → Tr A t w) → t.length ≤ c → Calls Tryd.prog 20 #[.agg #[.slice A t.length c, .int .i64 n]] W fun e w' => e = .returned (.agg #[.int .i64 z1, .int .i64 z2, .int .i64 z3, .int .i64 z4]) ∧ Mem w (fun k => k < w.heap.size) w' B S) := ⟨fun W B S A c n hM hS hc => by
    have := of_M (n := n) hM hS hit hc (by omega) (m := _) (by omega)
    rw [hut] at this
    exact this⟩
  have HUa : Aside0 (∀ (W : World) (B : List Bx) (S : World → Prop) {A : Option Addr} {c : Nat} {n : Int}, Mem w (fun k => k < w.heap.size) W B S → (∀ w, S w → Tr A a w) → a.length ≤ c → Calls Tryd.prog 20 #[.agg #[.slice A a.length c, .int .i64 n]] W fun e w' => e = .returned (.agg #[.int .i64 x1, .int .i64 x2, .int .i64 x3, .int .i64 x4]) ∧ Mem w (fun k => k < w.heap.size) w' B S) := ⟨fun W B S A c n hM hS hc => by
    have := of_M (n := n) hM hS hia hc (by omega) (m := _) (by omega)
    rw [hua] at this
    exact this⟩
  have HUb : Aside0 (∀ (W : World) (B : List Bx) (S : World → Prop) {A : Option Addr} {c : Nat} {n : Int}, Mem w (fun k => k < w.heap.size) W B S → (∀ w, S w → Tr A b w) → b.length ≤ c → Calls Tryd.prog 20 #[.agg #[.slice A b.length c, .int .i64 n]] W fun e w' => e = .returned (.agg #[.int .i64 y1, .int .i64 y2, .int .i64 y3, .int .i64 y4]) ∧ Mem w (fun k => k < w.heap.size) w' B S) := ⟨fun W B S A c n hM hS hc => by
    have := of_M (n := n) hM hS hib0 hc (by omega) (m := _) (by omega)
    rw [hub] at this
    exact this⟩
  obtain ⟨p1, p2, p3, p4, hp⟩ : ∃ p1 p2 p3 p4, (p1, p2, p3, p4) = (wrap64 (x1 + y1), wrap64 (x2 + y2), maxI x3 y3, maxI x4 y4) := ⟨_, _, _, _, rfl⟩
  simp only [Prod.mk.injEq] at hp
  have HPLUS : Aside0 (∀ (W : World) (B : List Bx) (S : World → Prop), Mem w (fun k => k < w.heap.size) W B S → Calls Tryd.prog 17 #[.agg #[.int .i64 x1, .int .i64 x2, .int .i64 x3, .int .i64 x4], .agg #[.int .i64 y1, .int .i64 y2, .int .i64 y3, .int .i64 y4]] W fun e w' => e = .returned (.agg #[.int .i64 p1, .int .i64 p2, .int .i64 p3, .int .i64 p4]) ∧ Mem w (fun k => k < w.heap.size) w' B S) := ⟨fun W B S hM => by
    rw [hp.1, hp.2.1, hp.2.2.1, hp.2.2.2]
    exact plus_M hM x1 x2 x3 x4 y1 y2 y3 y4⟩
  have q1 : p1 = x1 + y1 := hp.1.trans (w64 (by omega) (by omega))
  have q2 : p2 = x2 + y2 := hp.2.1.trans (w64 (by omega) (by omega))
  rw [← hp.2.2.1, ← hp.2.2.2, ← q1, ← q2] at hfit
  have HFIT := Aside0.mk hfit
  have HOV := Aside0.mk ht
  have HIT := Aside0.mk hit
  have HLT := Aside0.mk hLt
  have HN1 := Aside0.mk hn1
  have HN2 := Aside0.mk hn2
  have HN3 := Aside0.mk hn3
  have HN4 := Aside0.mk hn4
  generalize ent : na + nb = nt at HOV HIT
  clear ht hia hib0 hok hlen hnn hit hNt hfit hua0 hub0 hn1 hn2 hn3 hn4 hut hua hub hp q1 q2 ent
  go_enter Tryd.func14, Tryd.ntmps14
  go_upto_region 6 with (first|go_skip|((with_reducible refine gate_dst (N := 5) rfl ?_);(with_reducible refine' bz HM ?qw rfl ?qa ?qc ?_);(case qw|qa|qc=>rfl);clear HM;intro g5 _ HM)|((with_reducible refine gate_dst (N := 6) rfl ?_);(with_reducible refine' bz HM ?qw rfl ?qa ?qc ?_);(case qw|qa|qc=>rfl);clear HM;intro g6 _ HM)|((with_reducible refine gate_dst (N := 7) rfl ?_);(with_reducible refine' bz HM ?qw rfl ?qa ?qc ?_);(case qw|qa|qc=>rfl);clear HM;intro g7 _ HM)|((with_reducible refine gate_dst (N := 8) rfl ?_);(with_reducible refine' bz HM ?qw rfl ?qa ?qc ?_);(case qw|qa|qc=>rfl);clear HM;intro g8 _ HM)|((with_reducible refine' lc HM ?qw rfl ?qx ?qm ?qa ?qv ?_);(case qw|qx|qa=>rfl);(case qm=>repeat constructor);(case qv=>rfl))|((with_reducible refine' la HM ?qw rfl ?qx ?qm ?qa ?_);(case qw|qx=>rfl);(case qm=>repeat constructor);(case qa=>rfl))|((with_reducible refine' pa HM ?qw rfl ?qx _ ?qy ?qm ?qa ?_);(case qw|qx|qy=>rfl);(case qm=>repeat constructor);(case qa=>rfl);clear HM;intro _ HM)|(go_at_call 27;refine (lays_M HM.out).mono ?_;rintro e _ ⟨rfl, hM⟩;clear HM;have HM:=Aside0.mk hM;clear hM)|(go_at_call 28; (refine (HPA.out.tree HM.out ?hS).mono ?_); (case hS => exact fun _ h => h.1); rintro e _ ⟨Aa, ca, Awa, cwa, rfl, hc, hM⟩; have HCa := Aside0.mk hc; clear hc; clear HM;have HM:=Aside0.mk hM;clear hM))
  go_upto_region 7 with (first|go_skip|((with_reducible refine gate_dst (N := 5) rfl ?_);(with_reducible refine' bz HM ?qw rfl ?qa ?qc ?_);(case qw|qa|qc=>rfl);clear HM;intro g5 _ HM)|((with_reducible refine gate_dst (N := 6) rfl ?_);(with_reducible refine' bz HM ?qw rfl ?qa ?qc ?_);(case qw|qa|qc=>rfl);clear HM;intro g6 _ HM)|((with_reducible refine gate_dst (N := 7) rfl ?_);(with_reducible refine' bz HM ?qw rfl ?qa ?qc ?_);(case qw|qa|qc=>rfl);clear HM;intro g7 _ HM)|((with_reducible refine gate_dst (N := 8) rfl ?_);(with_reducible refine' bz HM ?qw rfl ?qa ?qc ?_);(case qw|qa|qc=>rfl);clear HM;intro g8 _ HM)|((with_reducible refine' lc HM ?qw rfl ?qx ?qm ?qa ?qv ?_);(case qw|qx|qa=>rfl);(case qm=>repeat constructor);(case qv=>rfl))|((with_reducible refine' la HM ?qw rfl ?qx ?qm ?qa ?_);(case qw|qx=>rfl);(case qm=>repeat constructor);(case qa=>rfl))|((with_reducible refine' pa HM ?qw rfl ?qx _ ?qy ?qm ?qa ?_);(case qw|qx|qy=>rfl);(case qm=>repeat constructor);(case qa=>rfl);clear HM;intro _ HM)|(go_at_call 28; (refine (HPB.out.tree HM.out ?hS).mono ?_); (case hS => exact fun _ h => h.1.2); rintro e _ ⟨Ab, cb, Awb, cwb, rfl, hc, hM⟩; have HCb := Aside0.mk hc; clear hc; clear HM;have HM:=Aside0.mk hM;clear hM))
  go_upto_region 10 with (first|go_skip|((with_reducible refine gate_dst (N := 9) rfl ?_);(with_reducible refine' bz HM ?qw rfl ?qa ?qc ?_);(case qw|qa|qc=>rfl);clear HM;intro g9 _ HM)|((with_reducible refine' lc HM ?qw rfl ?qx ?qm ?qa ?qv ?_);(case qw|qx|qa=>rfl);(case qm=>repeat constructor);(case qv=>rfl))|((with_reducible refine' la HM ?qw rfl ?qx ?qm ?qa ?_);(case qw|qx=>rfl);(case qm=>repeat constructor);(case qa=>rfl))|((with_reducible refine' pa HM ?qw rfl ?qx _ ?qy ?qm ?qa ?_);(case qw|qx|qy=>rfl);(case qm=>repeat constructor);(case qa=>rfl);clear HM;intro _ HM)|(go_at_call 29; (refine (over_C HIA.out HIB.out (by have := HLA.out; omega) (by have := HLB.out; omega) (by have := HNA.out; omega) (by have := HNB.out; omega) HOV.out HM.out ?hSa ?hSb HCa.out HCb.out).mono ?_); (case hSa => exact fun _ h => h.1.2); (case hSb => exact fun _ h => h.2); rintro e _ ⟨At, ct, rfl, hc, hM⟩; have HCt := Aside0.mk hc; clear hc; clear HM;have HM:=Aside0.mk hM;clear hM))
  refine r_relA (n := 11) (fun q0 l q_ w' => ∃ g11 g12 : Nat, Mem w (fun k => k < w.heap.size) w' (bxL l 7 (g11, ccL l 9 [Value.int .i64 z1, Value.int .i64 z2, Value.int .i64 z3, Value.int .i64 z4] [.int .i64 0, .int .i64 0, .int .i64 0, .int .i64 0], 23) ++ (bxL l 8 (g12, ccL l 10 [Value.int .i64 p1, Value.int .i64 p2, Value.int .i64 p3, Value.int .i64 p4] [.int .i64 0, .int .i64 0, .int .i64 0, .int .i64 0], 23) ++ (((g9, [.slice At t.length ct, .int .i64 nt], 35) :: (g8, [.slice Awb ws2.length cwb, .int .i64 nw2], 64) :: (g7, [.slice Ab b.length cb, .int .i64 nb], 35) :: (g6, [.slice Awa ws.length cwa, .int .i64 nw], 64) :: (g5, [.slice Aa a.length ca, .int .i64 na], 35) :: [])))) (fun w => ((Two A0 A1 xs ys w ∧ Tr Aa a w) ∧ Tr Ab b w) ∧ Tr At t w) ∧ Frm q0 q_ [66, 67, 68, 69, 70, 71, 72, 11, 12] ∧ Slots q_ l [(0, 66, Value.agg #[.slice At t.length ct, .int .i64 nt]), (1, 67, Value.agg #[Value.int .i64 z1, Value.int .i64 z2, Value.int .i64 z3, Value.int .i64 z4]), (2, 68, Value.agg #[.slice Aa a.length ca, .int .i64 na]), (3, 69, Value.agg #[Value.int .i64 x1, Value.int .i64 x2, Value.int .i64 x3, Value.int .i64 x4]), (4, 70, Value.agg #[.slice Ab b.length cb, .int .i64 nb]), (5, 71, Value.agg #[Value.int .i64 y1, Value.int .i64 y2, Value.int .i64 y3, Value.int .i64 y4]), (6, 72, Value.agg #[Value.int .i64 p1, Value.int .i64 p2, Value.int .i64 p3, Value.int .i64 p4]), (7, 11, Value.pointer (some ⟨g11, 0, none⟩)), (8, 12, Value.pointer (some ⟨g12, 0, none⟩))] ∧ Side [(9, 7), (9, 8), (10, 7), (10, 8)] l) (by kernel_rfl) ftr10Tab (by kernel_rfl) rfl rfl ?_ ?_ ?_
  · refine ⟨0, 0, ?_, Frm.refl _ _, Slots.start, Side.start⟩
    simpa only [bxL_false rep_get0, List.nil_append] using HM.out.drew
  rotate_left
  · intro l q_ w' i o hl hi ho hr ⟨g11, g12, hM, hF, hS, hD⟩ K hK
    clear HM
    obtain ⟨_, rfl⟩ := Array.getElem?_eq_some_iff.1 ho
    clear ho
    have x5 := hF.get (N:=5) (by decide) (rfl:_=Value.pointer (some ⟨g5, 0, none⟩))
    have x7 := hF.get (N:=7) (by decide) (rfl:_=Value.pointer (some ⟨g7, 0, none⟩))
    have x9 := hF.get (N:=9) (by decide) (rfl:_=Value.pointer (some ⟨g9, 0, none⟩))
    have hz : q_.tmps.size = _ := hF.z
    have HF := Aside0.mk hF
    clear hF
    have hi2 : i < 11 := hi
    have hc : i = 0 ∨ i = 1 ∨ i = 2 ∨ i = 3 ∨ i = 4 ∨ i = 5 ∨ i = 6 ∨ i = 7 ∨ i = 8 ∨ i = 9 ∨ i = 10 := by omega
    rcases hc with rfl | rfl | rfl | rfl | rfl | rfl | rfl | rfl | rfl | rfl | rfl
    · refine k_all hM (wanted_none rfl) rfl x9 (Has.app _ (Has.app _ ((by repeat constructor)))) rfl ?_
      exact hK _ _ ⟨g11, g12, by simpa only [bxL_ne (show (0:Nat) ≠ 7 by decide), bxL_ne (show (0:Nat) ≠ 8 by decide), ccL_ne (show (0:Nat) ≠ 9 by decide), ccL_ne (show (0:Nat) ≠ 10 by decide)] using hM, HF.out.put _ (by decide), hS.set 0 rfl (by omega) (by rw [hz]; exact Nat.le_of_ble_eq_true rfl) (show ([0, 1, 2, 3, 4, 5, 6, 7, 8] : List Nat).Nodup by decide) (show ([66, 67, 68, 69, 70, 71, 72, 11, 12] : List Nat).Nodup by decide), hD.skip (by omega) (by decide)⟩
    · have x66 := hS.nth 0 rfl (ready_dep hr rfl (show 0 ∈ _ by decide))
      refine goes_ Tryd.func20 (by kernel_rfl) rfl #[Value.agg #[.slice At t.length ct, .int .i64 nt]] (wanted_none rfl) rfl rfl (by simp only [List.map_toArray, List.map_cons, List.map_nil, x66]) ?_
      refine (HUt.out _ _ _ hM (fun _ h => h.2) HCt.out).mono ?_
      rintro e w_ ⟨rfl, hM2⟩
      refine ⟨_, rfl, ?_⟩
      exact hK _ _ ⟨g11, g12, by simpa only [bxL_ne (show (1:Nat) ≠ 7 by decide), bxL_ne (show (1:Nat) ≠ 8 by decide), ccL_ne (show (1:Nat) ≠ 9 by decide), ccL_ne (show (1:Nat) ≠ 10 by decide)] using hM2, HF.out.put _ (by decide), hS.set 1 rfl (by omega) (by rw [hz]; exact Nat.le_of_ble_eq_true rfl) (show ([0, 1, 2, 3, 4, 5, 6, 7, 8] : List Nat).Nodup by decide) (show ([66, 67, 68, 69, 70, 71, 72, 11, 12] : List Nat).Nodup by decide), hD.skip (by omega) (by decide)⟩
    · refine k_all hM (wanted_none rfl) rfl x5 (Has.app _ (Has.app _ ((by repeat constructor)))) rfl ?_
      exact hK _ _ ⟨g11, g12, by simpa only [bxL_ne (show (2:Nat) ≠ 7 by decide), bxL_ne (show (2:Nat) ≠ 8 by decide), ccL_ne (show (2:Nat) ≠ 9 by decide), ccL_ne (show (2:Nat) ≠ 10 by decide)] using hM, HF.out.put _ (by decide), hS.set 2 rfl (by omega) (by rw [hz]; exact Nat.le_of_ble_eq_true rfl) (show ([0, 1, 2, 3, 4, 5, 6, 7, 8] : List Nat).Nodup by decide) (show ([66, 67, 68, 69, 70, 71, 72, 11, 12] : List Nat).Nodup by decide), hD.skip (by omega) (by decide)⟩
    · have x68 := hS.nth 2 rfl (ready_dep hr rfl (show 2 ∈ _ by decide))
      refine goes_ Tryd.func20 (by kernel_rfl) rfl #[Value.agg #[.slice Aa a.length ca, .int .i64 na]] (wanted_none rfl) rfl rfl (by simp only [List.map_toArray, List.map_cons, List.map_nil, x68]) ?_
      refine (HUa.out _ _ _ hM (fun _ h => h.1.1.2) HCa.out).mono ?_
      rintro e w_ ⟨rfl, hM2⟩
      refine ⟨_, rfl, ?_⟩
      exact hK _ _ ⟨g11, g12, by simpa only [bxL_ne (show (3:Nat) ≠ 7 by decide), bxL_ne (show (3:Nat) ≠ 8 by decide), ccL_ne (show (3:Nat) ≠ 9 by decide), ccL_ne (show (3:Nat) ≠ 10 by decide)] using hM2, HF.out.put _ (by decide), hS.set 3 rfl (by omega) (by rw [hz]; exact Nat.le_of_ble_eq_true rfl) (show ([0, 1, 2, 3, 4, 5, 6, 7, 8] : List Nat).Nodup by decide) (show ([66, 67, 68, 69, 70, 71, 72, 11, 12] : List Nat).Nodup by decide), hD.skip (by omega) (by decide)⟩
    · refine k_all hM (wanted_none rfl) rfl x7 (Has.app _ (Has.app _ ((by repeat constructor)))) rfl ?_
      exact hK _ _ ⟨g11, g12, by simpa only [bxL_ne (show (4:Nat) ≠ 7 by decide), bxL_ne (show (4:Nat) ≠ 8 by decide), ccL_ne (show (4:Nat) ≠ 9 by decide), ccL_ne (show (4:Nat) ≠ 10 by decide)] using hM, HF.out.put _ (by decide), hS.set 4 rfl (by omega) (by rw [hz]; exact Nat.le_of_ble_eq_true rfl) (show ([0, 1, 2, 3, 4, 5, 6, 7, 8] : List Nat).Nodup by decide) (show ([66, 67, 68, 69, 70, 71, 72, 11, 12] : List Nat).Nodup by decide), hD.skip (by omega) (by decide)⟩
    · have x70 := hS.nth 4 rfl (ready_dep hr rfl (show 4 ∈ _ by decide))
      refine goes_ Tryd.func20 (by kernel_rfl) rfl #[Value.agg #[.slice Ab b.length cb, .int .i64 nb]] (wanted_none rfl) rfl rfl (by simp only [List.map_toArray, List.map_cons, List.map_nil, x70]) ?_
      refine (HUb.out _ _ _ hM (fun _ h => h.1.2) HCb.out).mono ?_
      rintro e w_ ⟨rfl, hM2⟩
      refine ⟨_, rfl, ?_⟩
      exact hK _ _ ⟨g11, g12, by simpa only [bxL_ne (show (5:Nat) ≠ 7 by decide), bxL_ne (show (5:Nat) ≠ 8 by decide), ccL_ne (show (5:Nat) ≠ 9 by decide), ccL_ne (show (5:Nat) ≠ 10 by decide)] using hM2, HF.out.put _ (by decide), hS.set 5 rfl (by omega) (by rw [hz]; exact Nat.le_of_ble_eq_true rfl) (show ([0, 1, 2, 3, 4, 5, 6, 7, 8] : List Nat).Nodup by decide) (show ([66, 67, 68, 69, 70, 71, 72, 11, 12] : List Nat).Nodup by decide), hD.skip (by omega) (by decide)⟩
    · have x69 := hS.nth 3 rfl (ready_dep hr rfl (show 3 ∈ _ by decide))
      have x71 := hS.nth 5 rfl (ready_dep hr rfl (show 5 ∈ _ by decide))
      refine goes_ Tryd.func17 (by kernel_rfl) rfl #[Value.agg #[Value.int .i64 x1, Value.int .i64 x2, Value.int .i64 x3, Value.int .i64 x4], Value.agg #[Value.int .i64 y1, Value.int .i64 y2, Value.int .i64 y3, Value.int .i64 y4]] (wanted_none rfl) rfl rfl (by simp only [List.map_toArray, List.map_cons, List.map_nil, x69, x71]) ?_
      refine (HPLUS.out _ _ _ hM).mono ?_
      rintro e w_ ⟨rfl, hM2⟩
      refine ⟨_, rfl, ?_⟩
      exact hK _ _ ⟨g11, g12, by simpa only [bxL_ne (show (6:Nat) ≠ 7 by decide), bxL_ne (show (6:Nat) ≠ 8 by decide), ccL_ne (show (6:Nat) ≠ 9 by decide), ccL_ne (show (6:Nat) ≠ 10 by decide)] using hM2, HF.out.put _ (by decide), hS.set 6 rfl (by omega) (by rw [hz]; exact Nat.le_of_ble_eq_true rfl) (show ([0, 1, 2, 3, 4, 5, 6, 7, 8] : List Nat).Nodup by decide) (show ([66, 67, 68, 69, 70, 71, 72, 11, 12] : List Nat).Nodup by decide), hD.skip (by omega) (by decide)⟩
    · have f0 := get_tf (by omega) (ready_self hr)
      have f1 : l.getD 9 false = false := hD.no (j:=7) (by decide) f0
      refine k_zero hM (wanted_none rfl) rfl rfl rfl ?_
      intro gN w_ hM2
      refine hK _ _ ⟨gN, g12, ?_, HF.out.put _ (by decide), hS.step (by omega) (by rw [hz]; exact Nat.le_of_ble_eq_true rfl) (by intro e he h; simp only [List.mem_cons, List.not_mem_nil, or_false] at he; rcases he with rfl | rfl | rfl | rfl | rfl | rfl | rfl | rfl | rfl <;> first | rfl | exact absurd h (Nat.ne_of_beq_eq_false rfl)) (by intro e he h; simp only [List.mem_cons, List.not_mem_nil, or_false] at he ⊢; rcases he with rfl | rfl | rfl | rfl | rfl | rfl | rfl | rfl | rfl <;> first | exact absurd rfl h | exact ⟨by simp, Nat.ne_of_beq_eq_false rfl⟩), hD.skip (by omega) (by decide)⟩
      simp only [bxL_false f0, List.nil_append] at hM2
      simp only [bxL_ne (show (7:Nat) ≠ 8 by decide), ccL_ne (show (7:Nat) ≠ 9 by decide), ccL_ne (show (7:Nat) ≠ 10 by decide), bxL_true (set_get_eq (show 7 < l.length by omega)), ccL_false f1, List.singleton_append]
      exact hM2
    · have f0 := get_tf (by omega) (ready_self hr)
      have f1 : l.getD 10 false = false := hD.no (j:=8) (by decide) f0
      refine k_zero hM (wanted_none rfl) rfl rfl rfl ?_
      intro gN w_ hM2
      refine hK _ _ ⟨g11, gN, ?_, HF.out.put _ (by decide), hS.step (by omega) (by rw [hz]; exact Nat.le_of_ble_eq_true rfl) (by intro e he h; simp only [List.mem_cons, List.not_mem_nil, or_false] at he; rcases he with rfl | rfl | rfl | rfl | rfl | rfl | rfl | rfl | rfl <;> first | rfl | exact absurd h (Nat.ne_of_beq_eq_false rfl)) (by intro e he h; simp only [List.mem_cons, List.not_mem_nil, or_false] at he ⊢; rcases he with rfl | rfl | rfl | rfl | rfl | rfl | rfl | rfl | rfl <;> first | exact absurd rfl h | exact ⟨by simp, Nat.ne_of_beq_eq_false rfl⟩), hD.skip (by omega) (by decide)⟩
      simp only [bxL_false f0, List.nil_append] at hM2
      simp only [bxL_ne (show (8:Nat) ≠ 7 by decide), ccL_ne (show (8:Nat) ≠ 9 by decide), ccL_ne (show (8:Nat) ≠ 10 by decide), bxL_true (set_get_eq (show 8 < l.length by omega)), ccL_false f1, List.singleton_append]
      cases fj : l.getD 7 false with
      | false =>
        simp only [bxL_false fj, List.nil_append] at hM2 ⊢
        exact hM2
      | true =>
        simp only [bxL_true fj, List.singleton_append] at hM2 ⊢
        exact hM2.swap
    · have x11 := hS.nth 7 rfl (ready_dep hr rfl (show 7 ∈ _ by decide))
      have x67 := hS.nth 1 rfl (ready_dep hr rfl (show 1 ∈ _ by decide))
      have f0 := get_tf (by omega) (ready_self hr)
      have q7 := ready_dep hr rfl (show 7 ∈ _ by decide)
      have q8 := ready_dep hr rfl (show 8 ∈ _ by decide)
      simp only [bxL_true q7, bxL_true q8, ccL_false f0, List.singleton_append] at hM
      refine k_put hM (wanted_none rfl) rfl rfl x11 _ x67 (by repeat constructor) rfl ?_
      intro w_ hM2
      refine hK _ _ ⟨g11, g12, ?_, HF.out, hS.keep (by intro e he; simp only [List.mem_cons, List.not_mem_nil, or_false] at he; rcases he with rfl | rfl | rfl | rfl | rfl | rfl | rfl | rfl | rfl <;> exact Nat.ne_of_beq_eq_false rfl), hD.step (by omega) (by intro p hp e; simp only [List.mem_cons, List.not_mem_nil, or_false] at hp; rcases hp with rfl | rfl | rfl | rfl <;> first | exact absurd e (by decide) | exact q7 | exact q8)⟩
      simp only [bxL_ne (show (9:Nat) ≠ 7 by decide), bxL_ne (show (9:Nat) ≠ 8 by decide), ccL_ne (show (9:Nat) ≠ 10 by decide), ccL_true (set_get_eq (show 9 < l.length by omega)), bxL_true q7, bxL_true q8, List.singleton_append]
      exact hM2
    · have x12 := hS.nth 8 rfl (ready_dep hr rfl (show 8 ∈ _ by decide))
      have x72 := hS.nth 6 rfl (ready_dep hr rfl (show 6 ∈ _ by decide))
      have f0 := get_tf (by omega) (ready_self hr)
      have q7 := ready_dep hr rfl (show 7 ∈ _ by decide)
      have q8 := ready_dep hr rfl (show 8 ∈ _ by decide)
      simp only [bxL_true q7, bxL_true q8, ccL_false f0, List.singleton_append] at hM
      refine k_put hM (wanted_none rfl) rfl rfl x12 _ x72 (by repeat constructor) rfl ?_
      intro w_ hM2
      refine hK _ _ ⟨g11, g12, ?_, HF.out, hS.keep (by intro e he; simp only [List.mem_cons, List.not_mem_nil, or_false] at he; rcases he with rfl | rfl | rfl | rfl | rfl | rfl | rfl | rfl | rfl <;> exact Nat.ne_of_beq_eq_false rfl), hD.step (by omega) (by intro p hp e; simp only [List.mem_cons, List.not_mem_nil, or_false] at hp; rcases hp with rfl | rfl | rfl | rfl <;> first | exact absurd e (by decide) | exact q7 | exact q8)⟩
      simp only [bxL_ne (show (10:Nat) ≠ 7 by decide), bxL_ne (show (10:Nat) ≠ 8 by decide), ccL_ne (show (10:Nat) ≠ 9 by decide), ccL_true (set_get_eq (show 10 < l.length by omega)), bxL_true q7, bxL_true q8, List.singleton_append]
      exact hM2
  intro q_ w' ⟨g11, g12, hM, hF, hS, _⟩
  have hA := hS.all hF (by intro e he; simp only [List.mem_cons, List.not_mem_nil, or_false] at he; rcases he with rfl | rfl | rfl | rfl | rfl | rfl | rfl | rfl | rfl <;> exact Nat.le_of_ble_eq_true rfl) (by intro e he; simp only [List.mem_cons, List.not_mem_nil, or_false] at he; rcases he with rfl | rfl | rfl | rfl | rfl | rfl | rfl | rfl | rfl <;> exact Nat.le_of_ble_eq_true rfl) (show ([66, 67, 68, 69, 70, 71, 72, 11, 12] : List Nat).Nodup by decide)
  subst hA
  simp only [bxL_true (rep_get (show 7 < 11 by decide)), bxL_true (rep_get (show 8 < 11 by decide)), ccL_true (rep_get (show 9 < 11 by decide)), ccL_true (rep_get (show 10 < 11 by decide)), List.singleton_append] at hM
  clear HM
  have HM := Aside0.mk hM
  clear hM hF hS
  simp only [fillAll, List.map_cons, List.map_nil, Act.put, List.setIfInBounds_toArray, List.set_cons_zero, List.set_cons_succ]
  obtain ⟨f1, f2, f3, f4⟩ := HFIT.out
  have d1 : decide (p1 < z1) = false := decide_eq_false (by omega)
  have d2 : decide (p2 < z2) = false := decide_eq_false (by omega)
  have d3 : decide (p3 < z3) = false := decide_eq_false (by omega)
  have d4 : decide (p4 < z4) = false := decide_eq_false (by omega)
  clear f1 f2 f3 f4
  have hlbz : (b.length : Int) ≤ 4530 := by have := HLB.out; omega
  have hlaz : (a.length : Int) ≤ 4530 := by have := HLA.out; omega
  go_wp2_with (first|go_skip|((with_reducible refine' lc HM ?qw rfl ?qx ?qm ?qa ?qv ?_);(case qw|qx|qa=>rfl);(case qm=>repeat constructor);(case qv=>rfl))|((with_reducible refine' la HM ?qw rfl ?qx ?qm ?qa ?_);(case qw|qx=>rfl);(case qm=>repeat constructor);(case qa=>rfl))|((with_reducible refine' pa HM ?qw rfl ?qx _ ?qy ?qm ?qa ?_);(case qw|qx|qy=>rfl);(case qm=>repeat constructor);(case qa=>rfl);clear HM;intro _ HM)|((with_reducible refine' bz HM ?qw rfl ?qa ?qc ?_);(case qw|qa|qc=>rfl);clear HM;intro _ _ HM))
  clear d1 d2 d3 d4
  go_loopw [102] (fun v102 wr => ∃ (i : Nat), v102 = .int .i64 i ∧ Aside0 (i ≤ b.length) ∧ Aside0 (Mem w (fun k => k < w.heap.size) wr ((g11, [Value.int .i64 z1, Value.int .i64 z2, Value.int .i64 z3, Value.int .i64 z4], 23) :: (g12, [Value.int .i64 p1, Value.int .i64 p2, Value.int .i64 p3, Value.int .i64 p4], 23) :: (g9, [.slice At t.length ct, .int .i64 nt], 35) :: (g8, [.slice Awb ws2.length cwb, .int .i64 nw2], 64) :: (g7, [.slice Ab b.length cb, .int .i64 nb], 35) :: (g6, [.slice Awa ws.length cwa, .int .i64 nw], 64) :: (g5, [.slice Aa a.length ca, .int .i64 na], 35) :: []) (fun w => ((Two A0 A1 xs ys w ∧ Tr Aa a w) ∧ Tr Ab b w) ∧ Tr At t w))) (fun v102 _ => b.length - (intOf v102).toNat)
  case atStart => exact ⟨0, rfl, ⟨Nat.zero_le _⟩, HM⟩
  case round =>
    clear HM
    obtain ⟨i, rfl, HIX, HM⟩ := hrel
    have hib : (i : Int) ≤ 4530 := by have := HIX.out; omega
    by_cases hlt : i < b.length
    · have hfb := HFB.out _ (List.getElem_mem hlt)
      have hlz : (i : Int) < (b.length : Int) := by omega
      obtain ⟨ad, ea, hx0, hx1, hx2, hx3, hx4, hx5, hx6, hx7, hx8, hx9, hx10, hx11, hx12⟩ := at_T44 (HM.out.now.1.2) (i : Int) (by omega) (by omega)
      have hrd : rd_T44 b (i : Int) = b[i] := by unfold rd_T44; rw [Int.toNat_natCast, List.getD_eq_getElem?_getD, List.getElem?_eq_getElem hlt]; rfl
      rw [Int.toNat_natCast, hrd] at hx0 hx1 hx2 hx3 hx4 hx5 hx6 hx7 hx8 hx9 hx11 hx12
      rw [Int.toNat_natCast] at hx10
      have HY := Aside0.mk (HIB.out.clean _ (List.getElem_mem hlt))
      generalize b[i] = y at hx0 hx1 hx2 hx3 hx4 hx5 hx6 hx7 hx8 hx9 hx11 hx12 hfb HY
      clear hrd
      subst ea
      have HFY := Aside0.mk hfb
      clear hfb
      go_upto_region 16 with (first|go_skip|((with_reducible refine' lc HM ?qw rfl ?qx ?qm ?qa ?qv ?_);(case qw|qx|qa=>rfl);(case qm=>repeat constructor);(case qv=>rfl))|((with_reducible refine' la HM ?qw rfl ?qx ?qm ?qa ?_);(case qw|qx=>rfl);(case qm=>repeat constructor);(case qa=>rfl))|((with_reducible refine' pa HM ?qw rfl ?qx _ ?qy ?qm ?qa ?_);(case qw|qx|qy=>rfl);(case qm=>repeat constructor);(case qa=>rfl);clear HM;intro _ HM)|((with_reducible refine' bz HM ?qw rfl ?qa ?qc ?_);(case qw|qa|qc=>rfl);clear HM;intro _ _ HM))
      clear hx0 hx1 hx2 hx3 hx4 hx5 hx6 hx7 hx8 hx9 hx10 hx11 hx12
      have hrow : ∀ (q : S44), [Value.string q.f0, .int .i64 q.f1, .int .i64 q.f2.f0, .int .i64 q.f2.f1, .int .i64 q.f2.f2, .int .i64 q.f2.f3, .int .i64 q.f2.f4, .string q.f2.f5, .string q.f2.f6, .string q.f2.f7, .slice none 0 0, .int .i64 q.f2.f8.f1, .bool q.f2.f9] = rowL q := fun _ => rfl
      rw [hrow] at HM
      clear hrow
      obtain ⟨o, hx, hk, hmm⟩ := HFY.out
      have HX := Aside0.mk hx
      clear hx HFY
      have k1 : (o.f2.f0 != y.f2.f0) = false := bne_eq_false_iff_eq.2 hk
      have k1' : (o.f2.f0 == y.f2.f0) = true := beq_iff_eq.2 hk
      clear hk
      rcases hmm with hmm | hmm
      · have k3 : (!y.f2.f9) = false := by rw [hmm]; rfl
        go_wp2_with (first|go_skip|((with_reducible refine' lc HM ?qw rfl ?qx ?qm ?qa ?qv ?_);(case qw|qx|qa=>rfl);(case qm=>repeat constructor);(case qv=>rfl))|((with_reducible refine' la HM ?qw rfl ?qx ?qm ?qa ?_);(case qw|qx=>rfl);(case qm=>repeat constructor);(case qa=>rfl))|((with_reducible refine' pa HM ?qw rfl ?qx _ ?qy ?qm ?qa ?_);(case qw|qx|qy=>rfl);(case qm=>repeat constructor);(case qa=>rfl);clear HM;intro _ HM)|((with_reducible refine' bz HM ?qw rfl ?qa ?qc ?_);(case qw|qa|qc=>rfl);clear HM;intro _ _ HM)|(go_at_call 23; (refine (get_rowS HM.out ?hS HIT.out HCt.out (by have := HLT.out; omega) HY.out HX.out).mono ?_); (case hS => exact fun _ h => h.2); rintro e _ ⟨rfl, hM⟩; clear HM;have HM:=Aside0.mk hM;clear hM))
        go_roundw
        case rel => exact ⟨i + 1, by go_num, ⟨by omega⟩, ⟨HM.out.drop.drop⟩⟩
        case measure => simp [intOf]; omega
      · have k2 : (o.f2.f1 != y.f2.f1) = false := bne_eq_false_iff_eq.2 hmm
        have k2' : (o.f2.f1 == y.f2.f1) = true := beq_iff_eq.2 hmm
        clear hmm
        rcases Bool.eq_false_or_eq_true y.f2.f9 with hm9 | hm9
        · have k3 : (!y.f2.f9) = false := by rw [hm9]; rfl
          go_wp2_with (first|go_skip|((with_reducible refine' lc HM ?qw rfl ?qx ?qm ?qa ?qv ?_);(case qw|qx|qa=>rfl);(case qm=>repeat constructor);(case qv=>rfl))|((with_reducible refine' la HM ?qw rfl ?qx ?qm ?qa ?_);(case qw|qx=>rfl);(case qm=>repeat constructor);(case qa=>rfl))|((with_reducible refine' pa HM ?qw rfl ?qx _ ?qy ?qm ?qa ?_);(case qw|qx|qy=>rfl);(case qm=>repeat constructor);(case qa=>rfl);clear HM;intro _ HM)|((with_reducible refine' bz HM ?qw rfl ?qa ?qc ?_);(case qw|qa|qc=>rfl);clear HM;intro _ _ HM)|(go_at_call 23; (refine (get_rowS HM.out ?hS HIT.out HCt.out (by have := HLT.out; omega) HY.out HX.out).mono ?_); (case hS => exact fun _ h => h.2); rintro e _ ⟨rfl, hM⟩; clear HM;have HM:=Aside0.mk hM;clear hM))
          go_roundw
          case rel => exact ⟨i + 1, by go_num, ⟨by omega⟩, ⟨HM.out.drop.drop⟩⟩
          case measure => simp [intOf]; omega
        · have k3 : (!y.f2.f9) = true := by rw [hm9]; rfl
          go_wp2_with (first|go_skip|((with_reducible refine' lc HM ?qw rfl ?qx ?qm ?qa ?qv ?_);(case qw|qx|qa=>rfl);(case qm=>repeat constructor);(case qv=>rfl))|((with_reducible refine' la HM ?qw rfl ?qx ?qm ?qa ?_);(case qw|qx=>rfl);(case qm=>repeat constructor);(case qa=>rfl))|((with_reducible refine' pa HM ?qw rfl ?qx _ ?qy ?qm ?qa ?_);(case qw|qx|qy=>rfl);(case qm=>repeat constructor);(case qa=>rfl);clear HM;intro _ HM)|((with_reducible refine' bz HM ?qw rfl ?qa ?qc ?_);(case qw|qa|qc=>rfl);clear HM;intro _ _ HM)|(go_at_call 23; (refine (get_rowS HM.out ?hS HIT.out HCt.out (by have := HLT.out; omega) HY.out HX.out).mono ?_); (case hS => exact fun _ h => h.2); rintro e _ ⟨rfl, hM⟩; clear HM;have HM:=Aside0.mk hM;clear hM))
          go_roundw
          case rel => exact ⟨i + 1, by go_num, ⟨by omega⟩, ⟨HM.out.drop.drop⟩⟩
          case measure => simp [intOf]; omega
    · have hil : i = b.length := by have := HIX.out; omega
      have hlz : ¬ ((i : Int) < (b.length : Int)) := by omega
      clear hil HIX
      go_wp2_with (first|go_skip|((with_reducible refine' lc HM ?qw rfl ?qx ?qm ?qa ?qv ?_);(case qw|qx|qa=>rfl);(case qm=>repeat constructor);(case qv=>rfl))|((with_reducible refine' la HM ?qw rfl ?qx ?qm ?qa ?_);(case qw|qx=>rfl);(case qm=>repeat constructor);(case qa=>rfl))|((with_reducible refine' pa HM ?qw rfl ?qx _ ?qy ?qm ?qa ?_);(case qw|qx|qy=>rfl);(case qm=>repeat constructor);(case qa=>rfl);clear HM;intro _ HM)|((with_reducible refine' bz HM ?qw rfl ?qa ?qc ?_);(case qw|qa|qc=>rfl);clear HM;intro _ _ HM))
      go_loopw [143] (fun v143 wr => ∃ (i : Nat), v143 = .int .i64 i ∧ Aside0 (i ≤ a.length) ∧ Aside0 (Mem w (fun k => k < w.heap.size) wr ((g11, [Value.int .i64 z1, Value.int .i64 z2, Value.int .i64 z3, Value.int .i64 z4], 23) :: (g12, [Value.int .i64 p1, Value.int .i64 p2, Value.int .i64 p3, Value.int .i64 p4], 23) :: (g9, [.slice At t.length ct, .int .i64 nt], 35) :: (g8, [.slice Awb ws2.length cwb, .int .i64 nw2], 64) :: (g7, [.slice Ab b.length cb, .int .i64 nb], 35) :: (g6, [.slice Awa ws.length cwa, .int .i64 nw], 64) :: (g5, [.slice Aa a.length ca, .int .i64 na], 35) :: []) (fun w => ((Two A0 A1 xs ys w ∧ Tr Aa a w) ∧ Tr Ab b w) ∧ Tr At t w))) (fun v143 _ => a.length - (intOf v143).toNat)
      case atStart => exact ⟨0, rfl, ⟨Nat.zero_le _⟩, HM⟩
      case round =>
        clear HM
        obtain ⟨i, rfl, HIX, HM⟩ := hrel
        have hib : (i : Int) ≤ 4530 := by have := HIX.out; omega
        by_cases hlt : i < a.length
        · have hfa := HFA.out _ (List.getElem_mem hlt)
          have hlz : (i : Int) < (a.length : Int) := by omega
          obtain ⟨ad, ea, hx0, hx1, hx2, hx3, hx4, hx5, hx6, hx7, hx8, hx9, hx10, hx11, hx12⟩ := at_T44 (HM.out.now.1.1.2) (i : Int) (by omega) (by omega)
          have hrd : rd_T44 a (i : Int) = a[i] := by unfold rd_T44; rw [Int.toNat_natCast, List.getD_eq_getElem?_getD, List.getElem?_eq_getElem hlt]; rfl
          rw [Int.toNat_natCast, hrd] at hx0 hx1 hx2 hx3 hx4 hx5 hx6 hx7 hx8 hx9 hx11 hx12
          rw [Int.toNat_natCast] at hx10
          have HY := Aside0.mk (HIA.out.clean _ (List.getElem_mem hlt))
          generalize a[i] = y at hx0 hx1 hx2 hx3 hx4 hx5 hx6 hx7 hx8 hx9 hx11 hx12 hfa HY
          clear hrd
          subst ea
          rcases hfa with ⟨hx1, hx2⟩ | ⟨s, o, hx1, hx2⟩
          · have HX1 := Aside0.mk hx1
            have HX2 := Aside0.mk hx2
            clear hx1 hx2
            go_upto_region 23 with (first|go_skip|((with_reducible refine' lc HM ?qw rfl ?qx ?qm ?qa ?qv ?_);(case qw|qx|qa=>rfl);(case qm=>repeat constructor);(case qv=>rfl))|((with_reducible refine' la HM ?qw rfl ?qx ?qm ?qa ?_);(case qw|qx=>rfl);(case qm=>repeat constructor);(case qa=>rfl))|((with_reducible refine' pa HM ?qw rfl ?qx _ ?qy ?qm ?qa ?_);(case qw|qx|qy=>rfl);(case qm=>repeat constructor);(case qa=>rfl);clear HM;intro _ HM)|((with_reducible refine' bz HM ?qw rfl ?qa ?qc ?_);(case qw|qa|qc=>rfl);clear HM;intro _ _ HM))
            clear hx0 hx1 hx2 hx3 hx4 hx5 hx6 hx7 hx8 hx9 hx10 hx11 hx12
            have hrow : ∀ (q : S44), [Value.string q.f0, .int .i64 q.f1, .int .i64 q.f2.f0, .int .i64 q.f2.f1, .int .i64 q.f2.f2, .int .i64 q.f2.f3, .int .i64 q.f2.f4, .string q.f2.f5, .string q.f2.f6, .string q.f2.f7, .slice none 0 0, .int .i64 q.f2.f8.f1, .bool q.f2.f9] = rowL q := fun _ => rfl
            rw [hrow] at HM
            clear hrow
            go_upto_region 24 with (first|go_skip|((with_reducible refine' lc HM ?qw rfl ?qx ?qm ?qa ?qv ?_);(case qw|qx|qa=>rfl);(case qm=>repeat constructor);(case qv=>rfl))|((with_reducible refine' la HM ?qw rfl ?qx ?qm ?qa ?_);(case qw|qx=>rfl);(case qm=>repeat constructor);(case qa=>rfl))|((with_reducible refine' pa HM ?qw rfl ?qx _ ?qy ?qm ?qa ?_);(case qw|qx|qy=>rfl);(case qm=>repeat constructor);(case qa=>rfl);clear HM;intro _ HM)|((with_reducible refine' bz HM ?qw rfl ?qa ?qc ?_);(case qw|qa|qc=>rfl);clear HM;intro _ _ HM)|(go_at_call 23; (refine (get_rowS HM.out ?hS HIT.out HCt.out (by have := HLT.out; omega) HY.out HX2.out).mono ?_); (case hS => exact fun _ h => h.2); rintro e _ ⟨rfl, hM⟩; clear HM;have HM:=Aside0.mk hM;clear hM))
            go_wp2_with (first|go_skip|((with_reducible refine' lc HM ?qw rfl ?qx ?qm ?qa ?qv ?_);(case qw|qx|qa=>rfl);(case qm=>repeat constructor);(case qv=>rfl))|((with_reducible refine' la HM ?qw rfl ?qx ?qm ?qa ?_);(case qw|qx=>rfl);(case qm=>repeat constructor);(case qa=>rfl))|((with_reducible refine' pa HM ?qw rfl ?qx _ ?qy ?qm ?qa ?_);(case qw|qx|qy=>rfl);(case qm=>repeat constructor);(case qa=>rfl);clear HM;intro _ HM)|((with_reducible refine' bz HM ?qw rfl ?qa ?qc ?_);(case qw|qa|qc=>rfl);clear HM;intro _ _ HM)|(go_at_call 23; (refine (get_rowN HM.out ?hS HIB.out HCb.out (by have := HLB.out; omega) HY.out HX1.out).mono ?_); (case hS => exact fun _ h => h.1.2); rintro e _ ⟨rfl, hM⟩; clear HM;have HM:=Aside0.mk hM;clear hM))
            go_roundw
            case rel => exact ⟨i + 1, by go_num, ⟨by omega⟩, ⟨HM.out.drop.drop.drop⟩⟩
            case measure => simp [intOf]; omega
          · have HX1 := Aside0.mk hx1
            have HX2 := Aside0.mk hx2
            clear hx1 hx2
            go_upto_region 23 with (first|go_skip|((with_reducible refine' lc HM ?qw rfl ?qx ?qm ?qa ?qv ?_);(case qw|qx|qa=>rfl);(case qm=>repeat constructor);(case qv=>rfl))|((with_reducible refine' la HM ?qw rfl ?qx ?qm ?qa ?_);(case qw|qx=>rfl);(case qm=>repeat constructor);(case qa=>rfl))|((with_reducible refine' pa HM ?qw rfl ?qx _ ?qy ?qm ?qa ?_);(case qw|qx|qy=>rfl);(case qm=>repeat constructor);(case qa=>rfl);clear HM;intro _ HM)|((with_reducible refine' bz HM ?qw rfl ?qa ?qc ?_);(case qw|qa|qc=>rfl);clear HM;intro _ _ HM))
            clear hx0 hx1 hx2 hx3 hx4 hx5 hx6 hx7 hx8 hx9 hx10 hx11 hx12
            have hrow : ∀ (q : S44), [Value.string q.f0, .int .i64 q.f1, .int .i64 q.f2.f0, .int .i64 q.f2.f1, .int .i64 q.f2.f2, .int .i64 q.f2.f3, .int .i64 q.f2.f4, .string q.f2.f5, .string q.f2.f6, .string q.f2.f7, .slice none 0 0, .int .i64 q.f2.f8.f1, .bool q.f2.f9] = rowL q := fun _ => rfl
            rw [hrow] at HM
            clear hrow
            go_upto_region 24 with (first|go_skip|((with_reducible refine' lc HM ?qw rfl ?qx ?qm ?qa ?qv ?_);(case qw|qx|qa=>rfl);(case qm=>repeat constructor);(case qv=>rfl))|((with_reducible refine' la HM ?qw rfl ?qx ?qm ?qa ?_);(case qw|qx=>rfl);(case qm=>repeat constructor);(case qa=>rfl))|((with_reducible refine' pa HM ?qw rfl ?qx _ ?qy ?qm ?qa ?_);(case qw|qx|qy=>rfl);(case qm=>repeat constructor);(case qa=>rfl);clear HM;intro _ HM)|((with_reducible refine' bz HM ?qw rfl ?qa ?qc ?_);(case qw|qa|qc=>rfl);clear HM;intro _ _ HM)|(go_at_call 23; (refine (get_rowS HM.out ?hS HIT.out HCt.out (by have := HLT.out; omega) HY.out HX2.out).mono ?_); (case hS => exact fun _ h => h.2); rintro e _ ⟨rfl, hM⟩; clear HM;have HM:=Aside0.mk hM;clear hM))
            go_wp2_with (first|go_skip|((with_reducible refine' lc HM ?qw rfl ?qx ?qm ?qa ?qv ?_);(case qw|qx|qa=>rfl);(case qm=>repeat constructor);(case qv=>rfl))|((with_reducible refine' la HM ?qw rfl ?qx ?qm ?qa ?_);(case qw|qx=>rfl);(case qm=>repeat constructor);(case qa=>rfl))|((with_reducible refine' pa HM ?qw rfl ?qx _ ?qy ?qm ?qa ?_);(case qw|qx|qy=>rfl);(case qm=>repeat constructor);(case qa=>rfl);clear HM;intro _ HM)|((with_reducible refine' bz HM ?qw rfl ?qa ?qc ?_);(case qw|qa|qc=>rfl);clear HM;intro _ _ HM)|(go_at_call 23; (refine (get_rowS HM.out ?hS HIB.out HCb.out (by have := HLB.out; omega) HY.out HX1.out).mono ?_); (case hS => exact fun _ h => h.1.2); rintro e _ ⟨rfl, hM⟩; clear HM;have HM:=Aside0.mk hM;clear hM))
            go_roundw
            case rel => exact ⟨i + 1, by go_num, ⟨by omega⟩, ⟨HM.out.drop.drop.drop⟩⟩
            case measure => simp [intOf]; omega
        · have hil : i = a.length := by have := HIX.out; omega
          have hlz : ¬ ((i : Int) < (a.length : Int)) := by omega
          clear hil HIX
          go_upto_region 29 with (first|go_skip|((with_reducible refine' lc HM ?qw rfl ?qx ?qm ?qa ?qv ?_);(case qw|qx|qa=>rfl);(case qm=>repeat constructor);(case qv=>rfl))|((with_reducible refine' la HM ?qw rfl ?qx ?qm ?qa ?_);(case qw|qx=>rfl);(case qm=>repeat constructor);(case qa=>rfl))|((with_reducible refine' pa HM ?qw rfl ?qx _ ?qy ?qm ?qa ?_);(case qw|qx|qy=>rfl);(case qm=>repeat constructor);(case qa=>rfl);clear HM;intro _ HM)|((with_reducible refine' bz HM ?qw rfl ?qa ?qc ?_);(case qw|qa|qc=>rfl);clear HM;intro _ _ HM)|(go_at_call 29;refine (over_C (a:=[]) inv_nil HIB.out (by simp) (by have:=HLB.out;omega) (by omega) (by have:=HNB.out;omega) HN1.out HM.out (fun _ _=>Kd.C_nil _ _) (fun _ h=>h.1.2) (Nat.zero_le _) HCb.out).mono ?_;rintro e _ ⟨An, cn, rfl, _, hM⟩;clear HM;have HM:=Aside0.mk hM;clear hM))
          go_upto_region 30 with (first|go_skip|((with_reducible refine' lc HM ?qw rfl ?qx ?qm ?qa ?qv ?_);(case qw|qx|qa=>rfl);(case qm=>repeat constructor);(case qv=>rfl))|((with_reducible refine' la HM ?qw rfl ?qx ?qm ?qa ?_);(case qw|qx=>rfl);(case qm=>repeat constructor);(case qa=>rfl))|((with_reducible refine' pa HM ?qw rfl ?qx _ ?qy ?qm ?qa ?_);(case qw|qx|qy=>rfl);(case qm=>repeat constructor);(case qa=>rfl);clear HM;intro _ HM)|((with_reducible refine' bz HM ?qw rfl ?qa ?qc ?_);(case qw|qa|qc=>rfl);clear HM;intro _ _ HM)|(go_at_call 29;refine (over_C (b:=[]) HIA.out inv_nil (by have:=HLA.out;omega) (by simp) (by have:=HNA.out;omega) (by omega) HN4.out HM.out (fun _ h=>h.1.1.1.2) (fun _ _=>Kd.C_nil _ _) HCa.out (Nat.zero_le _)).mono ?_;rintro e _ ⟨As, cs, rfl, _, hM⟩;clear HM;have HM:=Aside0.mk hM;clear hM))
          have htn := HN3.out
          go_wp2_with (first|go_skip|((with_reducible refine' lc HM ?qw rfl ?qx ?qm ?qa ?qv ?_);(case qw|qx|qa=>rfl);(case qm=>repeat constructor);(case qv=>rfl))|((with_reducible refine' la HM ?qw rfl ?qx ?qm ?qa ?_);(case qw|qx=>rfl);(case qm=>repeat constructor);(case qa=>rfl))|((with_reducible refine' pa HM ?qw rfl ?qx _ ?qy ?qm ?qa ?_);(case qw|qx|qy=>rfl);(case qm=>repeat constructor);(case qa=>rfl);clear HM;intro _ HM)|((with_reducible refine' bz HM ?qw rfl ?qa ?qc ?_);(case qw|qa|qc=>rfl);clear HM;intro _ _ HM))
          go_ret
          exact ⟨rfl, HM.out.below⟩
end Go.Proofs.YtolpamojbiipaaaDoor.XA
