/- UsageCuts's walk over Mem. Printed by wip/tools. -/
import Derived.Test.YtolpamojbiipaaaDoorEMeasures
import Derived.Test.YtolpamojbiipaaaDoorEMemS
import Derived.Test.YtolpamojbiipaaaDoorEMemRel
import Derived.Test.YtolpamojbiipaaaDoorETreeCut
namespace Go.Proofs.YtolpamojbiipaaaDoor.XA
open Go.RowKit Go.Proofs.YtolpamojbiipaaaDoorW.PrintWords Go.Proofs.YtolpamojbiipaaaDoorW.PrintLast Go.Proofs.YtolpamojbiipaaaDoorW.PrintMore Go.Proofs.YtolpamojbiipaaaDoor.Mem Go.Proofs.YtolpamojbiipaaaDoor.Pure
attribute [local go_sem high] eqA23
set_option linter.unusedVariables false
set_option linter.unusedSimpArgs false

def uc12r8T : Bool × List (List Nat × List Nat) := (true, [([], []), ([], []), ([1], [1]), ([0, 2, 2], [0, 2]), ([3], [3]), ([4], [4]), ([4], [4]), ([], []), ([7, 5, 3, 0, 1, 2, 3, 4, 5, 7], [5, 7]), ([6, 8, 0, 1, 2, 3, 4, 5, 6, 7, 8], [6])])
def uc12r8B : List Nat := [0, 0, 2, 7, 15, 31, 31, 0, 191, 511]
theorem uc12r8Tab : rtab .any (opsOf Tryd.f12 8) = uc12r8T := by kernel_rfl
theorem uc12r8Bits : waitsOk uc12r8T.2 uc12r8B = true := by kernel_rfl
def uc12r20T : Bool × List (List Nat × List Nat) := (true, [([], []), ([], []), ([1], [1]), ([], []), ([3], [3]), ([0, 2, 4, 2], [0, 2, 4]), ([5], [5]), ([6], [6]), ([6], [6]), ([], []), ([9, 7, 5, 0, 1, 2, 3, 4, 5, 6, 7, 9], [7, 9]), ([8, 10, 0, 1, 2, 3, 4, 5, 6, 7, 8, 9, 10], [8])])
def uc12r20B : List Nat := [0, 0, 2, 0, 8, 31, 63, 127, 127, 0, 767, 2047]
theorem uc12r20Tab : rtab .any (opsOf Tryd.f12 20) = uc12r20T := by kernel_rfl
theorem uc12r20Bits : waitsOk uc12r20T.2 uc12r20B = true := by kernel_rfl
theorem ofL_nil : ofL [] = (0, 0, 0, 0) := rfl
theorem cutP_ok {l : List S44} {n : Int} (h : Pure.Inv l n) (hl : l.length ≤ 900000) {ps : Pth} (hg : ∀ p ∈ ps, Pure.Good p) : Pure.Inv (cutP l ps).1 n ∧ (cutP l ps).1.length ≤ l.length ∧ ((ofL (cutP l ps).1).1 ≤ (ofL l).1 ∧ (ofL (cutP l ps).1).2.1 ≤ (ofL l).2.1 ∧ (ofL (cutP l ps).1).2.2.1 ≤ (ofL l).2.2.1 ∧ (ofL (cutP l ps).1).2.2.2 ≤ (ofL l).2.2.2) := by
  unfold cutP
  split
  · exact ⟨h, Nat.le_refl _, Int.le_refl _, Int.le_refl _, Int.le_refl _, Int.le_refl _⟩
  · exact ⟨cut_inv h hg, List.length_filter_le _ _, cut_use h hl hg⟩
theorem cutP_all {l : List S44} {n : Int} (h : Pure.Inv l n) : cutP l [] = ([], 0) := by
  unfold cutP
  rw [if_neg (by simp), cut_all h]
set_option maxHeartbeats 8000000 in
set_option maxRecDepth 100000 in
theorem UsageCuts_walk (w : World) (HG0 : GG w) (A0 : Option Addr) (c0 : Nat) (xs : List S49) (hr0 : Kd.C k49 w A0 xs.length xs) (hm0 : xs.length ≤ 9223372036854775807) (hw0 : ∀ x ∈ xs, (x.f0.size ≤ 9223372036854775807 ∧ x.f1.size ≤ 9223372036854775807 ∧ (Lit.int .i64 x.f2).wf = true ∧ (Lit.int .i64 x.f3).wf = true)) (s : ByteArray) (x : S49) (hw2 : (x.f0.size ≤ 9223372036854775807 ∧ x.f1.size ≤ 9223372036854775807 ∧ (Lit.int .i64 x.f2).wf = true ∧ (Lit.int .i64 x.f3).wf = true)) :
    Calls Tryd.prog 12 #[.slice A0 xs.length c0, .string s, .agg #[.string x.f0, .string x.f1, .int .i64 x.f2, .int .i64 x.f3]] w fun e w' => e = .returned (.bool true) ∧ Below w.heap.size w w' := by
  have HM : Aside0 (Mem w (fun k => k < w.heap.size) w [] (fun w => Kd.C k49 w A0 xs.length xs)) := ⟨Mem.start (fun W' h => heap49.C (fun k hk => h k hk hk) hr0)⟩
  have HG := Aside0.mk HG0
  clear hw0 hr0 HG0 hw2
  obtain ⟨⟨ps, e0⟩, hcl⟩ : ∃ q, cleanS s.data.toList = q := ⟨_, rfl⟩
  have HCLN : Aside0 (∀ (W : World) (B : List Bx) (S : World → Prop), Mem w (fun k => k < w.heap.size) W B S → Calls Tryd.prog 22 #[.string s] W fun e w' => ∃ A' c', e = .returned (.tuple #[.slice A' ps.length c', .int .i64 e0]) ∧ ps.length ≤ c' ∧ Mem w (fun k => k < w.heap.size) w' B (fun w => S w ∧ Sr A' (ps.map mkS) w)) := ⟨fun W B S hM => by have := clean_M HG.out hM s; rw [hcl] at this; exact this⟩
  by_cases hlen : 40 < xs.length
  · have b0 : decide ((40 : Int) < (xs.length : Int)) = true := decide_eq_true (by omega)
    clear hlen hcl
    go_enter Tryd.func12, Tryd.ntmps12
    go_wp2_with (first|go_skip|((with_reducible refine gate_dst (N := 5) rfl ?_);(with_reducible refine' bn HM ?qw rfl _ ?qx ?_);(case qw|qx=>rfl);clear HM;intro g5 _ HM)|((with_reducible refine' lc HM ?qw rfl ?qx ?qm ?qa ?qv ?_);(case qw|qx|qa=>rfl);(case qm=>repeat constructor);(case qv=>rfl))|((with_reducible refine' la HM ?qw rfl ?qx ?qm ?qa ?_);(case qw|qx=>rfl);(case qm=>repeat constructor);(case qa=>rfl))|((with_reducible refine' pa HM ?qw rfl ?qx _ ?qy ?qm ?qa ?_);(case qw|qx|qy=>rfl);(case qm=>repeat constructor);(case qa=>rfl);clear HM;intro _ HM)|((with_reducible refine' bz HM ?qw rfl ?qa ?qc ?_);(case qw|qa|qc=>rfl);clear HM;intro _ _ HM)|(go_at_call 16;refine (measures_M HM.out).mono ?_;rintro e _ ⟨rfl, hM⟩;clear HM;have HM:=Aside0.mk hM;clear hM)|(go_at_call 22;refine (HCLN.out _ _ _ HM.out).mono ?_;rintro e _ ⟨Ap, cp, rfl, hc, hM⟩;have HCP := Aside0.mk hc; clear hc; clear HM;have HM:=Aside0.mk hM;clear hM))
    go_ret
    exact ⟨rfl, HM.out.below⟩
  have b0 : decide ((40 : Int) < (xs.length : Int)) = false := decide_eq_false (by omega)
  have HX := Aside0.mk (show xs.length ≤ 40 by omega)
  clear hlen hm0
  by_cases he : e0 = 0
  case neg =>
    have b1 : (e0 != 0) = true := bne_iff_ne.2 he
    clear he hcl
    go_enter Tryd.func12, Tryd.ntmps12
    go_wp2_with (first|go_skip|((with_reducible refine gate_dst (N := 5) rfl ?_);(with_reducible refine' bn HM ?qw rfl _ ?qx ?_);(case qw|qx=>rfl);clear HM;intro g5 _ HM)|((with_reducible refine' lc HM ?qw rfl ?qx ?qm ?qa ?qv ?_);(case qw|qx|qa=>rfl);(case qm=>repeat constructor);(case qv=>rfl))|((with_reducible refine' la HM ?qw rfl ?qx ?qm ?qa ?_);(case qw|qx=>rfl);(case qm=>repeat constructor);(case qa=>rfl))|((with_reducible refine' pa HM ?qw rfl ?qx _ ?qy ?qm ?qa ?_);(case qw|qx|qy=>rfl);(case qm=>repeat constructor);(case qa=>rfl);clear HM;intro _ HM)|((with_reducible refine' bz HM ?qw rfl ?qa ?qc ?_);(case qw|qa|qc=>rfl);clear HM;intro _ _ HM)|(go_at_call 16;refine (measures_M HM.out).mono ?_;rintro e _ ⟨rfl, hM⟩;clear HM;have HM:=Aside0.mk hM;clear hM)|(go_at_call 22;refine (HCLN.out _ _ _ HM.out).mono ?_;rintro e _ ⟨Ap, cp, rfl, hc, hM⟩;have HCP := Aside0.mk hc; clear hc; clear HM;have HM:=Aside0.mk hM;clear hM))
    go_ret
    exact ⟨rfl, HM.out.below⟩
  subst he
  have hgd : Gd ps := by have := clean_gd (s := s) (by rw [hcl]); rwa [hcl] at this
  by_cases hs3 : 300 < s.size
  · have b1 : decide ((300 : Int) < (s.size : Int)) = true := decide_eq_true (by omega)
    clear hs3 hcl hgd
    go_enter Tryd.func12, Tryd.ntmps12
    go_wp2_with (first|go_skip|((with_reducible refine gate_dst (N := 5) rfl ?_);(with_reducible refine' bn HM ?qw rfl _ ?qx ?_);(case qw|qx=>rfl);clear HM;intro g5 _ HM)|((with_reducible refine' lc HM ?qw rfl ?qx ?qm ?qa ?qv ?_);(case qw|qx|qa=>rfl);(case qm=>repeat constructor);(case qv=>rfl))|((with_reducible refine' la HM ?qw rfl ?qx ?qm ?qa ?_);(case qw|qx=>rfl);(case qm=>repeat constructor);(case qa=>rfl))|((with_reducible refine' pa HM ?qw rfl ?qx _ ?qy ?qm ?qa ?_);(case qw|qx|qy=>rfl);(case qm=>repeat constructor);(case qa=>rfl);clear HM;intro _ HM)|((with_reducible refine' bz HM ?qw rfl ?qa ?qc ?_);(case qw|qa|qc=>rfl);clear HM;intro _ _ HM)|(go_at_call 16;refine (measures_M HM.out).mono ?_;rintro e _ ⟨rfl, hM⟩;clear HM;have HM:=Aside0.mk hM;clear hM)|(go_at_call 22;refine (HCLN.out _ _ _ HM.out).mono ?_;rintro e _ ⟨Ap, cp, rfl, hc, hM⟩;have HCP := Aside0.mk hc; clear hc; clear HM;have HM:=Aside0.mk hM;clear hM))
    go_ret
    exact ⟨rfl, HM.out.below⟩
  have b1 : decide ((300 : Int) < (s.size : Int)) = false := decide_eq_false (by omega)
  have hps : ps = [] ∨ Cl ps := by have := clean_cl (s := s) (by rw [hcl]) (by omega); rwa [hcl] at this
  clear hs3 hcl
  have hok := planted14_ok xs
  obtain ⟨⟨rs, n⟩, hpl⟩ : ∃ q, planted14 xs = q := ⟨_, rfl⟩
  have hx40 := HX.out
  have HPL : Aside0 (∀ (W : World) (B : List Bx) (S : World → Prop), Mem w (fun k => k < w.heap.size) W B S → (∀ w, S w → Kd.C k49 w A0 xs.length xs) → Calls Tryd.prog 19 #[.slice A0 xs.length c0] W fun e w' => ∃ A' c', e = .returned (.agg #[.slice A' rs.length c', .int .i64 n]) ∧ rs.length ≤ c' ∧ Mem w (fun k => k < w.heap.size) w' B (fun w => S w ∧ Tr A' rs w)) := ⟨fun W B S hM hS => by have := planted14_M (c0 := c0) HG.out hM hS (by omega); rw [hpl] at this; exact this⟩
  rw [hpl] at hok
  simp only at hok
  obtain ⟨hI, hn, hl⟩ := hok
  have hl6 : rs.length ≤ 6040 := by omega
  have hn6 : n ≤ 6040 := by omega
  have hub := use_bnd hI (by omega) (by omega)
  obtain ⟨hIc, hlc, hcu⟩ := cutP_ok hI (by omega) hgd.good
  have hc0 := cutP_all hI
  obtain ⟨⟨u1, u2, u3, u4⟩, hu⟩ : ∃ q, ofL rs = q := ⟨_, rfl⟩
  obtain ⟨⟨kc, ec⟩, hkc⟩ : ∃ q, cutP rs ps = q := ⟨_, rfl⟩
  have HUU : Aside0 (∀ (W : World) (B : List Bx) (S : World → Prop) {A : Option Addr} {c : Nat} {n : Int}, Mem w (fun k => k < w.heap.size) W B S → (∀ w, S w → Tr A rs w) → rs.length ≤ c → Calls Tryd.prog 20 #[.agg #[.slice A rs.length c, .int .i64 n]] W fun e w' => e = .returned (.agg #[Value.int .i64 u1, Value.int .i64 u2, Value.int .i64 u3, Value.int .i64 u4]) ∧ Mem w (fun k => k < w.heap.size) w' B S) := ⟨fun W B S A c n' hM hS hc => by have := of_M (n := n') hM hS hI hc (by omega) (by omega); rw [hu] at this; exact this⟩
  have HCUT : Aside0 (∀ (W : World) (B : List Bx) (S : World → Prop) {A : Option Addr} {c : Nat}, Mem w (fun k => k < w.heap.size) W B S → (∀ w, S w → Tr A rs w) → rs.length ≤ c → Calls Tryd.prog 37 #[.agg #[.slice A rs.length c, .int .i64 n], .string (mkS (joinS ps))] W fun e w' => ∃ A' c', e = .returned (.tuple #[.agg #[.slice A' kc.length c', .int .i64 n], .int .i64 ec]) ∧ kc.length ≤ c' ∧ Mem w (fun k => k < w.heap.size) w' B (fun w => S w ∧ Tr A' kc w)) := ⟨fun W B S A c hM hS hc => by have := cut_M (n := n) hM hS hI hc (by omega) hgd; rw [hkc] at this; exact this⟩
  have HCUT0 : Aside0 (∀ (W : World) (B : List Bx) (S : World → Prop) {A : Option Addr} {c : Nat}, Mem w (fun k => k < w.heap.size) W B S → (∀ w, S w → Tr A rs w) → rs.length ≤ c → Calls Tryd.prog 37 #[.agg #[.slice A rs.length c, .int .i64 n], .string ⟨#[]⟩] W fun e w' => ∃ A' c', e = .returned (.tuple #[.agg #[.slice A' ([] : List S44).length c', .int .i64 n], .int .i64 0]) ∧ ([] : List S44).length ≤ c' ∧ Mem w (fun k => k < w.heap.size) w' B (fun w => S w ∧ Tr A' [] w)) := ⟨fun W B S A c hM hS hc => by have := cut_M (n := n) (ps := []) hM hS hI hc (by omega) gd_nil; rw [hc0] at this; exact this⟩
  have HU0 : Aside0 (∀ (W : World) (B : List Bx) (S : World → Prop) {A : Option Addr} {c : Nat} {n : Int}, Mem w (fun k => k < w.heap.size) W B S → (∀ w, S w → Tr A ([] : List S44) w) → ([] : List S44).length ≤ c → Calls Tryd.prog 20 #[.agg #[.slice A ([] : List S44).length c, .int .i64 n]] W fun e w' => e = .returned (.agg #[Value.int .i64 0, Value.int .i64 0, Value.int .i64 0, Value.int .i64 0]) ∧ Mem w (fun k => k < w.heap.size) w' B S) := ⟨fun W B S A c n' hM hS hc => of_M (n := n') hM hS inv_nil hc (by simp) (show (0 : Int) ≤ 900000 by omega)⟩
  rw [hkc] at hIc hlc hcu
  rw [hu] at hub hcu
  simp only at hub hcu hIc hlc
  obtain ⟨⟨z1, z2, z3, z4⟩, hz⟩ : ∃ q, ofL kc = q := ⟨_, rfl⟩
  have HUZ : Aside0 (∀ (W : World) (B : List Bx) (S : World → Prop) {A : Option Addr} {c : Nat} {n : Int}, Mem w (fun k => k < w.heap.size) W B S → (∀ w, S w → Tr A kc w) → kc.length ≤ c → Calls Tryd.prog 20 #[.agg #[.slice A kc.length c, .int .i64 n]] W fun e w' => e = .returned (.agg #[Value.int .i64 z1, Value.int .i64 z2, Value.int .i64 z3, Value.int .i64 z4]) ∧ Mem w (fun k => k < w.heap.size) w' B S) := ⟨fun W B S A c n' hM hS hc => by have := of_M (n := n') hM hS hIc hc (by omega) (by omega); rw [hz] at this; exact this⟩
  rw [hz] at hcu
  simp only at hcu
  have d1 : decide (u1 < z1) = false := decide_eq_false (by omega)
  have d2 : decide (u2 < z2) = false := decide_eq_false (by omega)
  have d3 : decide (u3 < z3) = false := decide_eq_false (by omega)
  have d4 : decide (u4 < z4) = false := decide_eq_false (by omega)
  have HI := Aside0.mk hI
  have HL := Aside0.mk (show rs.length ≤ 900000 by omega)
  have HGD := Aside0.mk hgd
  have HPS := Aside0.mk hps
  have HU := Aside0.mk hu
  have HUB := Aside0.mk hub
  have HN6 := Aside0.mk (show n ≤ 6040 ∧ rs.length ≤ 6040 from ⟨hn6, hl6⟩)
  have hlz6 : (rs.length : Int) ≤ 6040 := by omega
  clear hI hn hl hl6 hn6 hub hu hgd hps hpl hx40 hIc hlc hcu hc0 hkc hz
  go_enter Tryd.func12, Tryd.ntmps12
  go_upto_region 6 with (first|go_skip|((with_reducible refine gate_dst (N := 5) rfl ?_);(with_reducible refine' bn HM ?qw rfl _ ?qx ?_);(case qw|qx=>rfl);clear HM;intro g5 _ HM)|((with_reducible refine' lc HM ?qw rfl ?qx ?qm ?qa ?qv ?_);(case qw|qx|qa=>rfl);(case qm=>repeat constructor);(case qv=>rfl))|((with_reducible refine' la HM ?qw rfl ?qx ?qm ?qa ?_);(case qw|qx=>rfl);(case qm=>repeat constructor);(case qa=>rfl))|((with_reducible refine' pa HM ?qw rfl ?qx _ ?qy ?qm ?qa ?_);(case qw|qx|qy=>rfl);(case qm=>repeat constructor);(case qa=>rfl);clear HM;intro _ HM)|((with_reducible refine' bz HM ?qw rfl ?qa ?qc ?_);(case qw|qa|qc=>rfl);clear HM;intro _ _ HM)|(go_at_call 16;refine (measures_M HM.out).mono ?_;rintro e _ ⟨rfl, hM⟩;clear HM;have HM:=Aside0.mk hM;clear hM)|(go_at_call 22;refine (HCLN.out _ _ _ HM.out).mono ?_;rintro e _ ⟨Ap, cp, rfl, hc, hM⟩;have HCP := Aside0.mk hc; clear hc; clear HM;have HM:=Aside0.mk hM;clear hM))
  go_upto_region 7 with (first|go_skip|((with_reducible refine gate_dst (N := 9) rfl ?_);(with_reducible refine' bz HM ?qw rfl ?qa ?qc ?_);(case qw|qa|qc=>rfl);clear HM;intro g9 _ HM)|((with_reducible refine' lc HM ?qw rfl ?qx ?qm ?qa ?qv ?_);(case qw|qx|qa=>rfl);(case qm=>repeat constructor);(case qv=>rfl))|((with_reducible refine' la HM ?qw rfl ?qx ?qm ?qa ?_);(case qw|qx=>rfl);(case qm=>repeat constructor);(case qa=>rfl))|((with_reducible refine' pa HM ?qw rfl ?qx _ ?qy ?qm ?qa ?_);(case qw|qx|qy=>rfl);(case qm=>repeat constructor);(case qa=>rfl);clear HM;intro _ HM)|(go_at_call 19;refine (HPL.out _ _ _ HM.out (fun _ h => h.1)).mono ?_;rintro e _ ⟨A, c, rfl, hc, hM⟩;have HC := Aside0.mk hc; clear hc; clear HM;have HM:=Aside0.mk hM;clear hM))
  go_upto_region 8 with (first|go_skip|((with_reducible refine gate_dst (N := 10) rfl ?_);(with_reducible refine' bz HM ?qw rfl ?qa ?qc ?_);(case qw|qa|qc=>rfl);clear HM;intro g10 _ HM)|((with_reducible refine' lc HM ?qw rfl ?qx ?qm ?qa ?qv ?_);(case qw|qx|qa=>rfl);(case qm=>repeat constructor);(case qv=>rfl))|((with_reducible refine' la HM ?qw rfl ?qx ?qm ?qa ?_);(case qw|qx=>rfl);(case qm=>repeat constructor);(case qa=>rfl))|((with_reducible refine' pa HM ?qw rfl ?qx _ ?qy ?qm ?qa ?_);(case qw|qx|qy=>rfl);(case qm=>repeat constructor);(case qa=>rfl);clear HM;intro _ HM)|(go_at_call 20;refine (HUU.out _ _ _ HM.out (fun _ h => h.2) HC.out).mono ?_;rintro e _ ⟨rfl, hM⟩;clear HM;have HM:=Aside0.mk hM;clear hM))
  refine r_relA (n := 10) (fun q0 l q_ w' => ∃ (g11 : Nat) (A1 : Option Addr) (c1 : Nat), Mem w (fun k => k < w.heap.size) w' (bxL l 7 (g11, ccL l 8 [.slice A1 kc.length c1, .int .i64 n] [.slice none 0 0, .int .i64 0], 35) ++ (((g10, [Value.int .i64 u1, Value.int .i64 u2, Value.int .i64 u3, Value.int .i64 u4], 23) :: (g9, [.slice A rs.length c, .int .i64 n], 35) :: (g5, [.string x.f0, .string x.f1, .int .i64 x.f2, .int .i64 x.f3], 49) :: []))) (fun w => (fun w => (Kd.C k49 w A0 xs.length xs ∧ Sr Ap (ps.map mkS) w) ∧ Tr A rs w) w ∧ ck l 3 (Tr A1 kc w)) ∧ ck l 3 (kc.length ≤ c1) ∧ Frm q0 q_ [46, 47, 48, 49, 45, 50, 51, 11, 12] ∧ Slots q_ l [(0, 46, Value.agg #[.slice A rs.length c, .int .i64 n]), (1, 47, Value.slice Ap ps.length cp), (2, 48, Value.string (mkS (joinS ps))), (3, 49, Value.tuple #[Value.agg #[.slice A1 kc.length c1, .int .i64 n], .int .i64 ec]), (4, 45, Value.tuple #[Value.agg #[.slice A1 kc.length c1, .int .i64 n], .int .i64 ec]), (5, 50, Value.agg #[.slice A1 kc.length c1, .int .i64 n]), (6, 51, Value.int .i64 ec), (7, 11, Value.pointer (some ⟨g11, 0, none⟩)), (9, 12, Value.int .i64 ec)] ∧ Side [(8, 7), (4, 3), (5, 3), (6, 3), (8, 3), (9, 3)] l) (by kernel_rfl) uc12r8Tab (by kernel_rfl) rfl rfl ?_ ?_ ?_
  · refine ⟨0, none, 0, ?_, ck_start, Frm.refl _ _, Slots.start, Side.start⟩
    have hM0 := HM.out.drew
    simp only [bxL_false rep_get0, List.nil_append]
    exact hM0.imp (fun w h => ⟨h, ck_start⟩)
  rotate_left
  · intro l q_ w' i o hl hi ho hr ⟨g11, A1, c1, hM, hf3, hF, hS, hD⟩ K hK
    clear HM
    obtain ⟨_, rfl⟩ := Array.getElem?_eq_some_iff.1 ho
    clear ho
    have x7 := hF.get (N:=7) (by decide) (rfl:_=Value.slice Ap ps.length cp)
    have x9 := hF.get (N:=9) (by decide) (rfl:_=Value.pointer (some ⟨g9, 0, none⟩))
    have hz : q_.tmps.size = _ := hF.z
    have HF := Aside0.mk hF
    clear hF
    have hi2 : i < 10 := hi
    have hc : i = 0 ∨ i = 1 ∨ i = 2 ∨ i = 3 ∨ i = 4 ∨ i = 5 ∨ i = 6 ∨ i = 7 ∨ i = 8 ∨ i = 9 := by omega
    rcases hc with rfl | rfl | rfl | rfl | rfl | rfl | rfl | rfl | rfl | rfl
    · refine k_all hM (wanted_none rfl) rfl x9 (Has.app _ ((by repeat constructor))) rfl ?_
      exact hK _ _ ⟨g11, A1, c1, by simpa only [bxL_ne (show (0:Nat) ≠ 7 by decide), ccL_ne (show (0:Nat) ≠ 8 by decide), ck_ne (show (0:Nat) ≠ 3 by decide)] using hM, (by simpa only [ck_ne (show (0:Nat) ≠ 3 by decide)] using hf3), HF.out.put _ (by decide), hS.set 0 rfl (by omega) (by rw [hz]; exact Nat.le_of_ble_eq_true rfl) (show ([0, 1, 2, 3, 4, 5, 6, 7, 9] : List Nat).Nodup by decide) (show ([46, 47, 48, 49, 45, 50, 51, 11, 12] : List Nat).Nodup by decide), hD.skip (by omega) (by decide)⟩
    · refine k_mv (Value.slice Ap ps.length cp) (wanted_none rfl) (by first|exact .inl rfl|exact .inr rfl) x7 ?_
      exact hK _ _ ⟨g11, A1, c1, by simpa only [bxL_ne (show (1:Nat) ≠ 7 by decide), ccL_ne (show (1:Nat) ≠ 8 by decide), ck_ne (show (1:Nat) ≠ 3 by decide)] using hM, (by simpa only [ck_ne (show (1:Nat) ≠ 3 by decide)] using hf3), HF.out.put _ (by decide), hS.set 1 rfl (by omega) (by rw [hz]; exact Nat.le_of_ble_eq_true rfl) (show ([0, 1, 2, 3, 4, 5, 6, 7, 9] : List Nat).Nodup by decide) (show ([46, 47, 48, 49, 45, 50, 51, 11, 12] : List Nat).Nodup by decide), hD.skip (by omega) (by decide)⟩
    · have x47 := hS.nth 1 rfl (ready_dep hr rfl (show 1 ∈ _ by decide))
      refine goes_ Tryd.func24 (by kernel_rfl) rfl #[Value.slice Ap ps.length cp] (wanted_none rfl) rfl rfl (by simp only [List.map_toArray, List.map_cons, List.map_nil, x47]) ?_
      refine (join_M hM (fun _ h => h.1.1.2) HCP.out HGD.out).mono ?_
      rintro e w_ ⟨rfl, hM2⟩
      refine ⟨_, rfl, ?_⟩
      exact hK _ _ ⟨g11, A1, c1, by simpa only [bxL_ne (show (2:Nat) ≠ 7 by decide), ccL_ne (show (2:Nat) ≠ 8 by decide), ck_ne (show (2:Nat) ≠ 3 by decide)] using hM2, (by simpa only [ck_ne (show (2:Nat) ≠ 3 by decide)] using hf3), HF.out.put _ (by decide), hS.set 2 rfl (by omega) (by rw [hz]; exact Nat.le_of_ble_eq_true rfl) (show ([0, 1, 2, 3, 4, 5, 6, 7, 9] : List Nat).Nodup by decide) (show ([46, 47, 48, 49, 45, 50, 51, 11, 12] : List Nat).Nodup by decide), hD.skip (by omega) (by decide)⟩
    · have x46 := hS.nth 0 rfl (ready_dep hr rfl (show 0 ∈ _ by decide))
      have x48 := hS.nth 2 rfl (ready_dep hr rfl (show 2 ∈ _ by decide))
      have f0 := get_tf (by omega) (ready_self hr)
      have n4 : l.getD 4 false = false := hD.no (j:=3) (by decide) f0
      have n5 : l.getD 5 false = false := hD.no (j:=3) (by decide) f0
      have n6 : l.getD 6 false = false := hD.no (j:=3) (by decide) f0
      have n8 : l.getD 8 false = false := hD.no (j:=3) (by decide) f0
      have n9 : l.getD 9 false = false := hD.no (j:=3) (by decide) f0
      refine goes_ Tryd.func37 (by kernel_rfl) rfl #[Value.agg #[.slice A rs.length c, .int .i64 n], Value.string (mkS (joinS ps))] (wanted_none rfl) rfl rfl (by simp only [List.map_toArray, List.map_cons, List.map_nil, x46, x48]) ?_
      refine (HCUT.out _ _ _ hM (fun _ h => h.1.2) HC.out).mono ?_
      rintro e w_ ⟨A2, c2, rfl, hc2, hM2⟩
      refine ⟨_, rfl, ?_⟩
      refine hK _ _ ⟨g11, A2, c2, ?_, fun _ => hc2, HF.out.put _ (by decide), hS.turn (by omega) (by rw [hz]; exact Nat.le_of_ble_eq_true rfl) (by intro e he h; simp only [List.mem_cons, List.not_mem_nil, or_false] at he; rcases he with rfl | rfl | rfl | rfl | rfl | rfl | rfl | rfl | rfl <;> first | rfl | exact absurd h (Nat.ne_of_beq_eq_false rfl)) (by intro e he h; simp only [List.mem_cons, List.not_mem_nil, or_false] at he; rcases he with rfl | rfl | rfl | rfl | rfl | rfl | rfl | rfl | rfl <;> first | exact absurd rfl h | exact .inr n4 | exact .inr n5 | exact .inr n6 | exact .inr n8 | exact .inr n9 | exact .inl ⟨by simp, Nat.ne_of_beq_eq_false rfl⟩), hD.skip (by omega) (by decide)⟩
      simp only [bxL_ne (show (3:Nat) ≠ 7 by decide), ccL_ne (show (3:Nat) ≠ 8 by decide), ccL_false n8] at hM2 ⊢
      exact hM2.imp (fun w h => ⟨h.1.1, fun _ => h.2⟩)
    · have x49 := hS.nth 3 rfl (ready_dep hr rfl (show 3 ∈ _ by decide))
      refine k_mv (Value.tuple #[Value.agg #[.slice A1 kc.length c1, .int .i64 n], .int .i64 ec]) (wanted_none rfl) (by first|exact .inl rfl|exact .inr rfl) x49 ?_
      exact hK _ _ ⟨g11, A1, c1, by simpa only [bxL_ne (show (4:Nat) ≠ 7 by decide), ccL_ne (show (4:Nat) ≠ 8 by decide), ck_ne (show (4:Nat) ≠ 3 by decide)] using hM, (by simpa only [ck_ne (show (4:Nat) ≠ 3 by decide)] using hf3), HF.out.put _ (by decide), hS.set 4 rfl (by omega) (by rw [hz]; exact Nat.le_of_ble_eq_true rfl) (show ([0, 1, 2, 3, 4, 5, 6, 7, 9] : List Nat).Nodup by decide) (show ([46, 47, 48, 49, 45, 50, 51, 11, 12] : List Nat).Nodup by decide), hD.step (by omega) (by intro p hp e; simp only [List.mem_cons, List.not_mem_nil, or_false] at hp; rcases hp with rfl | rfl | rfl | rfl | rfl | rfl <;> first | exact absurd e (by decide) | exact ready_dep hr rfl (show 3 ∈ _ by decide))⟩
    · have x45 := hS.nth 4 rfl (ready_dep hr rfl (show 4 ∈ _ by decide))
      refine k_ex (Value.agg #[.slice A1 kc.length c1, .int .i64 n]) (wanted_none rfl) rfl x45 rfl ?_
      exact hK _ _ ⟨g11, A1, c1, by simpa only [bxL_ne (show (5:Nat) ≠ 7 by decide), ccL_ne (show (5:Nat) ≠ 8 by decide), ck_ne (show (5:Nat) ≠ 3 by decide)] using hM, (by simpa only [ck_ne (show (5:Nat) ≠ 3 by decide)] using hf3), HF.out.put _ (by decide), hS.set 5 rfl (by omega) (by rw [hz]; exact Nat.le_of_ble_eq_true rfl) (show ([0, 1, 2, 3, 4, 5, 6, 7, 9] : List Nat).Nodup by decide) (show ([46, 47, 48, 49, 45, 50, 51, 11, 12] : List Nat).Nodup by decide), hD.step (by omega) (by intro p hp e; simp only [List.mem_cons, List.not_mem_nil, or_false] at hp; rcases hp with rfl | rfl | rfl | rfl | rfl | rfl <;> first | exact absurd e (by decide) | exact hD (4, 3) (by decide) (ready_dep hr rfl (show 4 ∈ _ by decide)))⟩
    · have x45 := hS.nth 4 rfl (ready_dep hr rfl (show 4 ∈ _ by decide))
      refine k_ex (Value.int .i64 ec) (wanted_none rfl) rfl x45 rfl ?_
      exact hK _ _ ⟨g11, A1, c1, by simpa only [bxL_ne (show (6:Nat) ≠ 7 by decide), ccL_ne (show (6:Nat) ≠ 8 by decide), ck_ne (show (6:Nat) ≠ 3 by decide)] using hM, (by simpa only [ck_ne (show (6:Nat) ≠ 3 by decide)] using hf3), HF.out.put _ (by decide), hS.set 6 rfl (by omega) (by rw [hz]; exact Nat.le_of_ble_eq_true rfl) (show ([0, 1, 2, 3, 4, 5, 6, 7, 9] : List Nat).Nodup by decide) (show ([46, 47, 48, 49, 45, 50, 51, 11, 12] : List Nat).Nodup by decide), hD.step (by omega) (by intro p hp e; simp only [List.mem_cons, List.not_mem_nil, or_false] at hp; rcases hp with rfl | rfl | rfl | rfl | rfl | rfl <;> first | exact absurd e (by decide) | exact hD (4, 3) (by decide) (ready_dep hr rfl (show 4 ∈ _ by decide)))⟩
    · have f0 := get_tf (by omega) (ready_self hr)
      have f1 : l.getD 8 false = false := hD.no (j:=7) (by decide) f0
      refine k_zero hM (wanted_none rfl) rfl rfl rfl ?_
      intro gN w_ hM2
      refine hK _ _ ⟨gN, A1, c1, ?_, (by simpa only [ck_ne (show (7:Nat) ≠ 3 by decide)] using hf3), HF.out.put _ (by decide), hS.step (by omega) (by rw [hz]; exact Nat.le_of_ble_eq_true rfl) (by intro e he h; simp only [List.mem_cons, List.not_mem_nil, or_false] at he; rcases he with rfl | rfl | rfl | rfl | rfl | rfl | rfl | rfl | rfl <;> first | rfl | exact absurd h (Nat.ne_of_beq_eq_false rfl)) (by intro e he h; simp only [List.mem_cons, List.not_mem_nil, or_false] at he ⊢; rcases he with rfl | rfl | rfl | rfl | rfl | rfl | rfl | rfl | rfl <;> first | exact absurd rfl h | exact ⟨by simp, Nat.ne_of_beq_eq_false rfl⟩), hD.skip (by omega) (by decide)⟩
      simp only [bxL_false f0, List.nil_append] at hM2
      simp only [ck_ne (show (7:Nat) ≠ 3 by decide), ccL_ne (show (7:Nat) ≠ 8 by decide), bxL_true (set_get_eq (show 7 < l.length by omega)), ccL_false f1, List.singleton_append]
      exact hM2
    · have x11 := hS.nth 7 rfl (ready_dep hr rfl (show 7 ∈ _ by decide))
      have x50 := hS.nth 5 rfl (ready_dep hr rfl (show 5 ∈ _ by decide))
      have f0 := get_tf (by omega) (ready_self hr)
      have q7 := ready_dep hr rfl (show 7 ∈ _ by decide)
      simp only [bxL_true q7, ccL_false f0, List.singleton_append] at hM
      refine k_put hM (wanted_none rfl) rfl rfl x11 _ x50 (by repeat constructor) rfl ?_
      intro w_ hM2
      refine hK _ _ ⟨g11, A1, c1, ?_, (by simpa only [ck_ne (show (8:Nat) ≠ 3 by decide)] using hf3), HF.out, hS.keep (by intro e he; simp only [List.mem_cons, List.not_mem_nil, or_false] at he; rcases he with rfl | rfl | rfl | rfl | rfl | rfl | rfl | rfl | rfl <;> exact Nat.ne_of_beq_eq_false rfl), hD.step (by omega) (by intro p hp e; simp only [List.mem_cons, List.not_mem_nil, or_false] at hp; rcases hp with rfl | rfl | rfl | rfl | rfl | rfl <;> first | exact absurd e (by decide) | exact ready_dep hr rfl (show 7 ∈ _ by decide) | exact ready_dep hr rfl (show 3 ∈ _ by decide))⟩
      simp only [ck_ne (show (8:Nat) ≠ 3 by decide), bxL_ne (show (8:Nat) ≠ 7 by decide), ccL_true (set_get_eq (show 8 < l.length by omega)), bxL_true q7, List.singleton_append]
      exact hM2
    · have x51 := hS.nth 6 rfl (ready_dep hr rfl (show 6 ∈ _ by decide))
      refine k_mv (Value.int .i64 ec) (wanted_none rfl) (by first|exact .inl rfl|exact .inr rfl) x51 ?_
      exact hK _ _ ⟨g11, A1, c1, by simpa only [bxL_ne (show (9:Nat) ≠ 7 by decide), ccL_ne (show (9:Nat) ≠ 8 by decide), ck_ne (show (9:Nat) ≠ 3 by decide)] using hM, (by simpa only [ck_ne (show (9:Nat) ≠ 3 by decide)] using hf3), HF.out.put _ (by decide), hS.set 8 rfl (by omega) (by rw [hz]; exact Nat.le_of_ble_eq_true rfl) (show ([0, 1, 2, 3, 4, 5, 6, 7, 9] : List Nat).Nodup by decide) (show ([46, 47, 48, 49, 45, 50, 51, 11, 12] : List Nat).Nodup by decide), hD.step (by omega) (by intro p hp e; simp only [List.mem_cons, List.not_mem_nil, or_false] at hp; rcases hp with rfl | rfl | rfl | rfl | rfl | rfl <;> first | exact absurd e (by decide) | exact ready_dep hr rfl (show 3 ∈ _ by decide))⟩
  intro q_ w' ⟨g11, A1, c1, hM, hf3, hF, hS, _⟩
  have hA := hS.all hF (by intro e he; simp only [List.mem_cons, List.not_mem_nil, or_false] at he; rcases he with rfl | rfl | rfl | rfl | rfl | rfl | rfl | rfl | rfl <;> exact Nat.le_of_ble_eq_true rfl) (by intro e he; simp only [List.mem_cons, List.not_mem_nil, or_false] at he; rcases he with rfl | rfl | rfl | rfl | rfl | rfl | rfl | rfl | rfl <;> exact Nat.le_of_ble_eq_true rfl) (show ([46, 47, 48, 49, 45, 50, 51, 11, 12] : List Nat).Nodup by decide)
  subst hA
  simp only [bxL_true (rep_get (show 7 < 10 by decide)), ccL_true (rep_get (show 8 < 10 by decide)), List.singleton_append] at hM
  have hf3 := Aside0.mk (hf3 (rep_get (show 3 < 10 by decide)))
  replace hM := hM.imp (fun w h => (⟨h.1, h.2 (rep_get (show 3 < 10 by decide))⟩ : (fun w => (Kd.C k49 w A0 xs.length xs ∧ Sr Ap (ps.map mkS) w) ∧ Tr A rs w) w ∧ (Tr A1 kc w)))
  clear HM
  have HM := Aside0.mk hM
  clear hM hF hS
  simp only [fillAll, List.map_cons, List.map_nil, Act.put, List.setIfInBounds_toArray, List.set_cons_zero, List.set_cons_succ]
  by_cases hec : ec = 0
  · have k0 : (ec == 0) = true := beq_iff_eq.2 hec
    clear hec
    go_upto_region 13 with (first|go_skip|((with_reducible refine gate_dst (N := 13) rfl ?_);(with_reducible refine' bz HM ?qw rfl ?qa ?qc ?_);(case qw|qa|qc=>rfl);clear HM;intro g13 _ HM)|((with_reducible refine' lc HM ?qw rfl ?qx ?qm ?qa ?qv ?_);(case qw|qx|qa=>rfl);(case qm=>repeat constructor);(case qv=>rfl))|((with_reducible refine' la HM ?qw rfl ?qx ?qm ?qa ?_);(case qw|qx=>rfl);(case qm=>repeat constructor);(case qa=>rfl))|((with_reducible refine' pa HM ?qw rfl ?qx _ ?qy ?qm ?qa ?_);(case qw|qx|qy=>rfl);(case qm=>repeat constructor);(case qa=>rfl);clear HM;intro _ HM)|(go_at_call 20;refine (HUZ.out _ _ _ HM.out (fun _ h => h.2) hf3.out).mono ?_;rintro e _ ⟨rfl, hM⟩;clear HM;have HM:=Aside0.mk hM;clear hM))
    go_upto_region 16 with (first|go_skip|((with_reducible refine gate_dst (N := 14) rfl ?_);(with_reducible refine' bz HM ?qw rfl ?qa ?qc ?_);(case qw|qa|qc=>rfl);clear HM;intro g14 _ HM)|((with_reducible refine' lc HM ?qw rfl ?qx ?qm ?qa ?qv ?_);(case qw|qx|qa=>rfl);(case qm=>repeat constructor);(case qv=>rfl))|((with_reducible refine' la HM ?qw rfl ?qx ?qm ?qa ?_);(case qw|qx=>rfl);(case qm=>repeat constructor);(case qa=>rfl))|((with_reducible refine' pa HM ?qw rfl ?qx _ ?qy ?qm ?qa ?_);(case qw|qx|qy=>rfl);(case qm=>repeat constructor);(case qa=>rfl);clear HM;intro _ HM)|(go_at_call 37;refine (HCUT0.out _ _ _ HM.out (fun _ h => h.1.2) HC.out).mono ?_;rintro e _ ⟨A5, c5, rfl, hc, hM⟩;have HC5 := Aside0.mk hc; clear hc; clear HM;have HM:=Aside0.mk hM;clear hM)|(go_at_call 20;refine (HU0.out _ _ _ HM.out (fun _ h => h.2) HC5.out).mono ?_;rintro e _ ⟨rfl, hM⟩;clear HM;have HM:=Aside0.mk hM;clear hM))
    have hMb := (HM.out.drop.drop.drop).imp (S' := (fun w => (Kd.C k49 w A0 xs.length xs ∧ Sr Ap (ps.map mkS) w) ∧ Tr A rs w)) (fun w h => h.1.1)
    clear HM
    have HM := Aside0.mk hMb
    clear hMb
    go_wp2_with (first|go_skip|((with_reducible refine' lc HM ?qw rfl ?qx ?qm ?qa ?qv ?_);(case qw|qx|qa=>rfl);(case qm=>repeat constructor);(case qv=>rfl))|((with_reducible refine' la HM ?qw rfl ?qx ?qm ?qa ?_);(case qw|qx=>rfl);(case qm=>repeat constructor);(case qa=>rfl))|((with_reducible refine' pa HM ?qw rfl ?qx _ ?qy ?qm ?qa ?_);(case qw|qx|qy=>rfl);(case qm=>repeat constructor);(case qa=>rfl);clear HM;intro _ HM)|((with_reducible refine' bz HM ?qw rfl ?qa ?qc ?_);(case qw|qa|qc=>rfl);clear HM;intro _ _ HM))
    go_loopw [94] (fun v94 wr => ∃ (i : Nat), v94 = .int .i64 i ∧ Aside0 (i ≤ rs.length) ∧ Aside0 (Mem w (fun k => k < w.heap.size) wr ((g10, [Value.int .i64 u1, Value.int .i64 u2, Value.int .i64 u3, Value.int .i64 u4], 23) :: (g9, [.slice A rs.length c, .int .i64 n], 35) :: (g5, [.string x.f0, .string x.f1, .int .i64 x.f2, .int .i64 x.f3], 49) :: []) (fun w => (Kd.C k49 w A0 xs.length xs ∧ Sr Ap (ps.map mkS) w) ∧ Tr A rs w))) (fun v94 _ => rs.length - (intOf v94).toNat)
    case atStart => exact ⟨0, rfl, ⟨Nat.zero_le _⟩, HM⟩
    case round =>
      clear HM HPL HCLN
      obtain ⟨i, rfl, HIX, HM⟩ := hrel
      have hib : (i : Int) ≤ 6040 := by have := HIX.out; omega
      by_cases hlt : i < rs.length
      · have HY := Aside0.mk (List.getElem_mem hlt)
        have hlz : (i : Int) < (rs.length : Int) := by omega
        obtain ⟨ad, ea, hx0, hx1, hx2, hx3, hx4, hx5, hx6, hx7, hx8, hx9, hx10, hx11, hx12⟩ := at_T44 (HM.out.now.2) (i : Int) (by omega) (by omega)
        have hrd : rd_T44 rs (i : Int) = rs[i] := by unfold rd_T44; rw [Int.toNat_natCast, List.getD_eq_getElem?_getD, List.getElem?_eq_getElem hlt]; rfl
        rw [Int.toNat_natCast, hrd] at hx0 hx1 hx2 hx3 hx4 hx5 hx6 hx7 hx8 hx9 hx11 hx12
        rw [Int.toNat_natCast] at hx10
        generalize rs[i] = y at hx0 hx1 hx2 hx3 hx4 hx5 hx6 hx7 hx8 hx9 hx11 hx12 HY
        clear hrd
        subst ea
        by_cases hk : y.f2.f0 = 1
        case neg =>
          have k1 : (y.f2.f0 != 1) = true := bne_iff_ne.2 hk
          clear hk
          go_upto_region 19 with (first|go_skip|((with_reducible refine gate_dst (N := 17) rfl ?_);(with_reducible refine' bz HM ?qw rfl ?qa ?qc ?_);(case qw|qa|qc=>rfl);clear HM;intro g17 _ HM)|((with_reducible refine' lc HM ?qw rfl ?qx ?qm ?qa ?qv ?_);(case qw|qx|qa=>rfl);(case qm=>repeat constructor);(case qv=>rfl))|((with_reducible refine' la HM ?qw rfl ?qx ?qm ?qa ?_);(case qw|qx=>rfl);(case qm=>repeat constructor);(case qa=>rfl))|((with_reducible refine' pa HM ?qw rfl ?qx _ ?qy ?qm ?qa ?_);(case qw|qx|qy=>rfl);(case qm=>repeat constructor);(case qa=>rfl);clear HM;intro _ HM))
          clear hx0 hx1 hx2 hx3 hx4 hx5 hx6 hx7 hx8 hx9 hx10 hx11 hx12
          go_wp2_with (first|go_skip|((with_reducible refine' lc HM ?qw rfl ?qx ?qm ?qa ?qv ?_);(case qw|qx|qa=>rfl);(case qm=>repeat constructor);(case qv=>rfl))|((with_reducible refine' la HM ?qw rfl ?qx ?qm ?qa ?_);(case qw|qx=>rfl);(case qm=>repeat constructor);(case qa=>rfl))|((with_reducible refine' pa HM ?qw rfl ?qx _ ?qy ?qm ?qa ?_);(case qw|qx|qy=>rfl);(case qm=>repeat constructor);(case qa=>rfl);clear HM;intro _ HM)|((with_reducible refine' bz HM ?qw rfl ?qa ?qc ?_);(case qw|qa|qc=>rfl);clear HM;intro _ _ HM))
          go_roundw
          case rel => exact ⟨i + 1, by go_num, ⟨by omega⟩, ⟨(HM.out.drop).imp (fun _ h => h)⟩⟩
          case measure => simp [intOf]; omega
        have k1 : (y.f2.f0 != 1) = false := bne_eq_false_iff_eq.2 hk
        have HK := Aside0.mk hk
        clear hk
        go_upto_region 19 with (first|go_skip|((with_reducible refine gate_dst (N := 17) rfl ?_);(with_reducible refine' bz HM ?qw rfl ?qa ?qc ?_);(case qw|qa|qc=>rfl);clear HM;intro g17 _ HM)|((with_reducible refine' lc HM ?qw rfl ?qx ?qm ?qa ?qv ?_);(case qw|qx|qa=>rfl);(case qm=>repeat constructor);(case qv=>rfl))|((with_reducible refine' la HM ?qw rfl ?qx ?qm ?qa ?_);(case qw|qx=>rfl);(case qm=>repeat constructor);(case qa=>rfl))|((with_reducible refine' pa HM ?qw rfl ?qx _ ?qy ?qm ?qa ?_);(case qw|qx|qy=>rfl);(case qm=>repeat constructor);(case qa=>rfl);clear HM;intro _ HM))
        clear hx0 hx1 hx2 hx3 hx4 hx5 hx6 hx7 hx8 hx9 hx10 hx11 hx12
        have hrow : ∀ (q : S44), [Value.string q.f0, .int .i64 q.f1, .int .i64 q.f2.f0, .int .i64 q.f2.f1, .int .i64 q.f2.f2, .int .i64 q.f2.f3, .int .i64 q.f2.f4, .string q.f2.f5, .string q.f2.f6, .string q.f2.f7, .slice none 0 0, .int .i64 q.f2.f8.f1, .bool q.f2.f9] = rowL q := fun _ => rfl
        rw [hrow] at HM
        clear hrow
        have hyc := HI.out.clean y HY.out
        have hlx := HL.out
        have hnx := HN6.out
        obtain ⟨⟨k, m, e1⟩, hlk⟩ : ∃ q, linkP rs n ps (pp y) = q := ⟨_, rfl⟩
        have HLK : Aside0 (∀ (W : World) (B : List Bx) (S : World → Prop) {A : Option Addr} {c : Nat}, Mem w (fun k => k < w.heap.size) W B S → (∀ w, S w → Tr A rs w) → rs.length ≤ c → Calls Tryd.prog 26 #[.agg #[.slice A rs.length c, .int .i64 n], .string (mkS (joinS ps)), .string y.f0] W fun e w' => ∃ A' c', e = .returned (.tuple #[.agg #[.slice A' k.length c', .int .i64 m], .int .i64 e1]) ∧ k.length ≤ c' ∧ Mem w (fun k => k < w.heap.size) w' B (fun w => S w ∧ Tr A' k w)) := ⟨fun W B S A c hM hS hc => by have := link_M hM hS HI.out hc (by omega) (by omega) HPS.out (Gd.of (.inr hyc.1)); rw [hlk, ← hyc.2] at this; exact this⟩
        have hlu : e1 = 0 → ((ofL k).1 ≤ u1 ∧ (ofL k).2.1 ≤ u2 + (k.length - rs.length) ∧ rs.length ≤ k.length) ∧ Inv k m ∧ m ≤ n + 151 ∧ k.length ≤ rs.length + 151 := fun h0 => by
          have h1 := link_use HI.out hlx HPS.out HY.out HK.out (by rw [hlk]; exact h0)
          have h2 := linkP_ok HI.out (ps := ps) (qs := pp y) HPS.out
          rw [hlk] at h1 h2
          rw [HU.out] at h1
          exact ⟨⟨h1.1, h1.2.1, h1.2.2.1⟩, h2.1, h2.2.2.1, h2.2.2.2⟩
        have HLU := Aside0.mk hlu
        have HYC := Aside0.mk hyc
        clear hlu hyc hlk hlx hnx HK
        go_upto_region 20 with (first|go_skip|((with_reducible refine' lc HM ?qw rfl ?qx ?qm ?qa ?qv ?_);(case qw|qx|qa=>rfl);(case qm=>repeat constructor);(case qv=>rfl))|((with_reducible refine' la HM ?qw rfl ?qx ?qm ?qa ?_);(case qw|qx=>rfl);(case qm=>repeat constructor);(case qa=>rfl))|((with_reducible refine' pa HM ?qw rfl ?qx _ ?qy ?qm ?qa ?_);(case qw|qx|qy=>rfl);(case qm=>repeat constructor);(case qa=>rfl);clear HM;intro _ HM)|((with_reducible refine' bz HM ?qw rfl ?qa ?qc ?_);(case qw|qa|qc=>rfl);clear HM;intro _ _ HM))
        refine r_relA (n := 12) (fun q0 l q_ w' => ∃ (g18 : Nat) (A3 : Option Addr) (c3 : Nat), Mem w (fun k => k < w.heap.size) w' (bxL l 9 (g18, ccL l 10 [.slice A3 k.length c3, .int .i64 m] [.slice none 0 0, .int .i64 0], 35) ++ (((g17, rowL y, 44) :: (g10, [Value.int .i64 u1, Value.int .i64 u2, Value.int .i64 u3, Value.int .i64 u4], 23) :: (g9, [.slice (some ad) rs.length c, .int .i64 n], 35) :: (g5, [.string x.f0, .string x.f1, .int .i64 x.f2, .int .i64 x.f3], 49) :: []))) (fun w => (fun w => (Kd.C k49 w A0 xs.length xs ∧ Sr Ap (ps.map mkS) w) ∧ Tr (some ad) rs w) w ∧ ck l 5 (Tr A3 k w)) ∧ ck l 5 (k.length ≤ c3) ∧ Frm q0 q_ [103, 104, 105, 106, 107, 108, 102, 109, 110, 18, 19] ∧ Slots q_ l [(0, 103, Value.agg #[.slice (some ad) rs.length c, .int .i64 n]), (1, 104, Value.slice Ap ps.length cp), (2, 105, Value.string (mkS (joinS ps))), (3, 106, Value.pointer (some ⟨g17, 0, none⟩)), (4, 107, Value.string y.f0), (5, 108, Value.tuple #[Value.agg #[.slice A3 k.length c3, .int .i64 m], .int .i64 e1]), (6, 102, Value.tuple #[Value.agg #[.slice A3 k.length c3, .int .i64 m], .int .i64 e1]), (7, 109, Value.agg #[.slice A3 k.length c3, .int .i64 m]), (8, 110, Value.int .i64 e1), (9, 18, Value.pointer (some ⟨g18, 0, none⟩)), (11, 19, Value.int .i64 e1)] ∧ Side [(10, 9), (6, 5), (7, 5), (8, 5), (10, 5), (11, 5)] l) (by kernel_rfl) uc12r20Tab (by kernel_rfl) rfl rfl ?_ ?_ ?_
        · refine ⟨0, none, 0, ?_, ck_start, Frm.refl _ _, Slots.start, Side.start⟩
          have hM0 := HM.out.drew
          simp only [bxL_false rep_get0, List.nil_append]
          exact hM0.imp (fun w h => ⟨h, ck_start⟩)
        rotate_left
        · intro l q_ w' i o hl hi ho hr ⟨g18, A3, c3, hM, hf5, hF, hS, hD⟩ K hK
          clear HM
          obtain ⟨_, rfl⟩ := Array.getElem?_eq_some_iff.1 ho
          clear ho
          have x7 := hF.get (N:=7) (by decide) (rfl:_=Value.slice Ap ps.length cp)
          have x9 := hF.get (N:=9) (by decide) (rfl:_=Value.pointer (some ⟨g9, 0, none⟩))
          have x17 := hF.get (N:=17) (by decide) (rfl:_=Value.pointer (some ⟨g17, 0, none⟩))
          have hz : q_.tmps.size = _ := hF.z
          have HF := Aside0.mk hF
          clear hF
          have hi2 : i < 12 := hi
          have hc : i = 0 ∨ i = 1 ∨ i = 2 ∨ i = 3 ∨ i = 4 ∨ i = 5 ∨ i = 6 ∨ i = 7 ∨ i = 8 ∨ i = 9 ∨ i = 10 ∨ i = 11 := by omega
          rcases hc with rfl | rfl | rfl | rfl | rfl | rfl | rfl | rfl | rfl | rfl | rfl | rfl
          · refine k_all hM (wanted_none rfl) rfl x9 (Has.app _ ((by repeat constructor))) rfl ?_
            exact hK _ _ ⟨g18, A3, c3, by simpa only [bxL_ne (show (0:Nat) ≠ 9 by decide), ccL_ne (show (0:Nat) ≠ 10 by decide), ck_ne (show (0:Nat) ≠ 5 by decide)] using hM, (by simpa only [ck_ne (show (0:Nat) ≠ 5 by decide)] using hf5), HF.out.put _ (by decide), hS.set 0 rfl (by omega) (by rw [hz]; exact Nat.le_of_ble_eq_true rfl) (show ([0, 1, 2, 3, 4, 5, 6, 7, 8, 9, 11] : List Nat).Nodup by decide) (show ([103, 104, 105, 106, 107, 108, 102, 109, 110, 18, 19] : List Nat).Nodup by decide), hD.skip (by omega) (by decide)⟩
          · refine k_mv (Value.slice Ap ps.length cp) (wanted_none rfl) (by first|exact .inl rfl|exact .inr rfl) x7 ?_
            exact hK _ _ ⟨g18, A3, c3, by simpa only [bxL_ne (show (1:Nat) ≠ 9 by decide), ccL_ne (show (1:Nat) ≠ 10 by decide), ck_ne (show (1:Nat) ≠ 5 by decide)] using hM, (by simpa only [ck_ne (show (1:Nat) ≠ 5 by decide)] using hf5), HF.out.put _ (by decide), hS.set 1 rfl (by omega) (by rw [hz]; exact Nat.le_of_ble_eq_true rfl) (show ([0, 1, 2, 3, 4, 5, 6, 7, 8, 9, 11] : List Nat).Nodup by decide) (show ([103, 104, 105, 106, 107, 108, 102, 109, 110, 18, 19] : List Nat).Nodup by decide), hD.skip (by omega) (by decide)⟩
          · have x104 := hS.nth 1 rfl (ready_dep hr rfl (show 1 ∈ _ by decide))
            refine goes_ Tryd.func24 (by kernel_rfl) rfl #[Value.slice Ap ps.length cp] (wanted_none rfl) rfl rfl (by simp only [List.map_toArray, List.map_cons, List.map_nil, x104]) ?_
            refine (join_M hM (fun _ h => h.1.1.2) HCP.out HGD.out).mono ?_
            rintro e w_ ⟨rfl, hM2⟩
            refine ⟨_, rfl, ?_⟩
            exact hK _ _ ⟨g18, A3, c3, by simpa only [bxL_ne (show (2:Nat) ≠ 9 by decide), ccL_ne (show (2:Nat) ≠ 10 by decide), ck_ne (show (2:Nat) ≠ 5 by decide)] using hM2, (by simpa only [ck_ne (show (2:Nat) ≠ 5 by decide)] using hf5), HF.out.put _ (by decide), hS.set 2 rfl (by omega) (by rw [hz]; exact Nat.le_of_ble_eq_true rfl) (show ([0, 1, 2, 3, 4, 5, 6, 7, 8, 9, 11] : List Nat).Nodup by decide) (show ([103, 104, 105, 106, 107, 108, 102, 109, 110, 18, 19] : List Nat).Nodup by decide), hD.skip (by omega) (by decide)⟩
          · refine k_fa (Value.pointer (some ⟨g17, 0, none⟩)) (wanted_none rfl) rfl x17 (fun w => by go_simp) ?_
            exact hK _ _ ⟨g18, A3, c3, by simpa only [bxL_ne (show (3:Nat) ≠ 9 by decide), ccL_ne (show (3:Nat) ≠ 10 by decide), ck_ne (show (3:Nat) ≠ 5 by decide)] using hM, (by simpa only [ck_ne (show (3:Nat) ≠ 5 by decide)] using hf5), HF.out.put _ (by decide), hS.set 3 rfl (by omega) (by rw [hz]; exact Nat.le_of_ble_eq_true rfl) (show ([0, 1, 2, 3, 4, 5, 6, 7, 8, 9, 11] : List Nat).Nodup by decide) (show ([103, 104, 105, 106, 107, 108, 102, 109, 110, 18, 19] : List Nat).Nodup by decide), hD.skip (by omega) (by decide)⟩
          · have x106 := hS.nth 3 rfl (ready_dep hr rfl (show 3 ∈ _ by decide))
            refine k_cell hM (wanted_none rfl) rfl x106 (Has.app _ ((by repeat constructor))) rfl rfl ?_
            exact hK _ _ ⟨g18, A3, c3, by simpa only [bxL_ne (show (4:Nat) ≠ 9 by decide), ccL_ne (show (4:Nat) ≠ 10 by decide), ck_ne (show (4:Nat) ≠ 5 by decide)] using hM, (by simpa only [ck_ne (show (4:Nat) ≠ 5 by decide)] using hf5), HF.out.put _ (by decide), hS.set 4 rfl (by omega) (by rw [hz]; exact Nat.le_of_ble_eq_true rfl) (show ([0, 1, 2, 3, 4, 5, 6, 7, 8, 9, 11] : List Nat).Nodup by decide) (show ([103, 104, 105, 106, 107, 108, 102, 109, 110, 18, 19] : List Nat).Nodup by decide), hD.skip (by omega) (by decide)⟩
          · have x103 := hS.nth 0 rfl (ready_dep hr rfl (show 0 ∈ _ by decide))
            have x105 := hS.nth 2 rfl (ready_dep hr rfl (show 2 ∈ _ by decide))
            have x107 := hS.nth 4 rfl (ready_dep hr rfl (show 4 ∈ _ by decide))
            have f0 := get_tf (by omega) (ready_self hr)
            have n6 : l.getD 6 false = false := hD.no (j:=5) (by decide) f0
            have n7 : l.getD 7 false = false := hD.no (j:=5) (by decide) f0
            have n8 : l.getD 8 false = false := hD.no (j:=5) (by decide) f0
            have n10 : l.getD 10 false = false := hD.no (j:=5) (by decide) f0
            have n11 : l.getD 11 false = false := hD.no (j:=5) (by decide) f0
            refine goes_ Tryd.func26 (by kernel_rfl) rfl #[Value.agg #[.slice (some ad) rs.length c, .int .i64 n], Value.string (mkS (joinS ps)), Value.string y.f0] (wanted_none rfl) rfl rfl (by simp only [List.map_toArray, List.map_cons, List.map_nil, x103, x105, x107]) ?_
            refine (HLK.out _ _ _ hM (fun _ h => h.1.2) HC.out).mono ?_
            rintro e w_ ⟨A4, c4, rfl, hc2, hM2⟩
            refine ⟨_, rfl, ?_⟩
            refine hK _ _ ⟨g18, A4, c4, ?_, fun _ => hc2, HF.out.put _ (by decide), hS.turn (by omega) (by rw [hz]; exact Nat.le_of_ble_eq_true rfl) (by intro e he h; simp only [List.mem_cons, List.not_mem_nil, or_false] at he; rcases he with rfl | rfl | rfl | rfl | rfl | rfl | rfl | rfl | rfl | rfl | rfl <;> first | rfl | exact absurd h (Nat.ne_of_beq_eq_false rfl)) (by intro e he h; simp only [List.mem_cons, List.not_mem_nil, or_false] at he; rcases he with rfl | rfl | rfl | rfl | rfl | rfl | rfl | rfl | rfl | rfl | rfl <;> first | exact absurd rfl h | exact .inr n6 | exact .inr n7 | exact .inr n8 | exact .inr n10 | exact .inr n11 | exact .inl ⟨by simp, Nat.ne_of_beq_eq_false rfl⟩), hD.skip (by omega) (by decide)⟩
            simp only [bxL_ne (show (5:Nat) ≠ 9 by decide), ccL_ne (show (5:Nat) ≠ 10 by decide), ccL_false n10] at hM2 ⊢
            exact hM2.imp (fun w h => ⟨h.1.1, fun _ => h.2⟩)
          · have x108 := hS.nth 5 rfl (ready_dep hr rfl (show 5 ∈ _ by decide))
            refine k_mv (Value.tuple #[Value.agg #[.slice A3 k.length c3, .int .i64 m], .int .i64 e1]) (wanted_none rfl) (by first|exact .inl rfl|exact .inr rfl) x108 ?_
            exact hK _ _ ⟨g18, A3, c3, by simpa only [bxL_ne (show (6:Nat) ≠ 9 by decide), ccL_ne (show (6:Nat) ≠ 10 by decide), ck_ne (show (6:Nat) ≠ 5 by decide)] using hM, (by simpa only [ck_ne (show (6:Nat) ≠ 5 by decide)] using hf5), HF.out.put _ (by decide), hS.set 6 rfl (by omega) (by rw [hz]; exact Nat.le_of_ble_eq_true rfl) (show ([0, 1, 2, 3, 4, 5, 6, 7, 8, 9, 11] : List Nat).Nodup by decide) (show ([103, 104, 105, 106, 107, 108, 102, 109, 110, 18, 19] : List Nat).Nodup by decide), hD.step (by omega) (by intro p hp e; simp only [List.mem_cons, List.not_mem_nil, or_false] at hp; rcases hp with rfl | rfl | rfl | rfl | rfl | rfl <;> first | exact absurd e (by decide) | exact ready_dep hr rfl (show 5 ∈ _ by decide))⟩
          · have x102 := hS.nth 6 rfl (ready_dep hr rfl (show 6 ∈ _ by decide))
            refine k_ex (Value.agg #[.slice A3 k.length c3, .int .i64 m]) (wanted_none rfl) rfl x102 rfl ?_
            exact hK _ _ ⟨g18, A3, c3, by simpa only [bxL_ne (show (7:Nat) ≠ 9 by decide), ccL_ne (show (7:Nat) ≠ 10 by decide), ck_ne (show (7:Nat) ≠ 5 by decide)] using hM, (by simpa only [ck_ne (show (7:Nat) ≠ 5 by decide)] using hf5), HF.out.put _ (by decide), hS.set 7 rfl (by omega) (by rw [hz]; exact Nat.le_of_ble_eq_true rfl) (show ([0, 1, 2, 3, 4, 5, 6, 7, 8, 9, 11] : List Nat).Nodup by decide) (show ([103, 104, 105, 106, 107, 108, 102, 109, 110, 18, 19] : List Nat).Nodup by decide), hD.step (by omega) (by intro p hp e; simp only [List.mem_cons, List.not_mem_nil, or_false] at hp; rcases hp with rfl | rfl | rfl | rfl | rfl | rfl <;> first | exact absurd e (by decide) | exact hD (6, 5) (by decide) (ready_dep hr rfl (show 6 ∈ _ by decide)))⟩
          · have x102 := hS.nth 6 rfl (ready_dep hr rfl (show 6 ∈ _ by decide))
            refine k_ex (Value.int .i64 e1) (wanted_none rfl) rfl x102 rfl ?_
            exact hK _ _ ⟨g18, A3, c3, by simpa only [bxL_ne (show (8:Nat) ≠ 9 by decide), ccL_ne (show (8:Nat) ≠ 10 by decide), ck_ne (show (8:Nat) ≠ 5 by decide)] using hM, (by simpa only [ck_ne (show (8:Nat) ≠ 5 by decide)] using hf5), HF.out.put _ (by decide), hS.set 8 rfl (by omega) (by rw [hz]; exact Nat.le_of_ble_eq_true rfl) (show ([0, 1, 2, 3, 4, 5, 6, 7, 8, 9, 11] : List Nat).Nodup by decide) (show ([103, 104, 105, 106, 107, 108, 102, 109, 110, 18, 19] : List Nat).Nodup by decide), hD.step (by omega) (by intro p hp e; simp only [List.mem_cons, List.not_mem_nil, or_false] at hp; rcases hp with rfl | rfl | rfl | rfl | rfl | rfl <;> first | exact absurd e (by decide) | exact hD (6, 5) (by decide) (ready_dep hr rfl (show 6 ∈ _ by decide)))⟩
          · have f0 := get_tf (by omega) (ready_self hr)
            have f1 : l.getD 10 false = false := hD.no (j:=9) (by decide) f0
            refine k_zero hM (wanted_none rfl) rfl rfl rfl ?_
            intro gN w_ hM2
            refine hK _ _ ⟨gN, A3, c3, ?_, (by simpa only [ck_ne (show (9:Nat) ≠ 5 by decide)] using hf5), HF.out.put _ (by decide), hS.step (by omega) (by rw [hz]; exact Nat.le_of_ble_eq_true rfl) (by intro e he h; simp only [List.mem_cons, List.not_mem_nil, or_false] at he; rcases he with rfl | rfl | rfl | rfl | rfl | rfl | rfl | rfl | rfl | rfl | rfl <;> first | rfl | exact absurd h (Nat.ne_of_beq_eq_false rfl)) (by intro e he h; simp only [List.mem_cons, List.not_mem_nil, or_false] at he ⊢; rcases he with rfl | rfl | rfl | rfl | rfl | rfl | rfl | rfl | rfl | rfl | rfl <;> first | exact absurd rfl h | exact ⟨by simp, Nat.ne_of_beq_eq_false rfl⟩), hD.skip (by omega) (by decide)⟩
            simp only [bxL_false f0, List.nil_append] at hM2
            simp only [ck_ne (show (9:Nat) ≠ 5 by decide), ccL_ne (show (9:Nat) ≠ 10 by decide), bxL_true (set_get_eq (show 9 < l.length by omega)), ccL_false f1, List.singleton_append]
            exact hM2
          · have x18 := hS.nth 9 rfl (ready_dep hr rfl (show 9 ∈ _ by decide))
            have x109 := hS.nth 7 rfl (ready_dep hr rfl (show 7 ∈ _ by decide))
            have f0 := get_tf (by omega) (ready_self hr)
            have q9 := ready_dep hr rfl (show 9 ∈ _ by decide)
            simp only [bxL_true q9, ccL_false f0, List.singleton_append] at hM
            refine k_put hM (wanted_none rfl) rfl rfl x18 _ x109 (by repeat constructor) rfl ?_
            intro w_ hM2
            refine hK _ _ ⟨g18, A3, c3, ?_, (by simpa only [ck_ne (show (10:Nat) ≠ 5 by decide)] using hf5), HF.out, hS.keep (by intro e he; simp only [List.mem_cons, List.not_mem_nil, or_false] at he; rcases he with rfl | rfl | rfl | rfl | rfl | rfl | rfl | rfl | rfl | rfl | rfl <;> exact Nat.ne_of_beq_eq_false rfl), hD.step (by omega) (by intro p hp e; simp only [List.mem_cons, List.not_mem_nil, or_false] at hp; rcases hp with rfl | rfl | rfl | rfl | rfl | rfl <;> first | exact absurd e (by decide) | exact ready_dep hr rfl (show 9 ∈ _ by decide) | exact ready_dep hr rfl (show 5 ∈ _ by decide))⟩
            simp only [ck_ne (show (10:Nat) ≠ 5 by decide), bxL_ne (show (10:Nat) ≠ 9 by decide), ccL_true (set_get_eq (show 10 < l.length by omega)), bxL_true q9, List.singleton_append]
            exact hM2
          · have x110 := hS.nth 8 rfl (ready_dep hr rfl (show 8 ∈ _ by decide))
            refine k_mv (Value.int .i64 e1) (wanted_none rfl) (by first|exact .inl rfl|exact .inr rfl) x110 ?_
            exact hK _ _ ⟨g18, A3, c3, by simpa only [bxL_ne (show (11:Nat) ≠ 9 by decide), ccL_ne (show (11:Nat) ≠ 10 by decide), ck_ne (show (11:Nat) ≠ 5 by decide)] using hM, (by simpa only [ck_ne (show (11:Nat) ≠ 5 by decide)] using hf5), HF.out.put _ (by decide), hS.set 10 rfl (by omega) (by rw [hz]; exact Nat.le_of_ble_eq_true rfl) (show ([0, 1, 2, 3, 4, 5, 6, 7, 8, 9, 11] : List Nat).Nodup by decide) (show ([103, 104, 105, 106, 107, 108, 102, 109, 110, 18, 19] : List Nat).Nodup by decide), hD.step (by omega) (by intro p hp e; simp only [List.mem_cons, List.not_mem_nil, or_false] at hp; rcases hp with rfl | rfl | rfl | rfl | rfl | rfl <;> first | exact absurd e (by decide) | exact ready_dep hr rfl (show 5 ∈ _ by decide))⟩
        intro q_ w' ⟨g18, A3, c3, hM, hf5, hF, hS, _⟩
        have hA := hS.all hF (by intro e he; simp only [List.mem_cons, List.not_mem_nil, or_false] at he; rcases he with rfl | rfl | rfl | rfl | rfl | rfl | rfl | rfl | rfl | rfl | rfl <;> exact Nat.le_of_ble_eq_true rfl) (by intro e he; simp only [List.mem_cons, List.not_mem_nil, or_false] at he; rcases he with rfl | rfl | rfl | rfl | rfl | rfl | rfl | rfl | rfl | rfl | rfl <;> exact Nat.le_of_ble_eq_true rfl) (show ([103, 104, 105, 106, 107, 108, 102, 109, 110, 18, 19] : List Nat).Nodup by decide)
        subst hA
        simp only [bxL_true (rep_get (show 9 < 12 by decide)), ccL_true (rep_get (show 10 < 12 by decide)), List.singleton_append] at hM
        have hf5 := Aside0.mk (hf5 (rep_get (show 5 < 12 by decide)))
        replace hM := hM.imp (fun w h => (⟨h.1, h.2 (rep_get (show 5 < 12 by decide))⟩ : (fun w => (Kd.C k49 w A0 xs.length xs ∧ Sr Ap (ps.map mkS) w) ∧ Tr (some ad) rs w) w ∧ (Tr A3 k w)))
        clear HM
        have HM := Aside0.mk hM
        clear hM hF hS
        simp only [fillAll, List.map_cons, List.map_nil, Act.put, List.setIfInBounds_toArray, List.set_cons_zero, List.set_cons_succ]
        by_cases he1 : e1 = 0
        case neg =>
          have k2 : (e1 == 0) = false := beq_eq_false_iff_ne.2 he1
          clear he1
          go_wp2_with (first|go_skip|((with_reducible refine' lc HM ?qw rfl ?qx ?qm ?qa ?qv ?_);(case qw|qx|qa=>rfl);(case qm=>repeat constructor);(case qv=>rfl))|((with_reducible refine' la HM ?qw rfl ?qx ?qm ?qa ?_);(case qw|qx=>rfl);(case qm=>repeat constructor);(case qa=>rfl))|((with_reducible refine' pa HM ?qw rfl ?qx _ ?qy ?qm ?qa ?_);(case qw|qx|qy=>rfl);(case qm=>repeat constructor);(case qa=>rfl);clear HM;intro _ HM)|((with_reducible refine' bz HM ?qw rfl ?qa ?qc ?_);(case qw|qa|qc=>rfl);clear HM;intro _ _ HM))
          go_roundw
          case rel => exact ⟨i + 1, by go_num, ⟨by omega⟩, ⟨(HM.out.drop.drop).imp (fun _ h => h.1)⟩⟩
          case measure => simp [intOf]; omega
        subst he1
        obtain ⟨⟨h1, h2, h3⟩, h4, h5, h6⟩ := HLU.out rfl
        have hlx := HL.out
        have hnx := HN6.out
        have hub := HUB.out
        have hlx6 : rs.length ≤ 6040 := by omega
        have hkb := use_bnd h4 (by omega) (by omega)
        obtain ⟨⟨w1, w2, w3, w4⟩, hw⟩ : ∃ q, ofL k = q := ⟨_, rfl⟩
        rw [hw] at h1 h2 hkb
        simp only at h1 h2 hkb
        have HUW : Aside0 (∀ (W : World) (B : List Bx) (S : World → Prop) {A : Option Addr} {c : Nat} {n : Int}, Mem w (fun k => k < w.heap.size) W B S → (∀ w, S w → Tr A k w) → k.length ≤ c → Calls Tryd.prog 20 #[.agg #[.slice A k.length c, .int .i64 n]] W fun e w' => e = .returned (.agg #[Value.int .i64 w1, Value.int .i64 w2, Value.int .i64 w3, Value.int .i64 w4]) ∧ Mem w (fun k => k < w.heap.size) w' B S) := ⟨fun W B S A c n' hM hS hc => by have := of_M (n := n') hM hS h4 hc (by omega) (by omega); rw [hw] at this; exact this⟩
        have hkz : (k.length : Int) ≤ 9060 := by omega
        have q1 : decide (w1 ≤ u1) = true := decide_eq_true h1
        have q2 : decide (w2 ≤ wrap64 (u2 + wrap64 ((k.length : Int) - (rs.length : Int)))) = true := decide_eq_true (by rw [w64 (x := (k.length : Int) - (rs.length : Int)) (by omega) (by omega), w64 (by omega) (by omega)]; omega)
        have q2' : decide (w2 ≤ wrap64 (u2 + ((k.length : Int) - (rs.length : Int)))) = true := decide_eq_true (by rw [w64 (by omega) (by omega)]; omega)
        have q2a : decide (w2 ≤ u2 + ((k.length : Int) - (rs.length : Int))) = true := decide_eq_true (by omega)
        have q3 : decide (0 ≤ (k.length : Int) - (rs.length : Int)) = true := decide_eq_true (by omega)
        have q3' : decide (0 ≤ wrap64 ((k.length : Int) - (rs.length : Int))) = true := decide_eq_true (by rw [w64 (by omega) (by omega)]; omega)
        have hle : (rs.length : Int) ≤ (k.length : Int) := by omega
        clear h1 h2 h3 h4 h5 h6 hlx hnx hub hlx6 hkb hw
        go_wp2_with (first|go_skip|((with_reducible refine gate_dst (N := 20) rfl ?_);(with_reducible refine' bz HM ?qw rfl ?qa ?qc ?_);(case qw|qa|qc=>rfl);clear HM;intro g20 _ HM)|((with_reducible refine' lc HM ?qw rfl ?qx ?qm ?qa ?qv ?_);(case qw|qx|qa=>rfl);(case qm=>repeat constructor);(case qv=>rfl))|((with_reducible refine' la HM ?qw rfl ?qx ?qm ?qa ?_);(case qw|qx=>rfl);(case qm=>repeat constructor);(case qa=>rfl))|((with_reducible refine' pa HM ?qw rfl ?qx _ ?qy ?qm ?qa ?_);(case qw|qx|qy=>rfl);(case qm=>repeat constructor);(case qa=>rfl);clear HM;intro _ HM)|(go_at_call 20;refine (HUW.out _ _ _ HM.out (fun _ h => h.2) hf5.out).mono ?_;rintro e _ ⟨rfl, hM⟩;clear HM;have HM:=Aside0.mk hM;clear hM))
        go_ret
        exact ⟨rfl, HM.out.below⟩
      · have hil : i = rs.length := by have := HIX.out; omega
        have hlz : ¬ ((i : Int) < (rs.length : Int)) := by omega
        clear hil HIX
        go_wp2_with (first|go_skip|((with_reducible refine' lc HM ?qw rfl ?qx ?qm ?qa ?qv ?_);(case qw|qx|qa=>rfl);(case qm=>repeat constructor);(case qv=>rfl))|((with_reducible refine' la HM ?qw rfl ?qx ?qm ?qa ?_);(case qw|qx=>rfl);(case qm=>repeat constructor);(case qa=>rfl))|((with_reducible refine' pa HM ?qw rfl ?qx _ ?qy ?qm ?qa ?_);(case qw|qx|qy=>rfl);(case qm=>repeat constructor);(case qa=>rfl);clear HM;intro _ HM)|((with_reducible refine' bz HM ?qw rfl ?qa ?qc ?_);(case qw|qa|qc=>rfl);clear HM;intro _ _ HM))
        go_ret
        exact ⟨rfl, HM.out.below⟩
  · have k0 : (ec == 0) = false := beq_eq_false_iff_ne.2 hec
    clear hec
    go_upto_region 16 with (first|go_skip|((with_reducible refine gate_dst (N := 14) rfl ?_);(with_reducible refine' bz HM ?qw rfl ?qa ?qc ?_);(case qw|qa|qc=>rfl);clear HM;intro g14 _ HM)|((with_reducible refine' lc HM ?qw rfl ?qx ?qm ?qa ?qv ?_);(case qw|qx|qa=>rfl);(case qm=>repeat constructor);(case qv=>rfl))|((with_reducible refine' la HM ?qw rfl ?qx ?qm ?qa ?_);(case qw|qx=>rfl);(case qm=>repeat constructor);(case qa=>rfl))|((with_reducible refine' pa HM ?qw rfl ?qx _ ?qy ?qm ?qa ?_);(case qw|qx|qy=>rfl);(case qm=>repeat constructor);(case qa=>rfl);clear HM;intro _ HM)|(go_at_call 37;refine (HCUT0.out _ _ _ HM.out (fun _ h => h.1.2) HC.out).mono ?_;rintro e _ ⟨A5, c5, rfl, hc, hM⟩;have HC5 := Aside0.mk hc; clear hc; clear HM;have HM:=Aside0.mk hM;clear hM)|(go_at_call 20;refine (HU0.out _ _ _ HM.out (fun _ h => h.2) HC5.out).mono ?_;rintro e _ ⟨rfl, hM⟩;clear HM;have HM:=Aside0.mk hM;clear hM))
    have hMb := (HM.out.drop.drop).imp (S' := (fun w => (Kd.C k49 w A0 xs.length xs ∧ Sr Ap (ps.map mkS) w) ∧ Tr A rs w)) (fun w h => h.1.1)
    clear HM
    have HM := Aside0.mk hMb
    clear hMb
    go_wp2_with (first|go_skip|((with_reducible refine' lc HM ?qw rfl ?qx ?qm ?qa ?qv ?_);(case qw|qx|qa=>rfl);(case qm=>repeat constructor);(case qv=>rfl))|((with_reducible refine' la HM ?qw rfl ?qx ?qm ?qa ?_);(case qw|qx=>rfl);(case qm=>repeat constructor);(case qa=>rfl))|((with_reducible refine' pa HM ?qw rfl ?qx _ ?qy ?qm ?qa ?_);(case qw|qx|qy=>rfl);(case qm=>repeat constructor);(case qa=>rfl);clear HM;intro _ HM)|((with_reducible refine' bz HM ?qw rfl ?qa ?qc ?_);(case qw|qa|qc=>rfl);clear HM;intro _ _ HM))
    go_loopw [94] (fun v94 wr => ∃ (i : Nat), v94 = .int .i64 i ∧ Aside0 (i ≤ rs.length) ∧ Aside0 (Mem w (fun k => k < w.heap.size) wr ((g10, [Value.int .i64 u1, Value.int .i64 u2, Value.int .i64 u3, Value.int .i64 u4], 23) :: (g9, [.slice A rs.length c, .int .i64 n], 35) :: (g5, [.string x.f0, .string x.f1, .int .i64 x.f2, .int .i64 x.f3], 49) :: []) (fun w => (Kd.C k49 w A0 xs.length xs ∧ Sr Ap (ps.map mkS) w) ∧ Tr A rs w))) (fun v94 _ => rs.length - (intOf v94).toNat)
    case atStart => exact ⟨0, rfl, ⟨Nat.zero_le _⟩, HM⟩
    case round =>
      clear HM HPL HCLN
      obtain ⟨i, rfl, HIX, HM⟩ := hrel
      have hib : (i : Int) ≤ 6040 := by have := HIX.out; omega
      by_cases hlt : i < rs.length
      · have HY := Aside0.mk (List.getElem_mem hlt)
        have hlz : (i : Int) < (rs.length : Int) := by omega
        obtain ⟨ad, ea, hx0, hx1, hx2, hx3, hx4, hx5, hx6, hx7, hx8, hx9, hx10, hx11, hx12⟩ := at_T44 (HM.out.now.2) (i : Int) (by omega) (by omega)
        have hrd : rd_T44 rs (i : Int) = rs[i] := by unfold rd_T44; rw [Int.toNat_natCast, List.getD_eq_getElem?_getD, List.getElem?_eq_getElem hlt]; rfl
        rw [Int.toNat_natCast, hrd] at hx0 hx1 hx2 hx3 hx4 hx5 hx6 hx7 hx8 hx9 hx11 hx12
        rw [Int.toNat_natCast] at hx10
        generalize rs[i] = y at hx0 hx1 hx2 hx3 hx4 hx5 hx6 hx7 hx8 hx9 hx11 hx12 HY
        clear hrd
        subst ea
        by_cases hk : y.f2.f0 = 1
        case neg =>
          have k1 : (y.f2.f0 != 1) = true := bne_iff_ne.2 hk
          clear hk
          go_upto_region 19 with (first|go_skip|((with_reducible refine gate_dst (N := 17) rfl ?_);(with_reducible refine' bz HM ?qw rfl ?qa ?qc ?_);(case qw|qa|qc=>rfl);clear HM;intro g17 _ HM)|((with_reducible refine' lc HM ?qw rfl ?qx ?qm ?qa ?qv ?_);(case qw|qx|qa=>rfl);(case qm=>repeat constructor);(case qv=>rfl))|((with_reducible refine' la HM ?qw rfl ?qx ?qm ?qa ?_);(case qw|qx=>rfl);(case qm=>repeat constructor);(case qa=>rfl))|((with_reducible refine' pa HM ?qw rfl ?qx _ ?qy ?qm ?qa ?_);(case qw|qx|qy=>rfl);(case qm=>repeat constructor);(case qa=>rfl);clear HM;intro _ HM))
          clear hx0 hx1 hx2 hx3 hx4 hx5 hx6 hx7 hx8 hx9 hx10 hx11 hx12
          go_wp2_with (first|go_skip|((with_reducible refine' lc HM ?qw rfl ?qx ?qm ?qa ?qv ?_);(case qw|qx|qa=>rfl);(case qm=>repeat constructor);(case qv=>rfl))|((with_reducible refine' la HM ?qw rfl ?qx ?qm ?qa ?_);(case qw|qx=>rfl);(case qm=>repeat constructor);(case qa=>rfl))|((with_reducible refine' pa HM ?qw rfl ?qx _ ?qy ?qm ?qa ?_);(case qw|qx|qy=>rfl);(case qm=>repeat constructor);(case qa=>rfl);clear HM;intro _ HM)|((with_reducible refine' bz HM ?qw rfl ?qa ?qc ?_);(case qw|qa|qc=>rfl);clear HM;intro _ _ HM))
          go_roundw
          case rel => exact ⟨i + 1, by go_num, ⟨by omega⟩, ⟨(HM.out.drop).imp (fun _ h => h)⟩⟩
          case measure => simp [intOf]; omega
        have k1 : (y.f2.f0 != 1) = false := bne_eq_false_iff_eq.2 hk
        have HK := Aside0.mk hk
        clear hk
        go_upto_region 19 with (first|go_skip|((with_reducible refine gate_dst (N := 17) rfl ?_);(with_reducible refine' bz HM ?qw rfl ?qa ?qc ?_);(case qw|qa|qc=>rfl);clear HM;intro g17 _ HM)|((with_reducible refine' lc HM ?qw rfl ?qx ?qm ?qa ?qv ?_);(case qw|qx|qa=>rfl);(case qm=>repeat constructor);(case qv=>rfl))|((with_reducible refine' la HM ?qw rfl ?qx ?qm ?qa ?_);(case qw|qx=>rfl);(case qm=>repeat constructor);(case qa=>rfl))|((with_reducible refine' pa HM ?qw rfl ?qx _ ?qy ?qm ?qa ?_);(case qw|qx|qy=>rfl);(case qm=>repeat constructor);(case qa=>rfl);clear HM;intro _ HM))
        clear hx0 hx1 hx2 hx3 hx4 hx5 hx6 hx7 hx8 hx9 hx10 hx11 hx12
        have hrow : ∀ (q : S44), [Value.string q.f0, .int .i64 q.f1, .int .i64 q.f2.f0, .int .i64 q.f2.f1, .int .i64 q.f2.f2, .int .i64 q.f2.f3, .int .i64 q.f2.f4, .string q.f2.f5, .string q.f2.f6, .string q.f2.f7, .slice none 0 0, .int .i64 q.f2.f8.f1, .bool q.f2.f9] = rowL q := fun _ => rfl
        rw [hrow] at HM
        clear hrow
        have hyc := HI.out.clean y HY.out
        have hlx := HL.out
        have hnx := HN6.out
        obtain ⟨⟨k, m, e1⟩, hlk⟩ : ∃ q, linkP rs n ps (pp y) = q := ⟨_, rfl⟩
        have HLK : Aside0 (∀ (W : World) (B : List Bx) (S : World → Prop) {A : Option Addr} {c : Nat}, Mem w (fun k => k < w.heap.size) W B S → (∀ w, S w → Tr A rs w) → rs.length ≤ c → Calls Tryd.prog 26 #[.agg #[.slice A rs.length c, .int .i64 n], .string (mkS (joinS ps)), .string y.f0] W fun e w' => ∃ A' c', e = .returned (.tuple #[.agg #[.slice A' k.length c', .int .i64 m], .int .i64 e1]) ∧ k.length ≤ c' ∧ Mem w (fun k => k < w.heap.size) w' B (fun w => S w ∧ Tr A' k w)) := ⟨fun W B S A c hM hS hc => by have := link_M hM hS HI.out hc (by omega) (by omega) HPS.out (Gd.of (.inr hyc.1)); rw [hlk, ← hyc.2] at this; exact this⟩
        have hlu : e1 = 0 → ((ofL k).1 ≤ u1 ∧ (ofL k).2.1 ≤ u2 + (k.length - rs.length) ∧ rs.length ≤ k.length) ∧ Inv k m ∧ m ≤ n + 151 ∧ k.length ≤ rs.length + 151 := fun h0 => by
          have h1 := link_use HI.out hlx HPS.out HY.out HK.out (by rw [hlk]; exact h0)
          have h2 := linkP_ok HI.out (ps := ps) (qs := pp y) HPS.out
          rw [hlk] at h1 h2
          rw [HU.out] at h1
          exact ⟨⟨h1.1, h1.2.1, h1.2.2.1⟩, h2.1, h2.2.2.1, h2.2.2.2⟩
        have HLU := Aside0.mk hlu
        have HYC := Aside0.mk hyc
        clear hlu hyc hlk hlx hnx HK
        go_upto_region 20 with (first|go_skip|((with_reducible refine' lc HM ?qw rfl ?qx ?qm ?qa ?qv ?_);(case qw|qx|qa=>rfl);(case qm=>repeat constructor);(case qv=>rfl))|((with_reducible refine' la HM ?qw rfl ?qx ?qm ?qa ?_);(case qw|qx=>rfl);(case qm=>repeat constructor);(case qa=>rfl))|((with_reducible refine' pa HM ?qw rfl ?qx _ ?qy ?qm ?qa ?_);(case qw|qx|qy=>rfl);(case qm=>repeat constructor);(case qa=>rfl);clear HM;intro _ HM)|((with_reducible refine' bz HM ?qw rfl ?qa ?qc ?_);(case qw|qa|qc=>rfl);clear HM;intro _ _ HM))
        refine r_relA (n := 12) (fun q0 l q_ w' => ∃ (g18 : Nat) (A3 : Option Addr) (c3 : Nat), Mem w (fun k => k < w.heap.size) w' (bxL l 9 (g18, ccL l 10 [.slice A3 k.length c3, .int .i64 m] [.slice none 0 0, .int .i64 0], 35) ++ (((g17, rowL y, 44) :: (g10, [Value.int .i64 u1, Value.int .i64 u2, Value.int .i64 u3, Value.int .i64 u4], 23) :: (g9, [.slice (some ad) rs.length c, .int .i64 n], 35) :: (g5, [.string x.f0, .string x.f1, .int .i64 x.f2, .int .i64 x.f3], 49) :: []))) (fun w => (fun w => (Kd.C k49 w A0 xs.length xs ∧ Sr Ap (ps.map mkS) w) ∧ Tr (some ad) rs w) w ∧ ck l 5 (Tr A3 k w)) ∧ ck l 5 (k.length ≤ c3) ∧ Frm q0 q_ [103, 104, 105, 106, 107, 108, 102, 109, 110, 18, 19] ∧ Slots q_ l [(0, 103, Value.agg #[.slice (some ad) rs.length c, .int .i64 n]), (1, 104, Value.slice Ap ps.length cp), (2, 105, Value.string (mkS (joinS ps))), (3, 106, Value.pointer (some ⟨g17, 0, none⟩)), (4, 107, Value.string y.f0), (5, 108, Value.tuple #[Value.agg #[.slice A3 k.length c3, .int .i64 m], .int .i64 e1]), (6, 102, Value.tuple #[Value.agg #[.slice A3 k.length c3, .int .i64 m], .int .i64 e1]), (7, 109, Value.agg #[.slice A3 k.length c3, .int .i64 m]), (8, 110, Value.int .i64 e1), (9, 18, Value.pointer (some ⟨g18, 0, none⟩)), (11, 19, Value.int .i64 e1)] ∧ Side [(10, 9), (6, 5), (7, 5), (8, 5), (10, 5), (11, 5)] l) (by kernel_rfl) uc12r20Tab (by kernel_rfl) rfl rfl ?_ ?_ ?_
        · refine ⟨0, none, 0, ?_, ck_start, Frm.refl _ _, Slots.start, Side.start⟩
          have hM0 := HM.out.drew
          simp only [bxL_false rep_get0, List.nil_append]
          exact hM0.imp (fun w h => ⟨h, ck_start⟩)
        rotate_left
        · intro l q_ w' i o hl hi ho hr ⟨g18, A3, c3, hM, hf5, hF, hS, hD⟩ K hK
          clear HM
          obtain ⟨_, rfl⟩ := Array.getElem?_eq_some_iff.1 ho
          clear ho
          have x7 := hF.get (N:=7) (by decide) (rfl:_=Value.slice Ap ps.length cp)
          have x9 := hF.get (N:=9) (by decide) (rfl:_=Value.pointer (some ⟨g9, 0, none⟩))
          have x17 := hF.get (N:=17) (by decide) (rfl:_=Value.pointer (some ⟨g17, 0, none⟩))
          have hz : q_.tmps.size = _ := hF.z
          have HF := Aside0.mk hF
          clear hF
          have hi2 : i < 12 := hi
          have hc : i = 0 ∨ i = 1 ∨ i = 2 ∨ i = 3 ∨ i = 4 ∨ i = 5 ∨ i = 6 ∨ i = 7 ∨ i = 8 ∨ i = 9 ∨ i = 10 ∨ i = 11 := by omega
          rcases hc with rfl | rfl | rfl | rfl | rfl | rfl | rfl | rfl | rfl | rfl | rfl | rfl
          · refine k_all hM (wanted_none rfl) rfl x9 (Has.app _ ((by repeat constructor))) rfl ?_
            exact hK _ _ ⟨g18, A3, c3, by simpa only [bxL_ne (show (0:Nat) ≠ 9 by decide), ccL_ne (show (0:Nat) ≠ 10 by decide), ck_ne (show (0:Nat) ≠ 5 by decide)] using hM, (by simpa only [ck_ne (show (0:Nat) ≠ 5 by decide)] using hf5), HF.out.put _ (by decide), hS.set 0 rfl (by omega) (by rw [hz]; exact Nat.le_of_ble_eq_true rfl) (show ([0, 1, 2, 3, 4, 5, 6, 7, 8, 9, 11] : List Nat).Nodup by decide) (show ([103, 104, 105, 106, 107, 108, 102, 109, 110, 18, 19] : List Nat).Nodup by decide), hD.skip (by omega) (by decide)⟩
          · refine k_mv (Value.slice Ap ps.length cp) (wanted_none rfl) (by first|exact .inl rfl|exact .inr rfl) x7 ?_
            exact hK _ _ ⟨g18, A3, c3, by simpa only [bxL_ne (show (1:Nat) ≠ 9 by decide), ccL_ne (show (1:Nat) ≠ 10 by decide), ck_ne (show (1:Nat) ≠ 5 by decide)] using hM, (by simpa only [ck_ne (show (1:Nat) ≠ 5 by decide)] using hf5), HF.out.put _ (by decide), hS.set 1 rfl (by omega) (by rw [hz]; exact Nat.le_of_ble_eq_true rfl) (show ([0, 1, 2, 3, 4, 5, 6, 7, 8, 9, 11] : List Nat).Nodup by decide) (show ([103, 104, 105, 106, 107, 108, 102, 109, 110, 18, 19] : List Nat).Nodup by decide), hD.skip (by omega) (by decide)⟩
          · have x104 := hS.nth 1 rfl (ready_dep hr rfl (show 1 ∈ _ by decide))
            refine goes_ Tryd.func24 (by kernel_rfl) rfl #[Value.slice Ap ps.length cp] (wanted_none rfl) rfl rfl (by simp only [List.map_toArray, List.map_cons, List.map_nil, x104]) ?_
            refine (join_M hM (fun _ h => h.1.1.2) HCP.out HGD.out).mono ?_
            rintro e w_ ⟨rfl, hM2⟩
            refine ⟨_, rfl, ?_⟩
            exact hK _ _ ⟨g18, A3, c3, by simpa only [bxL_ne (show (2:Nat) ≠ 9 by decide), ccL_ne (show (2:Nat) ≠ 10 by decide), ck_ne (show (2:Nat) ≠ 5 by decide)] using hM2, (by simpa only [ck_ne (show (2:Nat) ≠ 5 by decide)] using hf5), HF.out.put _ (by decide), hS.set 2 rfl (by omega) (by rw [hz]; exact Nat.le_of_ble_eq_true rfl) (show ([0, 1, 2, 3, 4, 5, 6, 7, 8, 9, 11] : List Nat).Nodup by decide) (show ([103, 104, 105, 106, 107, 108, 102, 109, 110, 18, 19] : List Nat).Nodup by decide), hD.skip (by omega) (by decide)⟩
          · refine k_fa (Value.pointer (some ⟨g17, 0, none⟩)) (wanted_none rfl) rfl x17 (fun w => by go_simp) ?_
            exact hK _ _ ⟨g18, A3, c3, by simpa only [bxL_ne (show (3:Nat) ≠ 9 by decide), ccL_ne (show (3:Nat) ≠ 10 by decide), ck_ne (show (3:Nat) ≠ 5 by decide)] using hM, (by simpa only [ck_ne (show (3:Nat) ≠ 5 by decide)] using hf5), HF.out.put _ (by decide), hS.set 3 rfl (by omega) (by rw [hz]; exact Nat.le_of_ble_eq_true rfl) (show ([0, 1, 2, 3, 4, 5, 6, 7, 8, 9, 11] : List Nat).Nodup by decide) (show ([103, 104, 105, 106, 107, 108, 102, 109, 110, 18, 19] : List Nat).Nodup by decide), hD.skip (by omega) (by decide)⟩
          · have x106 := hS.nth 3 rfl (ready_dep hr rfl (show 3 ∈ _ by decide))
            refine k_cell hM (wanted_none rfl) rfl x106 (Has.app _ ((by repeat constructor))) rfl rfl ?_
            exact hK _ _ ⟨g18, A3, c3, by simpa only [bxL_ne (show (4:Nat) ≠ 9 by decide), ccL_ne (show (4:Nat) ≠ 10 by decide), ck_ne (show (4:Nat) ≠ 5 by decide)] using hM, (by simpa only [ck_ne (show (4:Nat) ≠ 5 by decide)] using hf5), HF.out.put _ (by decide), hS.set 4 rfl (by omega) (by rw [hz]; exact Nat.le_of_ble_eq_true rfl) (show ([0, 1, 2, 3, 4, 5, 6, 7, 8, 9, 11] : List Nat).Nodup by decide) (show ([103, 104, 105, 106, 107, 108, 102, 109, 110, 18, 19] : List Nat).Nodup by decide), hD.skip (by omega) (by decide)⟩
          · have x103 := hS.nth 0 rfl (ready_dep hr rfl (show 0 ∈ _ by decide))
            have x105 := hS.nth 2 rfl (ready_dep hr rfl (show 2 ∈ _ by decide))
            have x107 := hS.nth 4 rfl (ready_dep hr rfl (show 4 ∈ _ by decide))
            have f0 := get_tf (by omega) (ready_self hr)
            have n6 : l.getD 6 false = false := hD.no (j:=5) (by decide) f0
            have n7 : l.getD 7 false = false := hD.no (j:=5) (by decide) f0
            have n8 : l.getD 8 false = false := hD.no (j:=5) (by decide) f0
            have n10 : l.getD 10 false = false := hD.no (j:=5) (by decide) f0
            have n11 : l.getD 11 false = false := hD.no (j:=5) (by decide) f0
            refine goes_ Tryd.func26 (by kernel_rfl) rfl #[Value.agg #[.slice (some ad) rs.length c, .int .i64 n], Value.string (mkS (joinS ps)), Value.string y.f0] (wanted_none rfl) rfl rfl (by simp only [List.map_toArray, List.map_cons, List.map_nil, x103, x105, x107]) ?_
            refine (HLK.out _ _ _ hM (fun _ h => h.1.2) HC.out).mono ?_
            rintro e w_ ⟨A4, c4, rfl, hc2, hM2⟩
            refine ⟨_, rfl, ?_⟩
            refine hK _ _ ⟨g18, A4, c4, ?_, fun _ => hc2, HF.out.put _ (by decide), hS.turn (by omega) (by rw [hz]; exact Nat.le_of_ble_eq_true rfl) (by intro e he h; simp only [List.mem_cons, List.not_mem_nil, or_false] at he; rcases he with rfl | rfl | rfl | rfl | rfl | rfl | rfl | rfl | rfl | rfl | rfl <;> first | rfl | exact absurd h (Nat.ne_of_beq_eq_false rfl)) (by intro e he h; simp only [List.mem_cons, List.not_mem_nil, or_false] at he; rcases he with rfl | rfl | rfl | rfl | rfl | rfl | rfl | rfl | rfl | rfl | rfl <;> first | exact absurd rfl h | exact .inr n6 | exact .inr n7 | exact .inr n8 | exact .inr n10 | exact .inr n11 | exact .inl ⟨by simp, Nat.ne_of_beq_eq_false rfl⟩), hD.skip (by omega) (by decide)⟩
            simp only [bxL_ne (show (5:Nat) ≠ 9 by decide), ccL_ne (show (5:Nat) ≠ 10 by decide), ccL_false n10] at hM2 ⊢
            exact hM2.imp (fun w h => ⟨h.1.1, fun _ => h.2⟩)
          · have x108 := hS.nth 5 rfl (ready_dep hr rfl (show 5 ∈ _ by decide))
            refine k_mv (Value.tuple #[Value.agg #[.slice A3 k.length c3, .int .i64 m], .int .i64 e1]) (wanted_none rfl) (by first|exact .inl rfl|exact .inr rfl) x108 ?_
            exact hK _ _ ⟨g18, A3, c3, by simpa only [bxL_ne (show (6:Nat) ≠ 9 by decide), ccL_ne (show (6:Nat) ≠ 10 by decide), ck_ne (show (6:Nat) ≠ 5 by decide)] using hM, (by simpa only [ck_ne (show (6:Nat) ≠ 5 by decide)] using hf5), HF.out.put _ (by decide), hS.set 6 rfl (by omega) (by rw [hz]; exact Nat.le_of_ble_eq_true rfl) (show ([0, 1, 2, 3, 4, 5, 6, 7, 8, 9, 11] : List Nat).Nodup by decide) (show ([103, 104, 105, 106, 107, 108, 102, 109, 110, 18, 19] : List Nat).Nodup by decide), hD.step (by omega) (by intro p hp e; simp only [List.mem_cons, List.not_mem_nil, or_false] at hp; rcases hp with rfl | rfl | rfl | rfl | rfl | rfl <;> first | exact absurd e (by decide) | exact ready_dep hr rfl (show 5 ∈ _ by decide))⟩
          · have x102 := hS.nth 6 rfl (ready_dep hr rfl (show 6 ∈ _ by decide))
            refine k_ex (Value.agg #[.slice A3 k.length c3, .int .i64 m]) (wanted_none rfl) rfl x102 rfl ?_
            exact hK _ _ ⟨g18, A3, c3, by simpa only [bxL_ne (show (7:Nat) ≠ 9 by decide), ccL_ne (show (7:Nat) ≠ 10 by decide), ck_ne (show (7:Nat) ≠ 5 by decide)] using hM, (by simpa only [ck_ne (show (7:Nat) ≠ 5 by decide)] using hf5), HF.out.put _ (by decide), hS.set 7 rfl (by omega) (by rw [hz]; exact Nat.le_of_ble_eq_true rfl) (show ([0, 1, 2, 3, 4, 5, 6, 7, 8, 9, 11] : List Nat).Nodup by decide) (show ([103, 104, 105, 106, 107, 108, 102, 109, 110, 18, 19] : List Nat).Nodup by decide), hD.step (by omega) (by intro p hp e; simp only [List.mem_cons, List.not_mem_nil, or_false] at hp; rcases hp with rfl | rfl | rfl | rfl | rfl | rfl <;> first | exact absurd e (by decide) | exact hD (6, 5) (by decide) (ready_dep hr rfl (show 6 ∈ _ by decide)))⟩
          · have x102 := hS.nth 6 rfl (ready_dep hr rfl (show 6 ∈ _ by decide))
            refine k_ex (Value.int .i64 e1) (wanted_none rfl) rfl x102 rfl ?_
            exact hK _ _ ⟨g18, A3, c3, by simpa only [bxL_ne (show (8:Nat) ≠ 9 by decide), ccL_ne (show (8:Nat) ≠ 10 by decide), ck_ne (show (8:Nat) ≠ 5 by decide)] using hM, (by simpa only [ck_ne (show (8:Nat) ≠ 5 by decide)] using hf5), HF.out.put _ (by decide), hS.set 8 rfl (by omega) (by rw [hz]; exact Nat.le_of_ble_eq_true rfl) (show ([0, 1, 2, 3, 4, 5, 6, 7, 8, 9, 11] : List Nat).Nodup by decide) (show ([103, 104, 105, 106, 107, 108, 102, 109, 110, 18, 19] : List Nat).Nodup by decide), hD.step (by omega) (by intro p hp e; simp only [List.mem_cons, List.not_mem_nil, or_false] at hp; rcases hp with rfl | rfl | rfl | rfl | rfl | rfl <;> first | exact absurd e (by decide) | exact hD (6, 5) (by decide) (ready_dep hr rfl (show 6 ∈ _ by decide)))⟩
          · have f0 := get_tf (by omega) (ready_self hr)
            have f1 : l.getD 10 false = false := hD.no (j:=9) (by decide) f0
            refine k_zero hM (wanted_none rfl) rfl rfl rfl ?_
            intro gN w_ hM2
            refine hK _ _ ⟨gN, A3, c3, ?_, (by simpa only [ck_ne (show (9:Nat) ≠ 5 by decide)] using hf5), HF.out.put _ (by decide), hS.step (by omega) (by rw [hz]; exact Nat.le_of_ble_eq_true rfl) (by intro e he h; simp only [List.mem_cons, List.not_mem_nil, or_false] at he; rcases he with rfl | rfl | rfl | rfl | rfl | rfl | rfl | rfl | rfl | rfl | rfl <;> first | rfl | exact absurd h (Nat.ne_of_beq_eq_false rfl)) (by intro e he h; simp only [List.mem_cons, List.not_mem_nil, or_false] at he ⊢; rcases he with rfl | rfl | rfl | rfl | rfl | rfl | rfl | rfl | rfl | rfl | rfl <;> first | exact absurd rfl h | exact ⟨by simp, Nat.ne_of_beq_eq_false rfl⟩), hD.skip (by omega) (by decide)⟩
            simp only [bxL_false f0, List.nil_append] at hM2
            simp only [ck_ne (show (9:Nat) ≠ 5 by decide), ccL_ne (show (9:Nat) ≠ 10 by decide), bxL_true (set_get_eq (show 9 < l.length by omega)), ccL_false f1, List.singleton_append]
            exact hM2
          · have x18 := hS.nth 9 rfl (ready_dep hr rfl (show 9 ∈ _ by decide))
            have x109 := hS.nth 7 rfl (ready_dep hr rfl (show 7 ∈ _ by decide))
            have f0 := get_tf (by omega) (ready_self hr)
            have q9 := ready_dep hr rfl (show 9 ∈ _ by decide)
            simp only [bxL_true q9, ccL_false f0, List.singleton_append] at hM
            refine k_put hM (wanted_none rfl) rfl rfl x18 _ x109 (by repeat constructor) rfl ?_
            intro w_ hM2
            refine hK _ _ ⟨g18, A3, c3, ?_, (by simpa only [ck_ne (show (10:Nat) ≠ 5 by decide)] using hf5), HF.out, hS.keep (by intro e he; simp only [List.mem_cons, List.not_mem_nil, or_false] at he; rcases he with rfl | rfl | rfl | rfl | rfl | rfl | rfl | rfl | rfl | rfl | rfl <;> exact Nat.ne_of_beq_eq_false rfl), hD.step (by omega) (by intro p hp e; simp only [List.mem_cons, List.not_mem_nil, or_false] at hp; rcases hp with rfl | rfl | rfl | rfl | rfl | rfl <;> first | exact absurd e (by decide) | exact ready_dep hr rfl (show 9 ∈ _ by decide) | exact ready_dep hr rfl (show 5 ∈ _ by decide))⟩
            simp only [ck_ne (show (10:Nat) ≠ 5 by decide), bxL_ne (show (10:Nat) ≠ 9 by decide), ccL_true (set_get_eq (show 10 < l.length by omega)), bxL_true q9, List.singleton_append]
            exact hM2
          · have x110 := hS.nth 8 rfl (ready_dep hr rfl (show 8 ∈ _ by decide))
            refine k_mv (Value.int .i64 e1) (wanted_none rfl) (by first|exact .inl rfl|exact .inr rfl) x110 ?_
            exact hK _ _ ⟨g18, A3, c3, by simpa only [bxL_ne (show (11:Nat) ≠ 9 by decide), ccL_ne (show (11:Nat) ≠ 10 by decide), ck_ne (show (11:Nat) ≠ 5 by decide)] using hM, (by simpa only [ck_ne (show (11:Nat) ≠ 5 by decide)] using hf5), HF.out.put _ (by decide), hS.set 10 rfl (by omega) (by rw [hz]; exact Nat.le_of_ble_eq_true rfl) (show ([0, 1, 2, 3, 4, 5, 6, 7, 8, 9, 11] : List Nat).Nodup by decide) (show ([103, 104, 105, 106, 107, 108, 102, 109, 110, 18, 19] : List Nat).Nodup by decide), hD.step (by omega) (by intro p hp e; simp only [List.mem_cons, List.not_mem_nil, or_false] at hp; rcases hp with rfl | rfl | rfl | rfl | rfl | rfl <;> first | exact absurd e (by decide) | exact ready_dep hr rfl (show 5 ∈ _ by decide))⟩
        intro q_ w' ⟨g18, A3, c3, hM, hf5, hF, hS, _⟩
        have hA := hS.all hF (by intro e he; simp only [List.mem_cons, List.not_mem_nil, or_false] at he; rcases he with rfl | rfl | rfl | rfl | rfl | rfl | rfl | rfl | rfl | rfl | rfl <;> exact Nat.le_of_ble_eq_true rfl) (by intro e he; simp only [List.mem_cons, List.not_mem_nil, or_false] at he; rcases he with rfl | rfl | rfl | rfl | rfl | rfl | rfl | rfl | rfl | rfl | rfl <;> exact Nat.le_of_ble_eq_true rfl) (show ([103, 104, 105, 106, 107, 108, 102, 109, 110, 18, 19] : List Nat).Nodup by decide)
        subst hA
        simp only [bxL_true (rep_get (show 9 < 12 by decide)), ccL_true (rep_get (show 10 < 12 by decide)), List.singleton_append] at hM
        have hf5 := Aside0.mk (hf5 (rep_get (show 5 < 12 by decide)))
        replace hM := hM.imp (fun w h => (⟨h.1, h.2 (rep_get (show 5 < 12 by decide))⟩ : (fun w => (Kd.C k49 w A0 xs.length xs ∧ Sr Ap (ps.map mkS) w) ∧ Tr (some ad) rs w) w ∧ (Tr A3 k w)))
        clear HM
        have HM := Aside0.mk hM
        clear hM hF hS
        simp only [fillAll, List.map_cons, List.map_nil, Act.put, List.setIfInBounds_toArray, List.set_cons_zero, List.set_cons_succ]
        by_cases he1 : e1 = 0
        case neg =>
          have k2 : (e1 == 0) = false := beq_eq_false_iff_ne.2 he1
          clear he1
          go_wp2_with (first|go_skip|((with_reducible refine' lc HM ?qw rfl ?qx ?qm ?qa ?qv ?_);(case qw|qx|qa=>rfl);(case qm=>repeat constructor);(case qv=>rfl))|((with_reducible refine' la HM ?qw rfl ?qx ?qm ?qa ?_);(case qw|qx=>rfl);(case qm=>repeat constructor);(case qa=>rfl))|((with_reducible refine' pa HM ?qw rfl ?qx _ ?qy ?qm ?qa ?_);(case qw|qx|qy=>rfl);(case qm=>repeat constructor);(case qa=>rfl);clear HM;intro _ HM)|((with_reducible refine' bz HM ?qw rfl ?qa ?qc ?_);(case qw|qa|qc=>rfl);clear HM;intro _ _ HM))
          go_roundw
          case rel => exact ⟨i + 1, by go_num, ⟨by omega⟩, ⟨(HM.out.drop.drop).imp (fun _ h => h.1)⟩⟩
          case measure => simp [intOf]; omega
        subst he1
        obtain ⟨⟨h1, h2, h3⟩, h4, h5, h6⟩ := HLU.out rfl
        have hlx := HL.out
        have hnx := HN6.out
        have hub := HUB.out
        have hlx6 : rs.length ≤ 6040 := by omega
        have hkb := use_bnd h4 (by omega) (by omega)
        obtain ⟨⟨w1, w2, w3, w4⟩, hw⟩ : ∃ q, ofL k = q := ⟨_, rfl⟩
        rw [hw] at h1 h2 hkb
        simp only at h1 h2 hkb
        have HUW : Aside0 (∀ (W : World) (B : List Bx) (S : World → Prop) {A : Option Addr} {c : Nat} {n : Int}, Mem w (fun k => k < w.heap.size) W B S → (∀ w, S w → Tr A k w) → k.length ≤ c → Calls Tryd.prog 20 #[.agg #[.slice A k.length c, .int .i64 n]] W fun e w' => e = .returned (.agg #[Value.int .i64 w1, Value.int .i64 w2, Value.int .i64 w3, Value.int .i64 w4]) ∧ Mem w (fun k => k < w.heap.size) w' B S) := ⟨fun W B S A c n' hM hS hc => by have := of_M (n := n') hM hS h4 hc (by omega) (by omega); rw [hw] at this; exact this⟩
        have hkz : (k.length : Int) ≤ 9060 := by omega
        have q1 : decide (w1 ≤ u1) = true := decide_eq_true h1
        have q2 : decide (w2 ≤ wrap64 (u2 + wrap64 ((k.length : Int) - (rs.length : Int)))) = true := decide_eq_true (by rw [w64 (x := (k.length : Int) - (rs.length : Int)) (by omega) (by omega), w64 (by omega) (by omega)]; omega)
        have q2' : decide (w2 ≤ wrap64 (u2 + ((k.length : Int) - (rs.length : Int)))) = true := decide_eq_true (by rw [w64 (by omega) (by omega)]; omega)
        have q2a : decide (w2 ≤ u2 + ((k.length : Int) - (rs.length : Int))) = true := decide_eq_true (by omega)
        have q3 : decide (0 ≤ (k.length : Int) - (rs.length : Int)) = true := decide_eq_true (by omega)
        have q3' : decide (0 ≤ wrap64 ((k.length : Int) - (rs.length : Int))) = true := decide_eq_true (by rw [w64 (by omega) (by omega)]; omega)
        have hle : (rs.length : Int) ≤ (k.length : Int) := by omega
        clear h1 h2 h3 h4 h5 h6 hlx hnx hub hlx6 hkb hw
        go_wp2_with (first|go_skip|((with_reducible refine gate_dst (N := 20) rfl ?_);(with_reducible refine' bz HM ?qw rfl ?qa ?qc ?_);(case qw|qa|qc=>rfl);clear HM;intro g20 _ HM)|((with_reducible refine' lc HM ?qw rfl ?qx ?qm ?qa ?qv ?_);(case qw|qx|qa=>rfl);(case qm=>repeat constructor);(case qv=>rfl))|((with_reducible refine' la HM ?qw rfl ?qx ?qm ?qa ?_);(case qw|qx=>rfl);(case qm=>repeat constructor);(case qa=>rfl))|((with_reducible refine' pa HM ?qw rfl ?qx _ ?qy ?qm ?qa ?_);(case qw|qx|qy=>rfl);(case qm=>repeat constructor);(case qa=>rfl);clear HM;intro _ HM)|(go_at_call 20;refine (HUW.out _ _ _ HM.out (fun _ h => h.2) hf5.out).mono ?_;rintro e _ ⟨rfl, hM⟩;clear HM;have HM:=Aside0.mk hM;clear hM))
        go_ret
        exact ⟨rfl, HM.out.below⟩
      · have hil : i = rs.length := by have := HIX.out; omega
        have hlz : ¬ ((i : Int) < (rs.length : Int)) := by omega
        clear hil HIX
        go_wp2_with (first|go_skip|((with_reducible refine' lc HM ?qw rfl ?qx ?qm ?qa ?qv ?_);(case qw|qx|qa=>rfl);(case qm=>repeat constructor);(case qv=>rfl))|((with_reducible refine' la HM ?qw rfl ?qx ?qm ?qa ?_);(case qw|qx=>rfl);(case qm=>repeat constructor);(case qa=>rfl))|((with_reducible refine' pa HM ?qw rfl ?qx _ ?qy ?qm ?qa ?_);(case qw|qx|qy=>rfl);(case qm=>repeat constructor);(case qa=>rfl);clear HM;intro _ HM)|((with_reducible refine' bz HM ?qw rfl ?qa ?qc ?_);(case qw|qa|qc=>rfl);clear HM;intro _ _ HM))
        go_ret
        exact ⟨rfl, HM.out.below⟩
end Go.Proofs.YtolpamojbiipaaaDoor.XA
