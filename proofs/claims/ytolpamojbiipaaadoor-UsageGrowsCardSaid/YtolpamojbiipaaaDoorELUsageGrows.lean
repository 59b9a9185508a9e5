/- UsageGrows's walk over Mem. Printed by wip/tools. -/
import Derived.Test.YtolpamojbiipaaaDoorEMeasures
import Derived.Test.YtolpamojbiipaaaDoorEMemS
import Derived.Test.YtolpamojbiipaaaDoorEMemRel
import Derived.Test.YtolpamojbiipaaaDoorEMemThing
import Derived.Test.YtolpamojbiipaaaDoorUMore
namespace Go.Proofs.YtolpamojbiipaaaDoor.XA
open Go.RowKit Go.Proofs.YtolpamojbiipaaaDoorW.PrintWords Go.Proofs.YtolpamojbiipaaaDoorW.PrintLast Go.Proofs.YtolpamojbiipaaaDoorW.PrintMore Go.Proofs.YtolpamojbiipaaaDoor.Mem Go.Proofs.YtolpamojbiipaaaDoor.Pure
set_option linter.unusedVariables false
set_option linter.unusedSimpArgs false

def ug6r7T : Bool × List (List Nat × List Nat) := (true, [([], []), ([], []), ([1], [1]), ([0, 2, 2], [0, 2]), ([3], [3]), ([4], [4]), ([4], [4]), ([], []), ([7, 5, 3, 0, 1, 2, 3, 4, 5, 7], [5, 7]), ([6, 8, 0, 1, 2, 3, 4, 5, 6, 7, 8], [6])])
def ug6r7B : List Nat := [0, 0, 2, 7, 15, 31, 31, 0, 191, 511]
theorem ug6r7Tab : rtab .any (opsOf Tryd.f6 7) = ug6r7T := by kernel_rfl
theorem ug6r7Bits : waitsOk ug6r7T.2 ug6r7B = true := by kernel_rfl
def ug6r10T : Bool × List (List Nat × List Nat) := (true, [([], []), ([0], [0]), ([], []), ([], []), ([2, 3, 1], [2, 3]), ([], []), ([5], [5]), ([4, 6, 4], [4, 6]), ([7, 7], [7]), ([8, 8], [8]), ([], []), ([], []), ([10, 1, 9, 0, 1, 10, 11], [1, 10]), ([11, 9, 12, 0, 1, 2, 3, 4, 5, 6, 7, 8, 9, 10, 11, 12], [9, 11])])
def ug6r10B : List Nat := [0, 1, 0, 0, 15, 0, 32, 127, 255, 511, 0, 0, 4095, 8191]
theorem ug6r10Tab : rtab .any (opsOf Tryd.f6 10) = ug6r10T := by kernel_rfl
theorem ug6r10Bits : waitsOk ug6r10T.2 ug6r10B = true := by kernel_rfl
theorem get_eq6 {w0 : World} {P : Nat → Prop} {B : List Bx} {S : World → Prop} {f : Nat} {vs : Array Value} {W : World} {rs : List S44} {ps : Pth} {ro : S44} {b : Bool} (h : (lookR rs ps).getD z44 = ro ∧ (lookR rs ps).isSome = b) (hc : Calls Tryd.prog f vs W fun e w' => e = .returned (.tuple #[.agg (rowL ((lookR rs ps).getD z44)).toArray, .bool (lookR rs ps).isSome]) ∧ Mem w0 P w' B S) :
    Calls Tryd.prog f vs W fun e w' => e = .returned (.tuple #[.agg (rowL ro).toArray, .bool b]) ∧ Mem w0 P w' B S := by
  rw [h.1, h.2] at hc
  exact hc
/-- The rows that an append has made so far: none, an empty one, one; handed on. -/
def owL (rs : List Bool) (i j k : Nat) (x y : List Bx) : List Bx := if rs.getD k false = true then [] else if rs.getD j false = true then y else if rs.getD i false = true then x else []
theorem owL_ne {rs : List Bool} {m i j k : Nat} {x y : List Bx} (h1 : m ≠ i) (h2 : m ≠ j) (h3 : m ≠ k) : owL (rs.set m true) i j k x y = owL rs i j k x y := by unfold owL; rw [set_get_ne h1, set_get_ne h2, set_get_ne h3]
theorem owL_0 {rs : List Bool} {i j k : Nat} {x y : List Bx} (h1 : rs.getD i false = false) (h2 : rs.getD j false = false) (h3 : rs.getD k false = false) : owL rs i j k x y = [] := by unfold owL; rw [h1, h2, h3]; rfl
theorem owL_2 {rs : List Bool} {i j k : Nat} {x y : List Bx} (h1 : rs.getD i false = true) (h2 : rs.getD j false = false) (h3 : rs.getD k false = false) : owL rs i j k x y = x := by unfold owL; rw [h1, h2, h3]; rfl
theorem owL_4 {rs : List Bool} {i j k : Nat} {x y : List Bx} (h2 : rs.getD j false = true) (h3 : rs.getD k false = false) : owL rs i j k x y = y := by unfold owL; rw [h2, h3]; rfl
theorem owL_7 {rs : List Bool} {i j k : Nat} {x y : List Bx} (h3 : rs.getD k false = true) : owL rs i j k x y = [] := by unfold owL; rw [h3]; rfl
theorem planted14_snoc (xs : List S49) (x : S49) : planted14 (xs ++ [x]) = put14 (planted14 xs) x := by unfold planted14; rw [List.foldl_append]; rfl
theorem put_grow {rs : List S44} {n : Int} (hI : Inv rs n) (hl : rs.length ≤ 900000) (x : S49) (he : (cleanS x.f0.data.toList).2 = 0) (hs : x.f0.size ≤ 300) (ht : x.f1.data.toList = []) (hno : lookR rs (cleanS x.f0.data.toList).1 = none) :
    (ofL rs).1 ≤ (ofL (put14 (rs, n) x).1).1 ∧ (ofL rs).2.1 ≤ (ofL (put14 (rs, n) x).1).2.1 ∧ (ofL rs).2.2.1 ≤ (ofL (put14 (rs, n) x).1).2.2.1 ∧ (ofL rs).2.2.2 ≤ (ofL (put14 (rs, n) x).1).2.2.2 ∧ (ofL (put14 (rs, n) x).1).1 - (ofL rs).1 ≤ 1048576 := by
  have same : (ofL rs).1 ≤ (ofL rs).1 ∧ (ofL rs).2.1 ≤ (ofL rs).2.1 ∧ (ofL rs).2.2.1 ≤ (ofL rs).2.2.1 ∧ (ofL rs).2.2.2 ≤ (ofL rs).2.2.2 ∧ (ofL rs).1 - (ofL rs).1 ≤ 1048576 := by omega
  have hcl := clean_cl he hs
  unfold put14
  by_cases hk : skip14 x
  · rw [if_pos hk]; exact same
  rw [if_neg hk, if_pos ht]
  unfold skip14 at hk
  simp only [not_or] at hk
  by_cases h1 : x.f2 = 1
  · rw [if_pos h1]
    exact add_grow hI hl hcl (nd := ndFile x.f3) ⟨.inl rfl, rfl, by show 0 ≤ x.f3 ∧ x.f3 ≤ 1048576; omega⟩ hno
  rw [if_neg h1]
  by_cases h2 : x.f2 = 3 ∨ x.f2 = 4
  · rw [if_pos h2]
    exact add_grow hI hl hcl (nd := ndKind x.f2) ⟨.inr h2, rfl, by show (0 : Int) ≤ 0 ∧ (0 : Int) ≤ 1048576; omega⟩ hno
  · rw [if_neg h2]; exact same
set_option maxHeartbeats 8000000 in
set_option maxRecDepth 100000 in
theorem UsageGrows_walk (w : World) (HG0 : GG w) (A0 : Option Addr) (c0 : Nat) (xs : List S49) (hr0 : Kd.C k49 w A0 xs.length xs) (hm0 : xs.length ≤ 9223372036854775807) (hw0 : ∀ x ∈ xs, (x.f0.size ≤ 9223372036854775807 ∧ x.f1.size ≤ 9223372036854775807 ∧ (Lit.int .i64 x.f2).wf = true ∧ (Lit.int .i64 x.f3).wf = true)) (x : S49) (hw1 : (x.f0.size ≤ 9223372036854775807 ∧ x.f1.size ≤ 9223372036854775807 ∧ (Lit.int .i64 x.f2).wf = true ∧ (Lit.int .i64 x.f3).wf = true)) :
    Calls Tryd.prog 6 #[.slice A0 xs.length c0, .agg #[.string x.f0, .string x.f1, .int .i64 x.f2, .int .i64 x.f3]] w fun e w' => e = .returned (.bool true) ∧ Below w.heap.size w w' := by
  have HM : Aside0 (Mem w (fun k => k < w.heap.size) w [] (fun w => Kd.C k49 w A0 xs.length xs)) := ⟨Mem.start (fun W' h => heap49.C (fun k hk => h k hk hk) hr0)⟩
  have HG := Aside0.mk HG0
  clear hw0 hr0 HG0 hw1
  obtain ⟨⟨ps, e0⟩, hcl⟩ : ∃ q, cleanS x.f0.data.toList = q := ⟨_, rfl⟩
  have HCLN : Aside0 (∀ (W : World) (B : List Bx) (S : World → Prop), Mem w (fun k => k < w.heap.size) W B S → Calls Tryd.prog 22 #[.string x.f0] W fun e w' => ∃ A' c', e = .returned (.tuple #[.slice A' ps.length c', .int .i64 e0]) ∧ ps.length ≤ c' ∧ Mem w (fun k => k < w.heap.size) w' B (fun w => S w ∧ Sr A' (ps.map mkS) w)) := ⟨fun W B S hM => by have := clean_M HG.out hM x.f0; rw [hcl] at this; exact this⟩
  by_cases hlen : 40 < xs.length
  · have b0 : decide ((40 : Int) < (xs.length : Int)) = true := decide_eq_true (by omega)
    clear hlen hcl
    go_enter Tryd.func6, Tryd.ntmps6
    go_wp2_with (first|go_skip|((with_reducible refine gate_dst (N := 3) rfl ?_);(with_reducible refine' bn HM ?qw rfl _ ?qx ?_);(case qw|qx=>rfl);clear HM;intro g3 _ HM)|((with_reducible refine' lc HM ?qw rfl ?qx ?qm ?qa ?qv ?_);(case qw|qx|qa=>rfl);(case qm=>repeat constructor);(case qv=>rfl))|((with_reducible refine' la HM ?qw rfl ?qx ?qm ?qa ?_);(case qw|qx=>rfl);(case qm=>repeat constructor);(case qa=>rfl))|((with_reducible refine' pa HM ?qw rfl ?qx _ ?qy ?qm ?qa ?_);(case qw|qx|qy=>rfl);(case qm=>repeat constructor);(case qa=>rfl);clear HM;intro _ HM)|((with_reducible refine' bz HM ?qw rfl ?qa ?qc ?_);(case qw|qa|qc=>rfl);clear HM;intro _ _ HM)|(go_at_call 16;refine (measures_M HM.out).mono ?_;rintro e _ ⟨rfl, hM⟩;clear HM;have HM:=Aside0.mk hM;clear hM)|(go_at_call 22;refine (HCLN.out _ _ _ HM.out).mono ?_;rintro e _ ⟨Ap, cp, rfl, hc, hM⟩;have HCP := Aside0.mk hc; clear hc; clear HM;have HM:=Aside0.mk hM;clear hM))
    go_ret
    exact ⟨rfl, HM.out.below⟩
  have b0 : decide ((40 : Int) < (xs.length : Int)) = false := decide_eq_false (by omega)
  have HX := Aside0.mk (show xs.length ≤ 40 by omega)
  clear hlen hm0
  by_cases he : e0 = 0
  case neg =>
    have b1 : (e0 != 0) = true := bne_iff_ne.2 he
    clear he hcl
    go_enter Tryd.func6, Tryd.ntmps6
    go_wp2_with (first|go_skip|((with_reducible refine gate_dst (N := 3) rfl ?_);(with_reducible refine' bn HM ?qw rfl _ ?qx ?_);(case qw|qx=>rfl);clear HM;intro g3 _ HM)|((with_reducible refine' lc HM ?qw rfl ?qx ?qm ?qa ?qv ?_);(case qw|qx|qa=>rfl);(case qm=>repeat constructor);(case qv=>rfl))|((with_reducible refine' la HM ?qw rfl ?qx ?qm ?qa ?_);(case qw|qx=>rfl);(case qm=>repeat constructor);(case qa=>rfl))|((with_reducible refine' pa HM ?qw rfl ?qx _ ?qy ?qm ?qa ?_);(case qw|qx|qy=>rfl);(case qm=>repeat constructor);(case qa=>rfl);clear HM;intro _ HM)|((with_reducible refine' bz HM ?qw rfl ?qa ?qc ?_);(case qw|qa|qc=>rfl);clear HM;intro _ _ HM)|(go_at_call 16;refine (measures_M HM.out).mono ?_;rintro e _ ⟨rfl, hM⟩;clear HM;have HM:=Aside0.mk hM;clear hM)|(go_at_call 22;refine (HCLN.out _ _ _ HM.out).mono ?_;rintro e _ ⟨Ap, cp, rfl, hc, hM⟩;have HCP := Aside0.mk hc; clear hc; clear HM;have HM:=Aside0.mk hM;clear hM))
    go_ret
    exact ⟨rfl, HM.out.below⟩
  subst he
  have hgd : Gd ps := by have := clean_gd (s := x.f0) (by rw [hcl]); rwa [hcl] at this
  by_cases hs3 : 300 < x.f0.size
  · have b1 : decide ((300 : Int) < (x.f0.size : Int)) = true := decide_eq_true (by omega)
    clear hs3 hcl hgd
    go_enter Tryd.func6, Tryd.ntmps6
    go_wp2_with (first|go_skip|((with_reducible refine gate_dst (N := 3) rfl ?_);(with_reducible refine' bn HM ?qw rfl _ ?qx ?_);(case qw|qx=>rfl);clear HM;intro g3 _ HM)|((with_reducible refine' lc HM ?qw rfl ?qx ?qm ?qa ?qv ?_);(case qw|qx|qa=>rfl);(case qm=>repeat constructor);(case qv=>rfl))|((with_reducible refine' la HM ?qw rfl ?qx ?qm ?qa ?_);(case qw|qx=>rfl);(case qm=>repeat constructor);(case qa=>rfl))|((with_reducible refine' pa HM ?qw rfl ?qx _ ?qy ?qm ?qa ?_);(case qw|qx|qy=>rfl);(case qm=>repeat constructor);(case qa=>rfl);clear HM;intro _ HM)|((with_reducible refine' bz HM ?qw rfl ?qa ?qc ?_);(case qw|qa|qc=>rfl);clear HM;intro _ _ HM)|(go_at_call 16;refine (measures_M HM.out).mono ?_;rintro e _ ⟨rfl, hM⟩;clear HM;have HM:=Aside0.mk hM;clear hM)|(go_at_call 22;refine (HCLN.out _ _ _ HM.out).mono ?_;rintro e _ ⟨Ap, cp, rfl, hc, hM⟩;have HCP := Aside0.mk hc; clear hc; clear HM;have HM:=Aside0.mk hM;clear hM))
    go_ret
    exact ⟨rfl, HM.out.below⟩
  have b1 : decide ((300 : Int) < (x.f0.size : Int)) = false := decide_eq_false (by omega)
  by_cases ht : x.f1.data.toList = []
  case neg =>
    have t0 : (x.f1.toList == ([] : List UInt8)) = false := beq_eq_false_iff_ne.2 (by rw [toList_data]; exact ht)
    have t1 : x.f1.toList.isEmpty = false := List.isEmpty_eq_false_iff.2 (by rw [toList_data]; exact ht)
    clear ht hs3 hcl hgd
    go_enter Tryd.func6, Tryd.ntmps6
    go_wp2_with (first|go_skip|((with_reducible refine gate_dst (N := 3) rfl ?_);(with_reducible refine' bn HM ?qw rfl _ ?qx ?_);(case qw|qx=>rfl);clear HM;intro g3 _ HM)|((with_reducible refine' lc HM ?qw rfl ?qx ?qm ?qa ?qv ?_);(case qw|qx|qa=>rfl);(case qm=>repeat constructor);(case qv=>rfl))|((with_reducible refine' la HM ?qw rfl ?qx ?qm ?qa ?_);(case qw|qx=>rfl);(case qm=>repeat constructor);(case qa=>rfl))|((with_reducible refine' pa HM ?qw rfl ?qx _ ?qy ?qm ?qa ?_);(case qw|qx|qy=>rfl);(case qm=>repeat constructor);(case qa=>rfl);clear HM;intro _ HM)|((with_reducible refine' bz HM ?qw rfl ?qa ?qc ?_);(case qw|qa|qc=>rfl);clear HM;intro _ _ HM)|(go_at_call 16;refine (measures_M HM.out).mono ?_;rintro e _ ⟨rfl, hM⟩;clear HM;have HM:=Aside0.mk hM;clear hM)|(go_at_call 22;refine (HCLN.out _ _ _ HM.out).mono ?_;rintro e _ ⟨Ap, cp, rfl, hc, hM⟩;have HCP := Aside0.mk hc; clear hc; clear HM;have HM:=Aside0.mk hM;clear hM))
    go_ret
    exact ⟨rfl, HM.out.below⟩
  have t0 : (x.f1.toList == ([] : List UInt8)) = true := beq_iff_eq.2 (by rw [toList_data]; exact ht)
  have t1 : x.f1.toList.isEmpty = true := List.isEmpty_iff.2 (by rw [toList_data]; exact ht)
  have hok := planted14_ok xs
  have hok2 := planted14_ok (xs ++ [x])
  have hsn := planted14_snoc xs x
  obtain ⟨⟨rs, n⟩, hpl⟩ : ∃ q, planted14 xs = q := ⟨_, rfl⟩
  obtain ⟨⟨l2, n2⟩, hpl2⟩ : ∃ q, planted14 (xs ++ [x]) = q := ⟨_, rfl⟩
  rw [hpl, hpl2] at hsn
  have hx40 := HX.out
  have HPL : Aside0 (∀ (W : World) (B : List Bx) (S : World → Prop), Mem w (fun k => k < w.heap.size) W B S → (∀ w, S w → Kd.C k49 w A0 xs.length xs) → Calls Tryd.prog 19 #[.slice A0 xs.length c0] W fun e w' => ∃ A' c', e = .returned (.agg #[.slice A' rs.length c', .int .i64 n]) ∧ rs.length ≤ c' ∧ Mem w (fun k => k < w.heap.size) w' B (fun w => S w ∧ Tr A' rs w)) := ⟨fun W B S hM hS => by have := planted14_M (c0 := c0) HG.out hM hS (by omega); rw [hpl] at this; exact this⟩
  have HPL2 : Aside0 (∀ (W : World) (B : List Bx) (S : World → Prop) {A : Option Addr} {c : Nat}, Mem w (fun k => k < w.heap.size) W B S → (∀ w, S w → Kd.C k49 w A (xs ++ [x]).length (xs ++ [x])) → Calls Tryd.prog 19 #[.slice A (xs ++ [x]).length c] W fun e w' => ∃ A' c', e = .returned (.agg #[.slice A' l2.length c', .int .i64 n2]) ∧ l2.length ≤ c' ∧ Mem w (fun k => k < w.heap.size) w' B (fun w => S w ∧ Tr A' l2 w)) := ⟨fun W B S A c hM hS => by have := planted14_M (c0 := c) HG.out hM hS (by simp only [List.length_append, List.length_cons, List.length_nil]; omega); rw [hpl2] at this; exact this⟩
  rw [hpl] at hok
  rw [hpl2] at hok2
  simp only [List.length_append, List.length_cons, List.length_nil] at hok hok2
  obtain ⟨hI, hn, hl⟩ := hok
  obtain ⟨hI2, hn2, hl2⟩ := hok2
  have hl6 : rs.length ≤ 6040 := by omega
  have hn6 : n ≤ 6040 := by omega
  have hub := use_bnd hI (by omega) (by omega)
  have hvb := use_bnd hI2 (by omega) (by omega)
  have hgr := fun hno : lookR rs ps = none => put_grow hI (by omega) x (by rw [hcl]) (by omega) ht (by rw [hcl]; exact hno)
  rw [← hsn] at hgr
  obtain ⟨⟨u1, u2, u3, u4⟩, hu⟩ : ∃ q, ofL rs = q := ⟨_, rfl⟩
  obtain ⟨⟨v1, v2, v3, v4⟩, hv⟩ : ∃ q, ofL l2 = q := ⟨_, rfl⟩
  have HUU : Aside0 (∀ (W : World) (B : List Bx) (S : World → Prop) {A : Option Addr} {c : Nat} {n : Int}, Mem w (fun k => k < w.heap.size) W B S → (∀ w, S w → Tr A rs w) → rs.length ≤ c → Calls Tryd.prog 20 #[.agg #[.slice A rs.length c, .int .i64 n]] W fun e w' => e = .returned (.agg #[Value.int .i64 u1, Value.int .i64 u2, Value.int .i64 u3, Value.int .i64 u4]) ∧ Mem w (fun k => k < w.heap.size) w' B S) := ⟨fun W B S A c n' hM hS hc => by have := of_M (n := n') hM hS hI hc (by omega) (by omega); rw [hu] at this; exact this⟩
  have HUV : Aside0 (∀ (W : World) (B : List Bx) (S : World → Prop) {A : Option Addr} {c : Nat} {n : Int}, Mem w (fun k => k < w.heap.size) W B S → (∀ w, S w → Tr A l2 w) → l2.length ≤ c → Calls Tryd.prog 20 #[.agg #[.slice A l2.length c, .int .i64 n]] W fun e w' => e = .returned (.agg #[Value.int .i64 v1, Value.int .i64 v2, Value.int .i64 v3, Value.int .i64 v4]) ∧ Mem w (fun k => k < w.heap.size) w' B S) := ⟨fun W B S A c n' hM hS hc => by have := of_M (n := n') hM hS hI2 hc (by omega) (by omega); rw [hv] at this; exact this⟩
  rw [hu] at hub
  rw [hv] at hvb
  simp only [hu, hv] at hgr hub hvb
  have HGR := Aside0.mk hgr
  have HUB := Aside0.mk hub
  have HVB := Aside0.mk hvb
  have HI := Aside0.mk hI
  have HL := Aside0.mk (show rs.length ≤ 900000 by omega)
  have HGD := Aside0.mk hgd
  obtain ⟨ro, b, hge⟩ : ∃ ro b, (lookR rs ps).getD z44 = ro ∧ (lookR rs ps).isSome = b := ⟨_, _, rfl, rfl⟩
  have HGE := Aside0.mk hge
  clear hI hI2 hn hn2 hl hl2 hl6 hn6 hub hvb hu hv hgd hpl hpl2 hx40 hge hs3 ht hsn hgr hcl
  go_enter Tryd.func6, Tryd.ntmps6
  go_upto_region 6 with (first|go_skip|((with_reducible refine gate_dst (N := 3) rfl ?_);(with_reducible refine' bn HM ?qw rfl _ ?qx ?_);(case qw|qx=>rfl);clear HM;intro g3 _ HM)|((with_reducible refine' lc HM ?qw rfl ?qx ?qm ?qa ?qv ?_);(case qw|qx|qa=>rfl);(case qm=>repeat constructor);(case qv=>rfl))|((with_reducible refine' la HM ?qw rfl ?qx ?qm ?qa ?_);(case qw|qx=>rfl);(case qm=>repeat constructor);(case qa=>rfl))|((with_reducible refine' pa HM ?qw rfl ?qx _ ?qy ?qm ?qa ?_);(case qw|qx|qy=>rfl);(case qm=>repeat constructor);(case qa=>rfl);clear HM;intro _ HM)|((with_reducible refine' bz HM ?qw rfl ?qa ?qc ?_);(case qw|qa|qc=>rfl);clear HM;intro _ _ HM)|(go_at_call 16;refine (measures_M HM.out).mono ?_;rintro e _ ⟨rfl, hM⟩;clear HM;have HM:=Aside0.mk hM;clear hM)|(go_at_call 22;refine (HCLN.out _ _ _ HM.out).mono ?_;rintro e _ ⟨Ap, cp, rfl, hc, hM⟩;have HCP := Aside0.mk hc; clear hc; clear HM;have HM:=Aside0.mk hM;clear hM))
  go_upto_region 7 with (first|go_skip|((with_reducible refine gate_dst (N := 7) rfl ?_);(with_reducible refine' bz HM ?qw rfl ?qa ?qc ?_);(case qw|qa|qc=>rfl);clear HM;intro g7 _ HM)|((with_reducible refine' lc HM ?qw rfl ?qx ?qm ?qa ?qv ?_);(case qw|qx|qa=>rfl);(case qm=>repeat constructor);(case qv=>rfl))|((with_reducible refine' la HM ?qw rfl ?qx ?qm ?qa ?_);(case qw|qx=>rfl);(case qm=>repeat constructor);(case qa=>rfl))|((with_reducible refine' pa HM ?qw rfl ?qx _ ?qy ?qm ?qa ?_);(case qw|qx|qy=>rfl);(case qm=>repeat constructor);(case qa=>rfl);clear HM;intro _ HM)|(go_at_call 19;refine (HPL.out _ _ _ HM.out (fun _ h => h.1)).mono ?_;rintro e _ ⟨A, c, rfl, hc, hM⟩;have HC := Aside0.mk hc; clear hc; clear HM;have HM:=Aside0.mk hM;clear hM))
  refine r_relA (n := 10) (fun q0 l q_ w' => ∃ (g8 : Nat), Mem w (fun k => k < w.heap.size) w' (bxL l 7 (g8, ccL l 8 (rowL ro) (rowL z44), 44) ++ (((g7, [.slice A rs.length c, .int .i64 n], 35) :: (g3, [.string x.f0, .string x.f1, .int .i64 x.f2, .int .i64 x.f3], 49) :: []))) (fun w => (fun w => (Kd.C k49 w A0 xs.length xs ∧ Sr Ap (ps.map mkS) w) ∧ Tr A rs w) w) ∧ Frm q0 q_ [41, 42, 43, 44, 40, 45, 46, 8, 9] ∧ Slots q_ l [(0, 41, Value.agg #[.slice A rs.length c, .int .i64 n]), (1, 42, Value.slice Ap ps.length cp), (2, 43, Value.string (mkS (joinS ps))), (3, 44, Value.tuple #[.agg (rowL ro).toArray, .bool b]), (4, 40, Value.tuple #[.agg (rowL ro).toArray, .bool b]), (5, 45, Value.agg (rowL ro).toArray), (6, 46, Value.bool b), (7, 8, Value.pointer (some ⟨g8, 0, none⟩)), (9, 9, Value.bool b)] ∧ Side [(8, 7)] l) (by kernel_rfl) ug6r7Tab (by kernel_rfl) rfl rfl ?_ ?_ ?_
  · refine ⟨0, ?_, Frm.refl _ _, Slots.start, Side.start⟩
    have hM0 := HM.out.drew
    simp only [bxL_false rep_get0, List.nil_append]
    exact hM0.imp (fun w h => h)
  rotate_left
  · intro l q_ w' i o hl hi ho hr ⟨g8, hM, hF, hS, hD⟩ K hK
    clear HM
    obtain ⟨_, rfl⟩ := Array.getElem?_eq_some_iff.1 ho
    clear ho
    have x5 := hF.get (N:=5) (by decide) (rfl:_=Value.slice Ap ps.length cp)
    have x7 := hF.get (N:=7) (by decide) (rfl:_=Value.pointer (some ⟨g7, 0, none⟩))
    have hz : q_.tmps.size = _ := hF.z
    have HF := Aside0.mk hF
    clear hF
    have hi2 : i < 10 := hi
    have hc : i = 0 ∨ i = 1 ∨ i = 2 ∨ i = 3 ∨ i = 4 ∨ i = 5 ∨ i = 6 ∨ i = 7 ∨ i = 8 ∨ i = 9 := by omega
    rcases hc with rfl | rfl | rfl | rfl | rfl | rfl | rfl | rfl | rfl | rfl
    · refine k_all hM (wanted_none rfl) rfl x7 (Has.app _ ((by repeat constructor))) rfl ?_
      exact hK _ _ ⟨g8, by simpa only [bxL_ne (show (0:Nat) ≠ 7 by decide), ccL_ne (show (0:Nat) ≠ 8 by decide)] using hM, HF.out.put _ (by decide), hS.set 0 rfl (by omega) (by rw [hz]; exact Nat.le_of_ble_eq_true rfl) (show ([0, 1, 2, 3, 4, 5, 6, 7, 9] : List Nat).Nodup by decide) (show ([41, 42, 43, 44, 40, 45, 46, 8, 9] : List Nat).Nodup by decide), hD.skip (by omega) (by decide)⟩
    · refine k_mv (Value.slice Ap ps.length cp) (wanted_none rfl) (by first|exact .inl rfl|exact .inr rfl) x5 ?_
      exact hK _ _ ⟨g8, by simpa only [bxL_ne (show (1:Nat) ≠ 7 by decide), ccL_ne (show (1:Nat) ≠ 8 by decide)] using hM, HF.out.put _ (by decide), hS.set 1 rfl (by omega) (by rw [hz]; exact Nat.le_of_ble_eq_true rfl) (show ([0, 1, 2, 3, 4, 5, 6, 7, 9] : List Nat).Nodup by decide) (show ([41, 42, 43, 44, 40, 45, 46, 8, 9] : List Nat).Nodup by decide), hD.skip (by omega) (by decide)⟩
    · have x42 := hS.nth 1 rfl (ready_dep hr rfl (show 1 ∈ _ by decide))
      refine goes_ Tryd.func24 (by kernel_rfl) rfl #[Value.slice Ap ps.length cp] (wanted_none rfl) rfl rfl (by simp only [List.map_toArray, List.map_cons, List.map_nil, x42]) ?_
      refine (join_M hM (fun _ h => h.1.2) HCP.out HGD.out).mono ?_
      rintro e w_ ⟨rfl, hM2⟩
      refine ⟨_, rfl, ?_⟩
      exact hK _ _ ⟨g8, by simpa only [bxL_ne (show (2:Nat) ≠ 7 by decide), ccL_ne (show (2:Nat) ≠ 8 by decide)] using hM2, HF.out.put _ (by decide), hS.set 2 rfl (by omega) (by rw [hz]; exact Nat.le_of_ble_eq_true rfl) (show ([0, 1, 2, 3, 4, 5, 6, 7, 9] : List Nat).Nodup by decide) (show ([41, 42, 43, 44, 40, 45, 46, 8, 9] : List Nat).Nodup by decide), hD.skip (by omega) (by decide)⟩
    · have x41 := hS.nth 0 rfl (ready_dep hr rfl (show 0 ∈ _ by decide))
      have x43 := hS.nth 2 rfl (ready_dep hr rfl (show 2 ∈ _ by decide))
      refine goes_ Tryd.func23 (by kernel_rfl) rfl #[Value.agg #[.slice A rs.length c, .int .i64 n], Value.string (mkS (joinS ps))] (wanted_none rfl) rfl rfl (by simp only [List.map_toArray, List.map_cons, List.map_nil, x41, x43]) ?_
      refine (get_eq6 HGE.out (get_M hM (fun _ h => h.2) HI.out.wk HC.out HL.out HGD.out)).mono ?_
      rintro e w_ ⟨rfl, hM2⟩
      refine ⟨_, rfl, ?_⟩
      exact hK _ _ ⟨g8, by simpa only [bxL_ne (show (3:Nat) ≠ 7 by decide), ccL_ne (show (3:Nat) ≠ 8 by decide)] using hM2, HF.out.put _ (by decide), hS.set 3 rfl (by omega) (by rw [hz]; exact Nat.le_of_ble_eq_true rfl) (show ([0, 1, 2, 3, 4, 5, 6, 7, 9] : List Nat).Nodup by decide) (show ([41, 42, 43, 44, 40, 45, 46, 8, 9] : List Nat).Nodup by decide), hD.skip (by omega) (by decide)⟩
    · have x44 := hS.nth 3 rfl (ready_dep hr rfl (show 3 ∈ _ by decide))
      refine k_mv (Value.tuple #[.agg (rowL ro).toArray, .bool b]) (wanted_none rfl) (by first|exact .inl rfl|exact .inr rfl) x44 ?_
      exact hK _ _ ⟨g8, by simpa only [bxL_ne (show (4:Nat) ≠ 7 by decide), ccL_ne (show (4:Nat) ≠ 8 by decide)] using hM, HF.out.put _ (by decide), hS.set 4 rfl (by omega) (by rw [hz]; exact Nat.le_of_ble_eq_true rfl) (show ([0, 1, 2, 3, 4, 5, 6, 7, 9] : List Nat).Nodup by decide) (show ([41, 42, 43, 44, 40, 45, 46, 8, 9] : List Nat).Nodup by decide), hD.skip (by omega) (by decide)⟩
    · have x40 := hS.nth 4 rfl (ready_dep hr rfl (show 4 ∈ _ by decide))
      refine k_ex (Value.agg (rowL ro).toArray) (wanted_none rfl) rfl x40 rfl ?_
      exact hK _ _ ⟨g8, by simpa only [bxL_ne (show (5:Nat) ≠ 7 by decide), ccL_ne (show (5:Nat) ≠ 8 by decide)] using hM, HF.out.put _ (by decide), hS.set 5 rfl (by omega) (by rw [hz]; exact Nat.le_of_ble_eq_true rfl) (show ([0, 1, 2, 3, 4, 5, 6, 7, 9] : List Nat).Nodup by decide) (show ([41, 42, 43, 44, 40, 45, 46, 8, 9] : List Nat).Nodup by decide), hD.skip (by omega) (by decide)⟩
    · have x40 := hS.nth 4 rfl (ready_dep hr rfl (show 4 ∈ _ by decide))
      refine k_ex (Value.bool b) (wanted_none rfl) rfl x40 rfl ?_
      exact hK _ _ ⟨g8, by simpa only [bxL_ne (show (6:Nat) ≠ 7 by decide), ccL_ne (show (6:Nat) ≠ 8 by decide)] using hM, HF.out.put _ (by decide), hS.set 6 rfl (by omega) (by rw [hz]; exact Nat.le_of_ble_eq_true rfl) (show ([0, 1, 2, 3, 4, 5, 6, 7, 9] : List Nat).Nodup by decide) (show ([41, 42, 43, 44, 40, 45, 46, 8, 9] : List Nat).Nodup by decide), hD.skip (by omega) (by decide)⟩
    · have f0 := get_tf (by omega) (ready_self hr)
      have f1 : l.getD 8 false = false := hD.no (j:=7) (by decide) f0
      refine k_zero hM (wanted_none rfl) rfl rfl rfl ?_
      intro gN w_ hM2
      refine hK _ _ ⟨gN, ?_, HF.out.put _ (by decide), hS.step (by omega) (by rw [hz]; exact Nat.le_of_ble_eq_true rfl) (by intro e he h; simp only [List.mem_cons, List.not_mem_nil, or_false] at he; rcases he with rfl | rfl | rfl | rfl | rfl | rfl | rfl | rfl | rfl <;> first | rfl | exact absurd h (Nat.ne_of_beq_eq_false rfl)) (by intro e he h; simp only [List.mem_cons, List.not_mem_nil, or_false] at he ⊢; rcases he with rfl | rfl | rfl | rfl | rfl | rfl | rfl | rfl | rfl <;> first | exact absurd rfl h | exact ⟨by simp, Nat.ne_of_beq_eq_false rfl⟩), hD.skip (by omega) (by decide)⟩
      simp only [bxL_false f0, List.nil_append] at hM2
      simp only [ccL_ne (show (7:Nat) ≠ 8 by decide), bxL_true (set_get_eq (show 7 < l.length by omega)), ccL_false f1, List.singleton_append]
      exact hM2
    · have x8 := hS.nth 7 rfl (ready_dep hr rfl (show 7 ∈ _ by decide))
      have x45 := hS.nth 5 rfl (ready_dep hr rfl (show 5 ∈ _ by decide))
      have f0 := get_tf (by omega) (ready_self hr)
      have q7 := ready_dep hr rfl (show 7 ∈ _ by decide)
      simp only [bxL_true q7, ccL_false f0, List.singleton_append] at hM
      refine k_put hM (wanted_none rfl) rfl rfl x8 _ x45 (by repeat constructor) rfl ?_
      intro w_ hM2
      refine hK _ _ ⟨g8, ?_, HF.out, hS.keep (by intro e he; simp only [List.mem_cons, List.not_mem_nil, or_false] at he; rcases he with rfl | rfl | rfl | rfl | rfl | rfl | rfl | rfl | rfl <;> exact Nat.ne_of_beq_eq_false rfl), hD.step (by omega) (by intro p hp e; simp only [List.mem_cons, List.not_mem_nil, or_false] at hp; rcases hp with rfl <;> first | exact absurd e (by decide) | exact ready_dep hr rfl (show 7 ∈ _ by decide))⟩
      simp only [bxL_ne (show (8:Nat) ≠ 7 by decide), ccL_true (set_get_eq (show 8 < l.length by omega)), bxL_true q7, List.singleton_append]
      exact hM2
    · have x46 := hS.nth 6 rfl (ready_dep hr rfl (show 6 ∈ _ by decide))
      refine k_mv (Value.bool b) (wanted_none rfl) (by first|exact .inl rfl|exact .inr rfl) x46 ?_
      exact hK _ _ ⟨g8, by simpa only [bxL_ne (show (9:Nat) ≠ 7 by decide), ccL_ne (show (9:Nat) ≠ 8 by decide)] using hM, HF.out.put _ (by decide), hS.set 8 rfl (by omega) (by rw [hz]; exact Nat.le_of_ble_eq_true rfl) (show ([0, 1, 2, 3, 4, 5, 6, 7, 9] : List Nat).Nodup by decide) (show ([41, 42, 43, 44, 40, 45, 46, 8, 9] : List Nat).Nodup by decide), hD.skip (by omega) (by decide)⟩
  intro q_ w' ⟨g8, hM, hF, hS, _⟩
  have hA := hS.all hF (by intro e he; simp only [List.mem_cons, List.not_mem_nil, or_false] at he; rcases he with rfl | rfl | rfl | rfl | rfl | rfl | rfl | rfl | rfl <;> exact Nat.le_of_ble_eq_true rfl) (by intro e he; simp only [List.mem_cons, List.not_mem_nil, or_false] at he; rcases he with rfl | rfl | rfl | rfl | rfl | rfl | rfl | rfl | rfl <;> exact Nat.le_of_ble_eq_true rfl) (show ([41, 42, 43, 44, 40, 45, 46, 8, 9] : List Nat).Nodup by decide)
  subst hA
  simp only [bxL_true (rep_get (show 7 < 10 by decide)), ccL_true (rep_get (show 8 < 10 by decide)), List.singleton_append] at hM
  clear HM
  have HM := Aside0.mk hM
  clear hM hF hS
  simp only [fillAll, List.map_cons, List.map_nil, Act.put, List.setIfInBounds_toArray, List.set_cons_zero, List.set_cons_succ]
  cases b with
  | true =>
    go_wp2_with (first|go_skip|((with_reducible refine' lc HM ?qw rfl ?qx ?qm ?qa ?qv ?_);(case qw|qx|qa=>rfl);(case qm=>repeat constructor);(case qv=>rfl))|((with_reducible refine' la HM ?qw rfl ?qx ?qm ?qa ?_);(case qw|qx=>rfl);(case qm=>repeat constructor);(case qa=>rfl))|((with_reducible refine' pa HM ?qw rfl ?qx _ ?qy ?qm ?qa ?_);(case qw|qx|qy=>rfl);(case qm=>repeat constructor);(case qa=>rfl);clear HM;intro _ HM)|((with_reducible refine' bz HM ?qw rfl ?qa ?qc ?_);(case qw|qa|qc=>rfl);clear HM;intro _ _ HM))
    go_ret
    exact ⟨rfl, HM.out.below⟩
  | false =>
    have hno : lookR rs ps = none := Option.isNone_iff_eq_none.1 (by have := HGE.out.2; rw [← Option.not_isSome, this]; rfl)
    have hgr := HGR.out hno
    have hub := HUB.out
    have hvb := HVB.out
    have d1 : decide (v1 < u1) = false := decide_eq_false (by omega)
    have d2 : decide (v2 < u2) = false := decide_eq_false (by omega)
    have d3 : decide (v3 < u3) = false := decide_eq_false (by omega)
    have d4 : decide (v4 < u4) = false := decide_eq_false (by omega)
    have q1 : decide (u1 ≤ v1) = true := decide_eq_true (by omega)
    have q2 : decide (u2 ≤ v2) = true := decide_eq_true (by omega)
    have q3 : decide (u3 ≤ v3) = true := decide_eq_true (by omega)
    have q4 : decide (u4 ≤ v4) = true := decide_eq_true (by omega)
    have q5 : decide (wrap64 (v1 - u1) ≤ 1048576) = true := decide_eq_true (by rw [w64 (by omega) (by omega)]; omega)
    clear hno hgr hub hvb
    go_upto_region 10 with (first|go_skip|((with_reducible refine' lc HM ?qw rfl ?qx ?qm ?qa ?qv ?_);(case qw|qx|qa=>rfl);(case qm=>repeat constructor);(case qv=>rfl))|((with_reducible refine' la HM ?qw rfl ?qx ?qm ?qa ?_);(case qw|qx=>rfl);(case qm=>repeat constructor);(case qa=>rfl))|((with_reducible refine' pa HM ?qw rfl ?qx _ ?qy ?qm ?qa ?_);(case qw|qx|qy=>rfl);(case qm=>repeat constructor);(case qa=>rfl);clear HM;intro _ HM)|((with_reducible refine' bz HM ?qw rfl ?qa ?qc ?_);(case qw|qa|qc=>rfl);clear HM;intro _ _ HM))
    refine r_relA (n := 14) (fun q0 l q_ w' => ∃ (g2 g6 g10 g11 : Nat) (vv : Value) (X4 : List Bx) (A7 : Option Addr) (c7 : Nat) (A8 : Option Addr) (c8 : Nat), Mem w (fun k => k < w.heap.size) w' ((bxL l 10 (g10, ccL l 12 [Value.int .i64 u1, Value.int .i64 u2, Value.int .i64 u3, Value.int .i64 u4] [.int .i64 0, .int .i64 0, .int .i64 0, .int .i64 0], 23) ++ (bxL l 11 (g11, ccL l 13 [Value.int .i64 v1, Value.int .i64 v2, Value.int .i64 v3, Value.int .i64 v4] [.int .i64 0, .int .i64 0, .int .i64 0, .int .i64 0], 23) ++ (bxL l 6 (g6, th49 x, 49) ++ ((g8, rowL ro, 44) :: (g7, [.slice A rs.length c, .int .i64 n], 35) :: (g3, [.string x.f0, .string x.f1, .int .i64 x.f2, .int .i64 x.f3], 49) :: [])))) ++ owL l 2 4 7 [(g2, [], 49)] X4) (fun w => ((fun w => (Kd.C k49 w A0 xs.length xs ∧ Sr Ap (ps.map mkS) w) ∧ Tr A rs w) w ∧ ck l 7 (Kd.C k49 w A7 (xs ++ [x]).length (xs ++ [x]))) ∧ ck l 8 (Tr A8 l2 w)) ∧ ck l 4 (OwnB 49 4 vv xs.length (cellsX th49 xs) X4) ∧ ck l 8 (l2.length ≤ c8) ∧ Frm q0 q_ [48, 49, 50, 51, 52, 53, 54, 55, 56, 57, 10, 11] ∧ Slots q_ l [(0, 48, Value.agg #[.slice A rs.length c, .int .i64 n]), (1, 49, Value.agg #[Value.int .i64 u1, Value.int .i64 u2, Value.int .i64 u3, Value.int .i64 u4]), (2, 50, Value.slice (some ⟨g2, 0, none⟩) 0 0), (3, 51, Value.slice A0 xs.length c0), (4, 52, vv), (5, 53, Value.agg (th49 x).toArray), (6, 54, Value.slice (some ⟨g6, 0, none⟩) 1 1), (7, 55, Value.slice A7 (xs ++ [x]).length c7), (8, 56, Value.agg #[.slice A8 l2.length c8, .int .i64 n2]), (9, 57, Value.agg #[Value.int .i64 v1, Value.int .i64 v2, Value.int .i64 v3, Value.int .i64 v4]), (10, 10, Value.pointer (some ⟨g10, 0, none⟩)), (11, 11, Value.pointer (some ⟨g11, 0, none⟩))] ∧ Side [(4, 2), (7, 4), (12, 10), (13, 11)] l) (by kernel_rfl) ug6r10Tab (by kernel_rfl) rfl rfl ?_ ?_ ?_
    · refine ⟨0, 0, 0, 0, .bool true, [], none, 0, none, 0, ?_, ck_start, ck_start, Frm.refl _ _, Slots.start, Side.start⟩
      have hM0 := HM.out.drew
      simp only [bxL_false rep_get0, owL_0 rep_get0 rep_get0 rep_get0, List.nil_append, List.append_nil]
      exact hM0.imp (fun w h => ⟨⟨h, ck_start⟩, ck_start⟩)
    rotate_left
    · intro l q_ w' i o hl hi ho hr ⟨g2, g6, g10, g11, vv, X4, A7, c7, A8, c8, hM, hf4, hf8, hF, hS, hD⟩ K hK
      clear HM
      obtain ⟨_, rfl⟩ := Array.getElem?_eq_some_iff.1 ho
      clear ho
      have x0 := hF.get (N:=0) (by decide) (rfl:_=Value.slice A0 xs.length c0)
      have x3 := hF.get (N:=3) (by decide) (rfl:_=Value.pointer (some ⟨g3, 0, none⟩))
      have x7 := hF.get (N:=7) (by decide) (rfl:_=Value.pointer (some ⟨g7, 0, none⟩))
      have hz : q_.tmps.size = _ := hF.z
      have HF := Aside0.mk hF
      clear hF
      have hi2 : i < 14 := hi
      have hc : i = 0 ∨ i = 1 ∨ i = 2 ∨ i = 3 ∨ i = 4 ∨ i = 5 ∨ i = 6 ∨ i = 7 ∨ i = 8 ∨ i = 9 ∨ i = 10 ∨ i = 11 ∨ i = 12 ∨ i = 13 := by omega
      rcases hc with rfl | rfl | rfl | rfl | rfl | rfl | rfl | rfl | rfl | rfl | rfl | rfl | rfl | rfl
      · refine k_all hM (wanted_none rfl) rfl x7 (Has.left _ (Has.app _ (Has.app _ (Has.app _ (by repeat constructor))))) rfl ?_
        refine hK _ _ ⟨g2, g6, g10, g11, vv, X4, A7, c7, A8, c8, ?_, (by simpa only [ck_ne (show (0:Nat) ≠ 4 by decide)] using hf4), (by simpa only [ck_ne (show (0:Nat) ≠ 8 by decide)] using hf8), HF.out.put _ (by decide), hS.step (by omega) (by rw [hz]; exact Nat.le_of_ble_eq_true rfl) (by intro e he h; simp only [List.mem_cons, List.not_mem_nil, or_false] at he; rcases he with rfl | rfl | rfl | rfl | rfl | rfl | rfl | rfl | rfl | rfl | rfl | rfl <;> first | rfl | exact absurd h (Nat.ne_of_beq_eq_false rfl)) (by intro e he h; simp only [List.mem_cons, List.not_mem_nil, or_false] at he ⊢; rcases he with rfl | rfl | rfl | rfl | rfl | rfl | rfl | rfl | rfl | rfl | rfl | rfl <;> first | exact absurd rfl h | exact ⟨by simp, Nat.ne_of_beq_eq_false rfl⟩), hD.skip (by omega) (by decide)⟩
        simpa only [bxL_ne (show (0:Nat) ≠ 10 by decide), bxL_ne (show (0:Nat) ≠ 11 by decide), bxL_ne (show (0:Nat) ≠ 6 by decide), ccL_ne (show (0:Nat) ≠ 12 by decide), ccL_ne (show (0:Nat) ≠ 13 by decide), ck_ne (show (0:Nat) ≠ 7 by decide), ck_ne (show (0:Nat) ≠ 8 by decide), ck_ne (show (0:Nat) ≠ 4 by decide), owL_ne (show (0:Nat) ≠ 2 by decide) (show (0:Nat) ≠ 4 by decide) (show (0:Nat) ≠ 7 by decide)] using hM
      · have x48 := hS.nth 0 rfl (ready_dep hr rfl (show 0 ∈ _ by decide))
        refine goes_ Tryd.func20 (by kernel_rfl) rfl #[Value.agg #[.slice A rs.length c, .int .i64 n]] (wanted_none rfl) rfl rfl (by simp only [List.map_toArray, List.map_cons, List.map_nil, x48]) ?_
        refine (HUU.out _ _ _ hM (fun _ h => h.1.1.2) HC.out).mono ?_
        rintro e w_ ⟨rfl, hM2⟩
        refine ⟨_, rfl, ?_⟩
        refine hK _ _ ⟨g2, g6, g10, g11, vv, X4, A7, c7, A8, c8, ?_, (by simpa only [ck_ne (show (1:Nat) ≠ 4 by decide)] using hf4), (by simpa only [ck_ne (show (1:Nat) ≠ 8 by decide)] using hf8), HF.out.put _ (by decide), hS.step (by omega) (by rw [hz]; exact Nat.le_of_ble_eq_true rfl) (by intro e he h; simp only [List.mem_cons, List.not_mem_nil, or_false] at he; rcases he with rfl | rfl | rfl | rfl | rfl | rfl | rfl | rfl | rfl | rfl | rfl | rfl <;> first | rfl | exact absurd h (Nat.ne_of_beq_eq_false rfl)) (by intro e he h; simp only [List.mem_cons, List.not_mem_nil, or_false] at he ⊢; rcases he with rfl | rfl | rfl | rfl | rfl | rfl | rfl | rfl | rfl | rfl | rfl | rfl <;> first | exact absurd rfl h | exact ⟨by simp, Nat.ne_of_beq_eq_false rfl⟩), hD.skip (by omega) (by decide)⟩
        simpa only [bxL_ne (show (1:Nat) ≠ 10 by decide), bxL_ne (show (1:Nat) ≠ 11 by decide), bxL_ne (show (1:Nat) ≠ 6 by decide), ccL_ne (show (1:Nat) ≠ 12 by decide), ccL_ne (show (1:Nat) ≠ 13 by decide), ck_ne (show (1:Nat) ≠ 7 by decide), ck_ne (show (1:Nat) ≠ 8 by decide), ck_ne (show (1:Nat) ≠ 4 by decide), owL_ne (show (1:Nat) ≠ 2 by decide) (show (1:Nat) ≠ 4 by decide) (show (1:Nat) ≠ 7 by decide)] using hM2
      · have f2 := get_tf (by omega) (ready_self hr)
        have f4 : l.getD 4 false = false := hD.no (j:=2) (by decide) f2
        have f7 : l.getD 7 false = false := hD.no (j:=4) (by decide) f4
        simp only [owL_0 f2 f4 f7, List.append_nil] at hM
        refine k_bs0 hM (wanted_none rfl) rfl ?_
        intro gN w_ hM2
        refine hK _ _ ⟨gN, g6, g10, g11, vv, X4, A7, c7, A8, c8, ?_, (by simpa only [ck_ne (show (2:Nat) ≠ 4 by decide)] using hf4), (by simpa only [ck_ne (show (2:Nat) ≠ 8 by decide)] using hf8), HF.out.put _ (by decide), hS.step (by omega) (by rw [hz]; exact Nat.le_of_ble_eq_true rfl) (by intro e he h; simp only [List.mem_cons, List.not_mem_nil, or_false] at he; rcases he with rfl | rfl | rfl | rfl | rfl | rfl | rfl | rfl | rfl | rfl | rfl | rfl <;> first | rfl | exact absurd h (Nat.ne_of_beq_eq_false rfl)) (by intro e he h; simp only [List.mem_cons, List.not_mem_nil, or_false] at he ⊢; rcases he with rfl | rfl | rfl | rfl | rfl | rfl | rfl | rfl | rfl | rfl | rfl | rfl <;> first | exact absurd rfl h | exact ⟨by simp, Nat.ne_of_beq_eq_false rfl⟩), hD.skip (by omega) (by decide)⟩
        simp only [bxL_ne (show (2:Nat) ≠ 10 by decide), bxL_ne (show (2:Nat) ≠ 11 by decide), bxL_ne (show (2:Nat) ≠ 6 by decide), ccL_ne (show (2:Nat) ≠ 12 by decide), ccL_ne (show (2:Nat) ≠ 13 by decide), ck_ne (show (2:Nat) ≠ 7 by decide), ck_ne (show (2:Nat) ≠ 8 by decide), ck_ne (show (2:Nat) ≠ 4 by decide), owL_2 (set_get_eq (show 2 < l.length by omega)) ((set_get_ne (show (2:Nat) ≠ 4 by decide)).trans f4) ((set_get_ne (show (2:Nat) ≠ 7 by decide)).trans f7)]
        exact hM2.perm (List.perm_append_comm (l₁ := [_]))
      · refine k_mv (Value.slice A0 xs.length c0) (wanted_none rfl) (by first|exact .inl rfl|exact .inr rfl) x0 ?_
        refine hK _ _ ⟨g2, g6, g10, g11, vv, X4, A7, c7, A8, c8, ?_, (by simpa only [ck_ne (show (3:Nat) ≠ 4 by decide)] using hf4), (by simpa only [ck_ne (show (3:Nat) ≠ 8 by decide)] using hf8), HF.out.put _ (by decide), hS.step (by omega) (by rw [hz]; exact Nat.le_of_ble_eq_true rfl) (by intro e he h; simp only [List.mem_cons, List.not_mem_nil, or_false] at he; rcases he with rfl | rfl | rfl | rfl | rfl | rfl | rfl | rfl | rfl | rfl | rfl | rfl <;> first | rfl | exact absurd h (Nat.ne_of_beq_eq_false rfl)) (by intro e he h; simp only [List.mem_cons, List.not_mem_nil, or_false] at he ⊢; rcases he with rfl | rfl | rfl | rfl | rfl | rfl | rfl | rfl | rfl | rfl | rfl | rfl <;> first | exact absurd rfl h | exact ⟨by simp, Nat.ne_of_beq_eq_false rfl⟩), hD.skip (by omega) (by decide)⟩
        simpa only [bxL_ne (show (3:Nat) ≠ 10 by decide), bxL_ne (show (3:Nat) ≠ 11 by decide), bxL_ne (show (3:Nat) ≠ 6 by decide), ccL_ne (show (3:Nat) ≠ 12 by decide), ccL_ne (show (3:Nat) ≠ 13 by decide), ck_ne (show (3:Nat) ≠ 7 by decide), ck_ne (show (3:Nat) ≠ 8 by decide), ck_ne (show (3:Nat) ≠ 4 by decide), owL_ne (show (3:Nat) ≠ 2 by decide) (show (3:Nat) ≠ 4 by decide) (show (3:Nat) ≠ 7 by decide)] using hM
      · have f4 := get_tf (by omega) (ready_self hr)
        have f7 : l.getD 7 false = false := hD.no (j:=4) (by decide) f4
        have t2 := ready_dep hr rfl (show 2 ∈ _ by decide)
        have x50 := hS.nth 2 rfl (ready_dep hr rfl (show 2 ∈ _ by decide))
        have x51 := hS.nth 3 rfl (ready_dep hr rfl (show 3 ∈ _ by decide))
        simp only [owL_2 t2 f4 f7] at hM
        obtain ⟨v', X', w1, hrun, hO, hM2⟩ := append49 (ty := 32) (xs := []) (ys := xs) (c := c0) hM (.inr ⟨g2, 0, [], rfl, rfl, rfl, rfl, Nat.le_refl _, Nat.zero_le _⟩) (from_C sx49 hM.now.1.1.1.1) (by have := HX.out; simp only [List.length_nil]; omega)
        refine k_app (wanted_none rfl) rfl x50 x51 hrun ?_
        refine hK _ _ ⟨g2, g6, g10, g11, v', X', A7, c7, A8, c8, ?_, fun _ => hO, (by simpa only [ck_ne (show (4:Nat) ≠ 8 by decide)] using hf8), HF.out.put _ (by decide), hS.step (by omega) (by rw [hz]; exact Nat.le_of_ble_eq_true rfl) (by intro e he h; simp only [List.mem_cons, List.not_mem_nil, or_false] at he; rcases he with rfl | rfl | rfl | rfl | rfl | rfl | rfl | rfl | rfl | rfl | rfl | rfl <;> first | rfl | exact absurd h (Nat.ne_of_beq_eq_false rfl)) (by intro e he h; simp only [List.mem_cons, List.not_mem_nil, or_false] at he ⊢; rcases he with rfl | rfl | rfl | rfl | rfl | rfl | rfl | rfl | rfl | rfl | rfl | rfl <;> first | exact absurd rfl h | exact ⟨by simp, Nat.ne_of_beq_eq_false rfl⟩), hD.step (by omega) (by intro p hp e; simp only [List.mem_cons, List.not_mem_nil, or_false] at hp; rcases hp with rfl | rfl | rfl | rfl <;> first | exact absurd e (by decide) | exact ready_dep hr rfl (show 2 ∈ _ by decide))⟩
        simp only [bxL_ne (show (4:Nat) ≠ 10 by decide), bxL_ne (show (4:Nat) ≠ 11 by decide), bxL_ne (show (4:Nat) ≠ 6 by decide), ccL_ne (show (4:Nat) ≠ 12 by decide), ccL_ne (show (4:Nat) ≠ 13 by decide), ck_ne (show (4:Nat) ≠ 7 by decide), ck_ne (show (4:Nat) ≠ 8 by decide), owL_4 (set_get_eq (show 4 < l.length by omega)) ((set_get_ne (show (4:Nat) ≠ 7 by decide)).trans f7)]
        exact hM2
      · refine k_all hM (wanted_none rfl) rfl x3 (Has.left _ (Has.app _ (Has.app _ (Has.app _ (by repeat constructor))))) rfl ?_
        refine hK _ _ ⟨g2, g6, g10, g11, vv, X4, A7, c7, A8, c8, ?_, (by simpa only [ck_ne (show (5:Nat) ≠ 4 by decide)] using hf4), (by simpa only [ck_ne (show (5:Nat) ≠ 8 by decide)] using hf8), HF.out.put _ (by decide), hS.step (by omega) (by rw [hz]; exact Nat.le_of_ble_eq_true rfl) (by intro e he h; simp only [List.mem_cons, List.not_mem_nil, or_false] at he; rcases he with rfl | rfl | rfl | rfl | rfl | rfl | rfl | rfl | rfl | rfl | rfl | rfl <;> first | rfl | exact absurd h (Nat.ne_of_beq_eq_false rfl)) (by intro e he h; simp only [List.mem_cons, List.not_mem_nil, or_false] at he ⊢; rcases he with rfl | rfl | rfl | rfl | rfl | rfl | rfl | rfl | rfl | rfl | rfl | rfl <;> first | exact absurd rfl h | exact ⟨by simp, Nat.ne_of_beq_eq_false rfl⟩), hD.skip (by omega) (by decide)⟩
        simpa only [bxL_ne (show (5:Nat) ≠ 10 by decide), bxL_ne (show (5:Nat) ≠ 11 by decide), bxL_ne (show (5:Nat) ≠ 6 by decide), ccL_ne (show (5:Nat) ≠ 12 by decide), ccL_ne (show (5:Nat) ≠ 13 by decide), ck_ne (show (5:Nat) ≠ 7 by decide), ck_ne (show (5:Nat) ≠ 8 by decide), ck_ne (show (5:Nat) ≠ 4 by decide), owL_ne (show (5:Nat) ≠ 2 by decide) (show (5:Nat) ≠ 4 by decide) (show (5:Nat) ≠ 7 by decide)] using hM
      · have f6 := get_tf (by omega) (ready_self hr)
        have x53 := hS.nth 5 rfl (ready_dep hr rfl (show 5 ∈ _ by decide))
        simp only [bxL_false f6, List.nil_append] at hM
        refine k_bs1 hM (wanted_none rfl) rfl x53 ?_
        intro gN w_ hM2
        refine hK _ _ ⟨g2, gN, g10, g11, vv, X4, A7, c7, A8, c8, ?_, (by simpa only [ck_ne (show (6:Nat) ≠ 4 by decide)] using hf4), (by simpa only [ck_ne (show (6:Nat) ≠ 8 by decide)] using hf8), HF.out.put _ (by decide), hS.step (by omega) (by rw [hz]; exact Nat.le_of_ble_eq_true rfl) (by intro e he h; simp only [List.mem_cons, List.not_mem_nil, or_false] at he; rcases he with rfl | rfl | rfl | rfl | rfl | rfl | rfl | rfl | rfl | rfl | rfl | rfl <;> first | rfl | exact absurd h (Nat.ne_of_beq_eq_false rfl)) (by intro e he h; simp only [List.mem_cons, List.not_mem_nil, or_false] at he ⊢; rcases he with rfl | rfl | rfl | rfl | rfl | rfl | rfl | rfl | rfl | rfl | rfl | rfl <;> first | exact absurd rfl h | exact ⟨by simp, Nat.ne_of_beq_eq_false rfl⟩), hD.skip (by omega) (by decide)⟩
        simp only [bxL_ne (show (6:Nat) ≠ 10 by decide), bxL_ne (show (6:Nat) ≠ 11 by decide), ccL_ne (show (6:Nat) ≠ 12 by decide), ccL_ne (show (6:Nat) ≠ 13 by decide), ck_ne (show (6:Nat) ≠ 7 by decide), ck_ne (show (6:Nat) ≠ 8 by decide), ck_ne (show (6:Nat) ≠ 4 by decide), owL_ne (show (6:Nat) ≠ 2 by decide) (show (6:Nat) ≠ 4 by decide) (show (6:Nat) ≠ 7 by decide), bxL_true (set_get_eq (show 6 < l.length by omega)), List.singleton_append]
        exact hM2.perm ((perm_mid2 _ _ _ _).append_right _)
      · have f7 := get_tf (by omega) (ready_self hr)
        have t4 := ready_dep hr rfl (show 4 ∈ _ by decide)
        have t6 := ready_dep hr rfl (show 6 ∈ _ by decide)
        have x52 := hS.nth 4 rfl (ready_dep hr rfl (show 4 ∈ _ by decide))
        have x54 := hS.nth 6 rfl (ready_dep hr rfl (show 6 ∈ _ by decide))
        simp only [owL_4 t4 f7] at hM
        have hb6 := (hM.box (g6, th49 x, 49) (by simp only [bxL_true t6]; simp)).1
        obtain ⟨v', X', w1, hrun, hO, hM2⟩ := append49 (ty := 32) (ys := [x]) (c := 1) hM (hf4 t4) (.inl ⟨⟨g6, 0, none⟩, rfl, fun j u hj => (own_cell hb6 j).trans (by simpa [cellsX] using hj)⟩) (by have := HX.out; simp only [List.length_cons, List.length_nil]; omega)
        obtain ⟨A9, c9, rfl, hc9, hM3⟩ := handX sx49 hM2 hO
        refine k_app (wanted_none rfl) rfl x52 x54 hrun ?_
        refine hK _ _ ⟨g2, g6, g10, g11, vv, X4, A9, c9, A8, c8, ?_, (by simpa only [ck_ne (show (7:Nat) ≠ 4 by decide)] using hf4), (by simpa only [ck_ne (show (7:Nat) ≠ 8 by decide)] using hf8), HF.out.put _ (by decide), hS.step (by omega) (by rw [hz]; exact Nat.le_of_ble_eq_true rfl) (by intro e he h; simp only [List.mem_cons, List.not_mem_nil, or_false] at he; rcases he with rfl | rfl | rfl | rfl | rfl | rfl | rfl | rfl | rfl | rfl | rfl | rfl <;> first | rfl | exact absurd h (Nat.ne_of_beq_eq_false rfl)) (by intro e he h; simp only [List.mem_cons, List.not_mem_nil, or_false] at he ⊢; rcases he with rfl | rfl | rfl | rfl | rfl | rfl | rfl | rfl | rfl | rfl | rfl | rfl <;> first | exact absurd rfl h | exact ⟨by simp, Nat.ne_of_beq_eq_false rfl⟩), hD.step (by omega) (by intro p hp e; simp only [List.mem_cons, List.not_mem_nil, or_false] at hp; rcases hp with rfl | rfl | rfl | rfl <;> first | exact absurd e (by decide) | exact ready_dep hr rfl (show 4 ∈ _ by decide))⟩
        simp only [bxL_ne (show (7:Nat) ≠ 10 by decide), bxL_ne (show (7:Nat) ≠ 11 by decide), bxL_ne (show (7:Nat) ≠ 6 by decide), ccL_ne (show (7:Nat) ≠ 12 by decide), ccL_ne (show (7:Nat) ≠ 13 by decide), ck_ne (show (7:Nat) ≠ 8 by decide), ck_ne (show (7:Nat) ≠ 4 by decide), owL_7 (set_get_eq (show 7 < l.length by omega)), List.append_nil]
        exact hM3.imp (fun w h => ⟨⟨h.1.1.1, fun _ => h.2⟩, h.1.2⟩)
      · have x55 := hS.nth 7 rfl (ready_dep hr rfl (show 7 ∈ _ by decide))
        refine goes_ Tryd.func19 (by kernel_rfl) rfl #[Value.slice A7 (xs ++ [x]).length c7] (wanted_none rfl) rfl rfl (by simp only [List.map_toArray, List.map_cons, List.map_nil, x55]) ?_
        refine (HPL2.out _ _ _ hM (fun _ h => h.1.2 (ready_dep hr rfl (show 7 ∈ _ by decide)))).mono ?_
        rintro e w_ ⟨A9, c9, rfl, hc9, hM2⟩
        refine ⟨_, rfl, ?_⟩
        refine hK _ _ ⟨g2, g6, g10, g11, vv, X4, A7, c7, A9, c9, ?_, (by simpa only [ck_ne (show (8:Nat) ≠ 4 by decide)] using hf4), fun _ => hc9, HF.out.put _ (by decide), hS.step (by omega) (by rw [hz]; exact Nat.le_of_ble_eq_true rfl) (by intro e he h; simp only [List.mem_cons, List.not_mem_nil, or_false] at he; rcases he with rfl | rfl | rfl | rfl | rfl | rfl | rfl | rfl | rfl | rfl | rfl | rfl <;> first | rfl | exact absurd h (Nat.ne_of_beq_eq_false rfl)) (by intro e he h; simp only [List.mem_cons, List.not_mem_nil, or_false] at he ⊢; rcases he with rfl | rfl | rfl | rfl | rfl | rfl | rfl | rfl | rfl | rfl | rfl | rfl <;> first | exact absurd rfl h | exact ⟨by simp, Nat.ne_of_beq_eq_false rfl⟩), hD.skip (by omega) (by decide)⟩
        simp only [bxL_ne (show (8:Nat) ≠ 10 by decide), bxL_ne (show (8:Nat) ≠ 11 by decide), bxL_ne (show (8:Nat) ≠ 6 by decide), ccL_ne (show (8:Nat) ≠ 12 by decide), ccL_ne (show (8:Nat) ≠ 13 by decide), ck_ne (show (8:Nat) ≠ 7 by decide), ck_ne (show (8:Nat) ≠ 4 by decide), owL_ne (show (8:Nat) ≠ 2 by decide) (show (8:Nat) ≠ 4 by decide) (show (8:Nat) ≠ 7 by decide)]
        exact hM2.imp (fun w h => ⟨h.1.1, fun _ => h.2⟩)
      · have x56 := hS.nth 8 rfl (ready_dep hr rfl (show 8 ∈ _ by decide))
        refine goes_ Tryd.func20 (by kernel_rfl) rfl #[Value.agg #[.slice A8 l2.length c8, .int .i64 n2]] (wanted_none rfl) rfl rfl (by simp only [List.map_toArray, List.map_cons, List.map_nil, x56]) ?_
        refine (HUV.out _ _ _ hM (fun _ h => h.2 (ready_dep hr rfl (show 8 ∈ _ by decide))) (hf8 (ready_dep hr rfl (show 8 ∈ _ by decide)))).mono ?_
        rintro e w_ ⟨rfl, hM2⟩
        refine ⟨_, rfl, ?_⟩
        refine hK _ _ ⟨g2, g6, g10, g11, vv, X4, A7, c7, A8, c8, ?_, (by simpa only [ck_ne (show (9:Nat) ≠ 4 by decide)] using hf4), (by simpa only [ck_ne (show (9:Nat) ≠ 8 by decide)] using hf8), HF.out.put _ (by decide), hS.step (by omega) (by rw [hz]; exact Nat.le_of_ble_eq_true rfl) (by intro e he h; simp only [List.mem_cons, List.not_mem_nil, or_false] at he; rcases he with rfl | rfl | rfl | rfl | rfl | rfl | rfl | rfl | rfl | rfl | rfl | rfl <;> first | rfl | exact absurd h (Nat.ne_of_beq_eq_false rfl)) (by intro e he h; simp only [List.mem_cons, List.not_mem_nil, or_false] at he ⊢; rcases he with rfl | rfl | rfl | rfl | rfl | rfl | rfl | rfl | rfl | rfl | rfl | rfl <;> first | exact absurd rfl h | exact ⟨by simp, Nat.ne_of_beq_eq_false rfl⟩), hD.skip (by omega) (by decide)⟩
        simpa only [bxL_ne (show (9:Nat) ≠ 10 by decide), bxL_ne (show (9:Nat) ≠ 11 by decide), bxL_ne (show (9:Nat) ≠ 6 by decide), ccL_ne (show (9:Nat) ≠ 12 by decide), ccL_ne (show (9:Nat) ≠ 13 by decide), ck_ne (show (9:Nat) ≠ 7 by decide), ck_ne (show (9:Nat) ≠ 8 by decide), ck_ne (show (9:Nat) ≠ 4 by decide), owL_ne (show (9:Nat) ≠ 2 by decide) (show (9:Nat) ≠ 4 by decide) (show (9:Nat) ≠ 7 by decide)] using hM2
      · have f0 := get_tf (by omega) (ready_self hr)
        have f1 : l.getD 12 false = false := hD.no (j:=10) (by decide) f0
        simp only [bxL_false f0, List.nil_append] at hM
        refine k_zero hM (wanted_none rfl) rfl rfl rfl ?_
        intro gN w_ hM2
        refine hK _ _ ⟨g2, g6, gN, g11, vv, X4, A7, c7, A8, c8, ?_, (by simpa only [ck_ne (show (10:Nat) ≠ 4 by decide)] using hf4), (by simpa only [ck_ne (show (10:Nat) ≠ 8 by decide)] using hf8), HF.out.put _ (by decide), hS.step (by omega) (by rw [hz]; exact Nat.le_of_ble_eq_true rfl) (by intro e he h; simp only [List.mem_cons, List.not_mem_nil, or_false] at he; rcases he with rfl | rfl | rfl | rfl | rfl | rfl | rfl | rfl | rfl | rfl | rfl | rfl <;> first | rfl | exact absurd h (Nat.ne_of_beq_eq_false rfl)) (by intro e he h; simp only [List.mem_cons, List.not_mem_nil, or_false] at he ⊢; rcases he with rfl | rfl | rfl | rfl | rfl | rfl | rfl | rfl | rfl | rfl | rfl | rfl <;> first | exact absurd rfl h | exact ⟨by simp, Nat.ne_of_beq_eq_false rfl⟩), hD.skip (by omega) (by decide)⟩
        simp only [bxL_ne (show (10:Nat) ≠ 11 by decide), bxL_ne (show (10:Nat) ≠ 6 by decide), ccL_ne (show (10:Nat) ≠ 12 by decide), ccL_ne (show (10:Nat) ≠ 13 by decide), ck_ne (show (10:Nat) ≠ 7 by decide), ck_ne (show (10:Nat) ≠ 8 by decide), ck_ne (show (10:Nat) ≠ 4 by decide), owL_ne (show (10:Nat) ≠ 2 by decide) (show (10:Nat) ≠ 4 by decide) (show (10:Nat) ≠ 7 by decide), bxL_true (set_get_eq (show 10 < l.length by omega)), ccL_false f1, List.singleton_append]
        exact hM2
      · have f0 := get_tf (by omega) (ready_self hr)
        have f1 : l.getD 13 false = false := hD.no (j:=11) (by decide) f0
        simp only [bxL_false f0, List.nil_append] at hM
        refine k_zero hM (wanted_none rfl) rfl rfl rfl ?_
        intro gN w_ hM2
        refine hK _ _ ⟨g2, g6, g10, gN, vv, X4, A7, c7, A8, c8, ?_, (by simpa only [ck_ne (show (11:Nat) ≠ 4 by decide)] using hf4), (by simpa only [ck_ne (show (11:Nat) ≠ 8 by decide)] using hf8), HF.out.put _ (by decide), hS.step (by omega) (by rw [hz]; exact Nat.le_of_ble_eq_true rfl) (by intro e he h; simp only [List.mem_cons, List.not_mem_nil, or_false] at he; rcases he with rfl | rfl | rfl | rfl | rfl | rfl | rfl | rfl | rfl | rfl | rfl | rfl <;> first | rfl | exact absurd h (Nat.ne_of_beq_eq_false rfl)) (by intro e he h; simp only [List.mem_cons, List.not_mem_nil, or_false] at he ⊢; rcases he with rfl | rfl | rfl | rfl | rfl | rfl | rfl | rfl | rfl | rfl | rfl | rfl <;> first | exact absurd rfl h | exact ⟨by simp, Nat.ne_of_beq_eq_false rfl⟩), hD.skip (by omega) (by decide)⟩
        simp only [bxL_ne (show (11:Nat) ≠ 10 by decide), bxL_ne (show (11:Nat) ≠ 6 by decide), ccL_ne (show (11:Nat) ≠ 12 by decide), ccL_ne (show (11:Nat) ≠ 13 by decide), ck_ne (show (11:Nat) ≠ 7 by decide), ck_ne (show (11:Nat) ≠ 8 by decide), ck_ne (show (11:Nat) ≠ 4 by decide), owL_ne (show (11:Nat) ≠ 2 by decide) (show (11:Nat) ≠ 4 by decide) (show (11:Nat) ≠ 7 by decide), bxL_true (set_get_eq (show 11 < l.length by omega)), ccL_false f1, List.singleton_append]
        exact hM2.perm (List.perm_middle.symm.append_right _)
      · have f0 := get_tf (by omega) (ready_self hr)
        have q10 := ready_dep hr rfl (show 10 ∈ _ by decide)
        have q11 := ready_dep hr rfl (show 11 ∈ _ by decide)
        have x10 := hS.nth 10 rfl (ready_dep hr rfl (show 10 ∈ _ by decide))
        have x49 := hS.nth 1 rfl (ready_dep hr rfl (show 1 ∈ _ by decide))
        simp only [bxL_true q10, bxL_true q11, ccL_false f0, List.singleton_append, List.cons_append] at hM
        refine k_put hM (wanted_none rfl) rfl rfl x10 _ x49 (by repeat constructor) rfl ?_
        intro w_ hM2
        refine hK _ _ ⟨g2, g6, g10, g11, vv, X4, A7, c7, A8, c8, ?_, (by simpa only [ck_ne (show (12:Nat) ≠ 4 by decide)] using hf4), (by simpa only [ck_ne (show (12:Nat) ≠ 8 by decide)] using hf8), HF.out, hS.keep (by intro e he; simp only [List.mem_cons, List.not_mem_nil, or_false] at he; rcases he with rfl | rfl | rfl | rfl | rfl | rfl | rfl | rfl | rfl | rfl | rfl | rfl <;> exact Nat.ne_of_beq_eq_false rfl), hD.step (by omega) (by intro p hp e; simp only [List.mem_cons, List.not_mem_nil, or_false] at hp; rcases hp with rfl | rfl | rfl | rfl <;> first | exact absurd e (by decide) | exact ready_dep hr rfl (show 10 ∈ _ by decide))⟩
        simp only [bxL_ne (show (12:Nat) ≠ 10 by decide), bxL_ne (show (12:Nat) ≠ 11 by decide), bxL_ne (show (12:Nat) ≠ 6 by decide), ccL_ne (show (12:Nat) ≠ 13 by decide), ck_ne (show (12:Nat) ≠ 7 by decide), ck_ne (show (12:Nat) ≠ 8 by decide), ck_ne (show (12:Nat) ≠ 4 by decide), owL_ne (show (12:Nat) ≠ 2 by decide) (show (12:Nat) ≠ 4 by decide) (show (12:Nat) ≠ 7 by decide), ccL_true (set_get_eq (show 12 < l.length by omega)), bxL_true q10, bxL_true q11, List.singleton_append, List.cons_append]
        exact hM2
      · have f0 := get_tf (by omega) (ready_self hr)
        have q10 := ready_dep hr rfl (show 10 ∈ _ by decide)
        have q11 := ready_dep hr rfl (show 11 ∈ _ by decide)
        have x11 := hS.nth 11 rfl (ready_dep hr rfl (show 11 ∈ _ by decide))
        have x57 := hS.nth 9 rfl (ready_dep hr rfl (show 9 ∈ _ by decide))
        simp only [bxL_true q10, bxL_true q11, ccL_false f0, List.singleton_append, List.cons_append] at hM
        refine k_put hM (wanted_none rfl) rfl rfl x11 _ x57 (by repeat constructor) rfl ?_
        intro w_ hM2
        refine hK _ _ ⟨g2, g6, g10, g11, vv, X4, A7, c7, A8, c8, ?_, (by simpa only [ck_ne (show (13:Nat) ≠ 4 by decide)] using hf4), (by simpa only [ck_ne (show (13:Nat) ≠ 8 by decide)] using hf8), HF.out, hS.keep (by intro e he; simp only [List.mem_cons, List.not_mem_nil, or_false] at he; rcases he with rfl | rfl | rfl | rfl | rfl | rfl | rfl | rfl | rfl | rfl | rfl | rfl <;> exact Nat.ne_of_beq_eq_false rfl), hD.step (by omega) (by intro p hp e; simp only [List.mem_cons, List.not_mem_nil, or_false] at hp; rcases hp with rfl | rfl | rfl | rfl <;> first | exact absurd e (by decide) | exact ready_dep hr rfl (show 11 ∈ _ by decide))⟩
        simp only [bxL_ne (show (13:Nat) ≠ 10 by decide), bxL_ne (show (13:Nat) ≠ 11 by decide), bxL_ne (show (13:Nat) ≠ 6 by decide), ccL_ne (show (13:Nat) ≠ 12 by decide), ck_ne (show (13:Nat) ≠ 7 by decide), ck_ne (show (13:Nat) ≠ 8 by decide), ck_ne (show (13:Nat) ≠ 4 by decide), owL_ne (show (13:Nat) ≠ 2 by decide) (show (13:Nat) ≠ 4 by decide) (show (13:Nat) ≠ 7 by decide), ccL_true (set_get_eq (show 13 < l.length by omega)), bxL_true q10, bxL_true q11, List.singleton_append, List.cons_append]
        exact hM2
    intro q_ w' ⟨g2, g6, g10, g11, vv, X4, A7, c7, A8, c8, hM, _, _, hF, hS, _⟩
    have hA := hS.all hF (by intro e he; simp only [List.mem_cons, List.not_mem_nil, or_false] at he; rcases he with rfl | rfl | rfl | rfl | rfl | rfl | rfl | rfl | rfl | rfl | rfl | rfl <;> exact Nat.le_of_ble_eq_true rfl) (by intro e he; simp only [List.mem_cons, List.not_mem_nil, or_false] at he; rcases he with rfl | rfl | rfl | rfl | rfl | rfl | rfl | rfl | rfl | rfl | rfl | rfl <;> exact Nat.le_of_ble_eq_true rfl) (show ([48, 49, 50, 51, 52, 53, 54, 55, 56, 57, 10, 11] : List Nat).Nodup by decide)
    subst hA
    simp only [bxL_true (rep_get (show 10 < 14 by decide)), bxL_true (rep_get (show 11 < 14 by decide)), bxL_true (rep_get (show 6 < 14 by decide)), ccL_true (rep_get (show 12 < 14 by decide)), ccL_true (rep_get (show 13 < 14 by decide)), owL_7 (rep_get (show 7 < 14 by decide)), List.append_nil, List.singleton_append] at hM
    clear HM
    have HM := Aside0.mk (hM.imp (fun w h => h.1.1))
    clear hM hF hS
    simp only [fillAll, List.map_cons, List.map_nil, Act.put, List.setIfInBounds_toArray, List.set_cons_zero, List.set_cons_succ]
    go_wp2_with (first|go_skip|((with_reducible refine' lc HM ?qw rfl ?qx ?qm ?qa ?qv ?_);(case qw|qx|qa=>rfl);(case qm=>repeat constructor);(case qv=>rfl))|((with_reducible refine' la HM ?qw rfl ?qx ?qm ?qa ?_);(case qw|qx=>rfl);(case qm=>repeat constructor);(case qa=>rfl))|((with_reducible refine' pa HM ?qw rfl ?qx _ ?qy ?qm ?qa ?_);(case qw|qx|qy=>rfl);(case qm=>repeat constructor);(case qa=>rfl);clear HM;intro _ HM)|((with_reducible refine' bz HM ?qw rfl ?qa ?qc ?_);(case qw|qa|qc=>rfl);clear HM;intro _ _ HM))
    go_ret
    exact ⟨rfl, HM.out.below⟩
end Go.Proofs.YtolpamojbiipaaaDoor.XA
