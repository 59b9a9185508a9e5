/- MergeTwice's walk over Mem. Printed by wip/tools. -/
import Derived.Test.YtolpamojbiipaaaDoorEMemMerge
import Derived.Test.YtolpamojbiipaaaDoorEMemS
import Derived.Test.YtolpamojbiipaaaDoorUTwice
import Derived.Test.YtolpamojbiipaaaDoorXA1
namespace Go.Proofs.YtolpamojbiipaaaDoor.XA
open Go.RowKit Go.Proofs.YtolpamojbiipaaaDoorW.PrintWords Go.Proofs.YtolpamojbiipaaaDoorW.PrintLast Go.Proofs.YtolpamojbiipaaaDoorW.PrintMore Go.Proofs.YtolpamojbiipaaaDoor.Mem Go.Proofs.YtolpamojbiipaaaDoor.Pure
attribute [local go_sem high] eqA23
set_option linter.unusedVariables false
set_option linter.unusedSimpArgs false

def twr11T : Bool × List (List Nat × List Nat) := (true, [([], []), ([0], [0]), ([1], [1]), ([2], [2]), ([3, 2], [2, 3]), ([4, 2], [2, 4]), ([2], [2]), ([6, 2], [2, 6]), ([7, 2], [2, 7]), ([5, 8, 2], [2, 5, 8]), ([2, 9], [2, 9]), ([10, 2], [10]), ([11], [11]), ([12, 11, 11], [11, 12]), ([11], [11]), ([14, 13, 11], [11, 14]), ([13, 15, 11], [11, 13, 15]), ([11, 16], [11, 16])])
def twr11B : List Nat := [0, 1, 3, 7, 15, 31, 7, 71, 199, 511, 1023, 2047, 4095, 8191, 4095, 32767, 65535, 131071]
theorem twr11Tab : rtab .any (opsOf Tryd.f13 11) = twr11T := by kernel_rfl
theorem twr11Bits : waitsOk twr11T.2 twr11B = true := by kernel_rfl
def twr16T : Bool × List (List Nat × List Nat) := (true, [([], []), ([0], [0]), ([], []), ([1, 2], [1, 2]), ([3], [3]), ([4], [4]), ([], []), ([6], [6]), ([], []), ([7, 8], [7, 8]), ([9], [9]), ([10], [10]), ([5, 11], [5, 11]), ([12], [12]), ([13], [13]), ([14, 13], [13, 14]), ([13], [13]), ([15, 16, 13], [13, 15, 16]), ([17, 13], [13, 17]), ([18, 13], [13, 18]), ([19, 13], [13, 19]), ([13], [13]), ([21, 13], [13, 21]), ([13], [13]), ([22, 23, 13], [13, 22, 23]), ([24, 13], [13, 24]), ([25, 13], [13, 25]), ([26, 13], [13, 26]), ([20, 27, 13], [13, 20, 27]), ([13, 28], [13, 28]), ([29, 13], [29]), ([30], [30]), ([31, 30], [30, 31]), ([30], [30]), ([32, 33, 30], [30, 32, 33]), ([34, 30], [30, 34]), ([35, 30], [30, 35]), ([36, 30], [30, 36]), ([30], [30]), ([38, 30], [30, 38]), ([30], [30]), ([39, 40, 30], [30, 39, 40]), ([41, 30], [30, 41]), ([42, 30], [30, 42]), ([43, 30], [30, 43]), ([37, 44, 30], [30, 37, 44]), ([30, 45], [30, 45])])
def twr16B : List Nat := [0, 1, 0, 7, 15, 31, 0, 64, 0, 448, 960, 1984, 4095, 8191, 16383, 32767, 16383, 131071, 262143, 524287, 1048575, 16383, 2113535, 16383, 14696447, 31473663, 65028095, 132136959, 268435455, 536870911, 1073741823, 2147483647, 4294967295, 2147483647, 17179869183, 34359738367, 68719476735, 137438953471, 2147483647, 277025390591, 2147483647, 1926292832255, 4125316087807, 8523362598911, 17319455621119, 35184372088831, 70368744177663]
theorem twr16Tab : rtab .any (opsOf Tryd.f13 16) = twr16T := by kernel_rfl
theorem twr16Bits : waitsOk twr16T.2 twr16B = true := by kernel_rfl
def twr19T : Bool × List (List Nat × List Nat) := (true, [([], []), ([], []), ([0, 1], [0, 1]), ([2], [2]), ([], []), ([4, 2], [4]), ([3, 5], [3, 5]), ([6, 5, 0, 1, 2, 3, 4, 5, 6], [6])])
def twr19B : List Nat := [0, 0, 3, 7, 0, 23, 63, 127]
theorem twr19Tab : rtab .any (opsOf Tryd.f13 19) = twr19T := by kernel_rfl
theorem twr19Bits : waitsOk twr19T.2 twr19B = true := by kernel_rfl
set_option maxHeartbeats 8000000 in
set_option maxRecDepth 100000 in
theorem MergeTwice_walk (w : World) (HG0 : GG w) (A0 : Option Addr) (c0 : Nat) (xs : List S104) (hr0 : Kd.C k104 w A0 xs.length xs) (hm0 : xs.length ≤ 9223372036854775807) (hw0 : ∀ x ∈ xs, ((Lit.int .i64 x.f0).wf = true ∧ (Lit.int .i64 x.f1).wf = true ∧ x.f2.size ≤ 9223372036854775807 ∧ x.f3.size ≤ 9223372036854775807)) (A1 : Option Addr) (c1 : Nat) (ys : List S104) (hr1 : Kd.C k104 w A1 ys.length ys) (hm1 : ys.length ≤ 9223372036854775807) (hw1 : ∀ x ∈ ys, ((Lit.int .i64 x.f0).wf = true ∧ (Lit.int .i64 x.f1).wf = true ∧ x.f2.size ≤ 9223372036854775807 ∧ x.f3.size ≤ 9223372036854775807)) :
    Calls Tryd.prog 13 #[.slice A0 xs.length c0, .slice A1 ys.length c1] w fun e w' => e = .returned (.bool true) ∧ Below w.heap.size w w' := by
  have HM : Aside0 (Mem w (fun k => k < w.heap.size) w [] (Two A0 A1 xs ys)) := ⟨two_M hr0 hr1⟩
  clear hw0 hw1 hr0 hr1
  by_cases hl0 : 30 < xs.length
  · have b0 : decide ((30 : Int) < (xs.length : Int)) = true := decide_eq_true (by omega)
    clear hl0
    go_enter Tryd.func13, Tryd.ntmps13
    go_wp2_with (first|go_skip|(go_at_call 27;refine (lays_M HM.out).mono ?_;rintro e _ ⟨rfl, hM⟩;clear HM;have HM:=Aside0.mk hM;clear hM))
    go_ret
    exact ⟨rfl, HM.out.below⟩
  have b0 : decide ((30 : Int) < (xs.length : Int)) = false := decide_eq_false (by omega)
  by_cases hl1 : 30 < ys.length
  · have b1 : decide ((30 : Int) < (ys.length : Int)) = true := decide_eq_true (by omega)
    clear hl1
    go_enter Tryd.func13, Tryd.ntmps13
    go_wp2_with (first|go_skip|(go_at_call 27;refine (lays_M HM.out).mono ?_;rintro e _ ⟨rfl, hM⟩;clear HM;have HM:=Aside0.mk hM;clear hM))
    go_ret
    exact ⟨rfl, HM.out.below⟩
  have b1 : decide ((30 : Int) < (ys.length : Int)) = false := decide_eq_false (by omega)
  obtain ⟨a, na, ws, nw, ea, hIa, hLa, hNa, hLw, hNw0, hNw, hPa⟩ := plants (P := fun k => k < w.heap.size) HG0 xs (by omega) 0 (by omega)
  obtain ⟨b, nb, ws2, nw2, eb, hIb, hLb, hNb, hLw2, hNw20, hNw2, hPb⟩ := plants (P := fun k => k < w.heap.size) HG0 ys (by omega) 5000 (by omega)
  have HIA := Aside0.mk hIa
  have HIB := Aside0.mk hIb
  have HLA := Aside0.mk hLa
  have HLB := Aside0.mk hLb
  have HNA := Aside0.mk hNa
  have HNB := Aside0.mk hNb
  have HPA := Aside0.mk hPa
  have HPB := Aside0.mk hPb
  clear hl0 hl1 HG0 hPa hPb hIa hIb
  clear ea eb
  rcases over_split HIA.out HIB.out with ⟨t, ht, hok, _⟩ | ⟨ht, _⟩
  case inr =>
    have HOV := Aside0.mk ht
    clear ht
    go_enter Tryd.func13, Tryd.ntmps13
    go_upto_region 6 with (first|go_skip|((with_reducible refine gate_dst (N := 5) rfl ?_);(with_reducible refine' bz HM ?qw rfl ?qa ?qc ?_);(case qw|qa|qc=>rfl);clear HM;intro g5 _ HM)|((with_reducible refine gate_dst (N := 6) rfl ?_);(with_reducible refine' bz HM ?qw rfl ?qa ?qc ?_);(case qw|qa|qc=>rfl);clear HM;intro g6 _ HM)|((with_reducible refine gate_dst (N := 7) rfl ?_);(with_reducible refine' bz HM ?qw rfl ?qa ?qc ?_);(case qw|qa|qc=>rfl);clear HM;intro g7 _ HM)|((with_reducible refine gate_dst (N := 8) rfl ?_);(with_reducible refine' bz HM ?qw rfl ?qa ?qc ?_);(case qw|qa|qc=>rfl);clear HM;intro g8 _ HM)|((with_reducible refine' lc HM ?qw rfl ?qx ?qm ?qa ?qv ?_);(case qw|qx|qa=>rfl);(case qm=>repeat constructor);(case qv=>rfl))|((with_reducible refine' la HM ?qw rfl ?qx ?qm ?qa ?_);(case qw|qx=>rfl);(case qm=>repeat constructor);(case qa=>rfl))|((with_reducible refine' pa HM ?qw rfl ?qx _ ?qy ?qm ?qa ?_);(case qw|qx|qy=>rfl);(case qm=>repeat constructor);(case qa=>rfl);clear HM;intro _ HM)|(go_at_call 27;refine (lays_M HM.out).mono ?_;rintro e _ ⟨rfl, hM⟩;clear HM;have HM:=Aside0.mk hM;clear hM)|(go_at_call 28; (refine (HPA.out.tree HM.out ?hS).mono ?_); (case hS => exact fun _ h => h.1); rintro e _ ⟨Aa, ca, Awa, cwa, rfl, hc, hM⟩; have HCa := Aside0.mk hc; clear hc; clear HM;have HM:=Aside0.mk hM;clear hM))
    go_upto_region 7 with (first|go_skip|((with_reducible refine gate_dst (N := 5) rfl ?_);(with_reducible refine' bz HM ?qw rfl ?qa ?qc ?_);(case qw|qa|qc=>rfl);clear HM;intro g5 _ HM)|((with_reducible refine gate_dst (N := 6) rfl ?_);(with_reducible refine' bz HM ?qw rfl ?qa ?qc ?_);(case qw|qa|qc=>rfl);clear HM;intro g6 _ HM)|((with_reducible refine gate_dst (N := 7) rfl ?_);(with_reducible refine' bz HM ?qw rfl ?qa ?qc ?_);(case qw|qa|qc=>rfl);clear HM;intro g7 _ HM)|((with_reducible refine gate_dst (N := 8) rfl ?_);(with_reducible refine' bz HM ?qw rfl ?qa ?qc ?_);(case qw|qa|qc=>rfl);clear HM;intro g8 _ HM)|((with_reducible refine' lc HM ?qw rfl ?qx ?qm ?qa ?qv ?_);(case qw|qx|qa=>rfl);(case qm=>repeat constructor);(case qv=>rfl))|((with_reducible refine' la HM ?qw rfl ?qx ?qm ?qa ?_);(case qw|qx=>rfl);(case qm=>repeat constructor);(case qa=>rfl))|((with_reducible refine' pa HM ?qw rfl ?qx _ ?qy ?qm ?qa ?_);(case qw|qx|qy=>rfl);(case qm=>repeat constructor);(case qa=>rfl);clear HM;intro _ HM)|(go_at_call 28; (refine (HPB.out.tree HM.out ?hS).mono ?_); (case hS => exact fun _ h => h.1.2); rintro e _ ⟨Ab, cb, Awb, cwb, rfl, hc, hM⟩; have HCb := Aside0.mk hc; clear hc; clear HM;have HM:=Aside0.mk hM;clear hM))
    go_wp2_with (first|go_skip|((with_reducible refine gate_dst (N := 9) rfl ?_);(with_reducible refine' bz HM ?qw rfl ?qa ?qc ?_);(case qw|qa|qc=>rfl);clear HM;intro g9 _ HM)|((with_reducible refine' lc HM ?qw rfl ?qx ?qm ?qa ?qv ?_);(case qw|qx|qa=>rfl);(case qm=>repeat constructor);(case qv=>rfl))|((with_reducible refine' la HM ?qw rfl ?qx ?qm ?qa ?_);(case qw|qx=>rfl);(case qm=>repeat constructor);(case qa=>rfl))|((with_reducible refine' pa HM ?qw rfl ?qx _ ?qy ?qm ?qa ?_);(case qw|qx|qy=>rfl);(case qm=>repeat constructor);(case qa=>rfl);clear HM;intro _ HM)|(go_at_call 29; (refine (over_C HIA.out HIB.out (by have := HLA.out; omega) (by have := HLB.out; omega) (by have := HNA.out; omega) (by have := HNB.out; omega) HOV.out HM.out ?hSa ?hSb HCa.out HCb.out).mono ?_); (case hSa => exact fun _ h => h.1.2); (case hSb => exact fun _ h => h.2); rintro e _ ⟨At, ct, rfl, hc, hM⟩; have HCt := Aside0.mk hc; clear hc; clear HM;have HM:=Aside0.mk hM;clear hM))
    go_ret
    exact ⟨rfl, HM.out.below⟩
  obtain ⟨u, hu, huk⟩ := twice_good HIA.out HIB.out hok
  have hkey := twice_key HIA.out HIB.out hok huk
  have hlen := hok.len
  have hnn := newN_le a b
  have huse := twice_use HIA.out HIB.out hok huk (by omega)
  have hgo := twice_gone HIA.out HIB.out hok huk
  have hit := hok.inv
  have hiu := huk.inv
  generalize ent : na + nb = nt at ht hu hit hiu
  generalize enu : nt + nb = nu at hu hiu
  have hLt : t.length ≤ 9060 := by omega
  have hLu : u.length ≤ 9060 := by omega
  have hNt : nt ≤ 9060 := by omega
  have hNu : nu ≤ 13590 := by omega
  obtain ⟨⟨u1, u2, u3, u4⟩, hus⟩ : ∃ z, ofL t = z := ⟨_, rfl⟩
  have hus2 := huse.trans hus
  have hib := HIB.out
  have HUt : Aside0 (∀ (W : World) (B : List Bx) (S : World → Prop) {A : Option Addr} {c : Nat} {n : Int}, Mem w (fun k => k < w.heap.size) W B S → (∀ w, S w → Tr A t w) → t.length ≤ c → Calls Tryd.prog 20 #[.agg #[.slice A t.length c, .int .i64 n]] W fun e w' => e = .returned (.agg #[.int .i64 u1, .int .i64 u2, .int .i64 u3, .int .i64 u4]) ∧ Mem w (fun k => k < w.heap.size) w' B S) := ⟨fun W B S A c n hM hS hc => by
    have := of_M (n := n) hM hS hit hc (by omega) (m := _) (by omega)
    rw [hus] at this
    exact this⟩
  have HUu : Aside0 (∀ (W : World) (B : List Bx) (S : World → Prop) {A : Option Addr} {c : Nat} {n : Int}, Mem w (fun k => k < w.heap.size) W B S → (∀ w, S w → Tr A u w) → u.length ≤ c → Calls Tryd.prog 20 #[.agg #[.slice A u.length c, .int .i64 n]] W fun e w' => e = .returned (.agg #[.int .i64 u1, .int .i64 u2, .int .i64 u3, .int .i64 u4]) ∧ Mem w (fun k => k < w.heap.size) w' B S) := ⟨fun W B S A c n hM hS hc => by
    have := of_M (n := n) hM hS hiu hc (by omega) (m := _) (by omega)
    rw [hus2] at this
    exact this⟩
  have HFb : Aside0 (∀ (W : World) (B : List Bx) (S : World → Prop) {A : Option Addr} {c : Nat} {n : Int}, Mem w (fun k => k < w.heap.size) W B S → (∀ w, S w → Tr A b w) → Calls Tryd.prog 33 #[.agg #[.slice A b.length c, .int .i64 n]] W fun e w' => e = .returned (.int .i64 (con b).2) ∧ Mem w (fun k => k < w.heap.size) w' B S) := ⟨fun W B S A c n hM hS => files_M hM hS hib.ids (by omega) (by omega)⟩
  have HGO : Aside0 (∀ (W : World) (B : List Bx) (S : World → Prop) {A A2 : Option Addr} {c c2 : Nat} {n n2 : Int}, Mem w (fun k => k < w.heap.size) W B S → (∀ w, S w → Tr A t w) → (∀ w, S w → Tr A2 u w) → Calls Tryd.prog 34 #[.agg #[.slice A t.length c, .int .i64 n], .agg #[.slice A2 u.length c2, .int .i64 n2]] W fun e w' => ∃ Ao co, e = .returned (.slice Ao (con b).2 co) ∧ Mem w (fun k => k < w.heap.size) w' B S) := ⟨fun W B S A A2 c c2 n n2 hM hS hS2 => by
    refine (gone_M (n := n) (n2 := n2) (c := c) (c2 := c2) hM hS hS2 hit.ids hiu.ids (by omega) (by omega) (by omega) (by omega)).mono ?_
    rw [hgo]
    rintro e w' ⟨Ao, co, rfl, hM⟩
    exact ⟨Ao, co, rfl, hM.imp (fun w h => h.1)⟩⟩
  have HOV := Aside0.mk ht
  have HOV2 := Aside0.mk hu
  have HIT := Aside0.mk hit
  have HLT := Aside0.mk (show t.length ≤ 400000 by omega)
  have HNT := Aside0.mk (show nt ≤ 400000 by omega)
  have HKEY := Aside0.mk hkey.1
  have hle : u.length = t.length := hkey.2
  have HLE := Aside0.mk hle
  generalize (con b).2 = fb at HFb HGO
  clear ht hu hok huk hkey hlen hnn huse hgo hit hiu hus hus2 hib ent enu hle
  go_enter Tryd.func13, Tryd.ntmps13
  go_upto_region 6 with (first|go_skip|((with_reducible refine gate_dst (N := 5) rfl ?_);(with_reducible refine' bz HM ?qw rfl ?qa ?qc ?_);(case qw|qa|qc=>rfl);clear HM;intro g5 _ HM)|((with_reducible refine gate_dst (N := 6) rfl ?_);(with_reducible refine' bz HM ?qw rfl ?qa ?qc ?_);(case qw|qa|qc=>rfl);clear HM;intro g6 _ HM)|((with_reducible refine gate_dst (N := 7) rfl ?_);(with_reducible refine' bz HM ?qw rfl ?qa ?qc ?_);(case qw|qa|qc=>rfl);clear HM;intro g7 _ HM)|((with_reducible refine gate_dst (N := 8) rfl ?_);(with_reducible refine' bz HM ?qw rfl ?qa ?qc ?_);(case qw|qa|qc=>rfl);clear HM;intro g8 _ HM)|((with_reducible refine' lc HM ?qw rfl ?qx ?qm ?qa ?qv ?_);(case qw|qx|qa=>rfl);(case qm=>repeat constructor);(case qv=>rfl))|((with_reducible refine' la HM ?qw rfl ?qx ?qm ?qa ?_);(case qw|qx=>rfl);(case qm=>repeat constructor);(case qa=>rfl))|((with_reducible refine' pa HM ?qw rfl ?qx _ ?qy ?qm ?qa ?_);(case qw|qx|qy=>rfl);(case qm=>repeat constructor);(case qa=>rfl);clear HM;intro _ HM)|(go_at_call 27;refine (lays_M HM.out).mono ?_;rintro e _ ⟨rfl, hM⟩;clear HM;have HM:=Aside0.mk hM;clear hM)|(go_at_call 28; (refine (HPA.out.tree HM.out ?hS).mono ?_); (case hS => exact fun _ h => h.1); rintro e _ ⟨Aa, ca, Awa, cwa, rfl, hc, hM⟩; have HCa := Aside0.mk hc; clear hc; clear HM;have HM:=Aside0.mk hM;clear hM))
  go_upto_region 7 with (first|go_skip|((with_reducible refine gate_dst (N := 5) rfl ?_);(with_reducible refine' bz HM ?qw rfl ?qa ?qc ?_);(case qw|qa|qc=>rfl);clear HM;intro g5 _ HM)|((with_reducible refine gate_dst (N := 6) rfl ?_);(with_reducible refine' bz HM ?qw rfl ?qa ?qc ?_);(case qw|qa|qc=>rfl);clear HM;intro g6 _ HM)|((with_reducible refine gate_dst (N := 7) rfl ?_);(with_reducible refine' bz HM ?qw rfl ?qa ?qc ?_);(case qw|qa|qc=>rfl);clear HM;intro g7 _ HM)|((with_reducible refine gate_dst (N := 8) rfl ?_);(with_reducible refine' bz HM ?qw rfl ?qa ?qc ?_);(case qw|qa|qc=>rfl);clear HM;intro g8 _ HM)|((with_reducible refine' lc HM ?qw rfl ?qx ?qm ?qa ?qv ?_);(case qw|qx|qa=>rfl);(case qm=>repeat constructor);(case qv=>rfl))|((with_reducible refine' la HM ?qw rfl ?qx ?qm ?qa ?_);(case qw|qx=>rfl);(case qm=>repeat constructor);(case qa=>rfl))|((with_reducible refine' pa HM ?qw rfl ?qx _ ?qy ?qm ?qa ?_);(case qw|qx|qy=>rfl);(case qm=>repeat constructor);(case qa=>rfl);clear HM;intro _ HM)|(go_at_call 28; (refine (HPB.out.tree HM.out ?hS).mono ?_); (case hS => exact fun _ h => h.1.2); rintro e _ ⟨Ab, cb, Awb, cwb, rfl, hc, hM⟩; have HCb := Aside0.mk hc; clear hc; clear HM;have HM:=Aside0.mk hM;clear hM))
  go_upto_region 10 with (first|go_skip|((with_reducible refine gate_dst (N := 9) rfl ?_);(with_reducible refine' bz HM ?qw rfl ?qa ?qc ?_);(case qw|qa|qc=>rfl);clear HM;intro g9 _ HM)|((with_reducible refine' lc HM ?qw rfl ?qx ?qm ?qa ?qv ?_);(case qw|qx|qa=>rfl);(case qm=>repeat constructor);(case qv=>rfl))|((with_reducible refine' la HM ?qw rfl ?qx ?qm ?qa ?_);(case qw|qx=>rfl);(case qm=>repeat constructor);(case qa=>rfl))|((with_reducible refine' pa HM ?qw rfl ?qx _ ?qy ?qm ?qa ?_);(case qw|qx|qy=>rfl);(case qm=>repeat constructor);(case qa=>rfl);clear HM;intro _ HM)|(go_at_call 29; (refine (over_C HIA.out HIB.out (by have := HLA.out; omega) (by have := HLB.out; omega) (by have := HNA.out; omega) (by have := HNB.out; omega) HOV.out HM.out ?hSa ?hSb HCa.out HCb.out).mono ?_); (case hSa => exact fun _ h => h.1.2); (case hSb => exact fun _ h => h.2); rintro e _ ⟨At, ct, rfl, hc, hM⟩; have HCt := Aside0.mk hc; clear hc; clear HM;have HM:=Aside0.mk hM;clear hM))
  go_upto_region 11 with (first|go_skip|((with_reducible refine gate_dst (N := 11) rfl ?_);(with_reducible refine' bz HM ?qw rfl ?qa ?qc ?_);(case qw|qa|qc=>rfl);clear HM;intro g11 _ HM)|((with_reducible refine' lc HM ?qw rfl ?qx ?qm ?qa ?qv ?_);(case qw|qx|qa=>rfl);(case qm=>repeat constructor);(case qv=>rfl))|((with_reducible refine' la HM ?qw rfl ?qx ?qm ?qa ?_);(case qw|qx=>rfl);(case qm=>repeat constructor);(case qa=>rfl))|((with_reducible refine' pa HM ?qw rfl ?qx _ ?qy ?qm ?qa ?_);(case qw|qx|qy=>rfl);(case qm=>repeat constructor);(case qa=>rfl);clear HM;intro _ HM)|(go_at_call 29; (refine (over_C HIT.out HIB.out (by have := HLT.out; omega) (by have := HLB.out; omega) (by have := HNT.out; omega) (by have := HNB.out; omega) HOV2.out HM.out ?hSa ?hSb HCt.out HCb.out).mono ?_); (case hSa => exact fun _ h => h.2); (case hSb => exact fun _ h => h.1.2); rintro e _ ⟨Au, cu, rfl, hc, hM⟩; have HCu := Aside0.mk hc; clear hc; clear HM;have HM:=Aside0.mk hM;clear hM))
  have hle := HLE.out
  refine r_start (ds := []) HM.out #[false, false, false, false, false, false, false, false, false, false, false, false, false, false, false, false, false, false] (by kernel_rfl) rfl rfl (fun _ hM => ?_)
  refine with_tabW twr11Tab twr11Bits (fun HT_ HW_ => ?_)
  clear HM
  have HM := Aside0.mk hM
  clear hM
  refine pure_ (i:=0) (N:=(some 48)) (v:=?_) (a':=?_) #[true, false, false, false, false, false, false, false, false, false, false, false, false, false, false, false, false, false] rfl rfl (any_of HT_.out (by kernel_rfl)) (fun _ _ _ h=>h) (Or.inl ⟨by rfl,?_⟩) ?_ ?_
  rotate_left
  · intro w';go_simp;with_reducible rfl
  rotate_left
  · (simp only [Act.put, fillAll, List.setIfInBounds_toArray, List.set_cons_zero, List.set_cons_succ, i64_w, i32_w]; rfl)
  refine pure_ (i:=1) (N:=(some 49)) (v:=?_) (a':=?_) #[true, true, false, false, false, false, false, false, false, false, false, false, false, false, false, false, false, false] rfl rfl (any_of HT_.out (by kernel_rfl)) (fun _ _ _ h=>h) (Or.inl ⟨by rfl,?_⟩) ?_ ?_
  rotate_left
  · intro w';go_simp;with_reducible rfl
  rotate_left
  · (simp only [Act.put, fillAll, List.setIfInBounds_toArray, List.set_cons_zero, List.set_cons_succ, i64_w, i32_w]; rfl)
  refine pure_ (i:=2) (N:=(some 50)) (v:=?_) (a':=?_) #[true, true, true, false, false, false, false, false, false, false, false, false, false, false, false, false, false, false] rfl rfl (any_of HT_.out (by kernel_rfl)) (fun _ _ _ h=>h) (Or.inl ⟨by rfl,?_⟩) ?_ ?_
  rotate_left
  · intro w';go_simp;with_reducible rfl
  rotate_left
  · (simp only [Act.put, fillAll, List.setIfInBounds_toArray, List.set_cons_zero, List.set_cons_succ, i64_w, i32_w]; rfl)
  refine pure_ (i:=3) (N:=(some 51)) (v:=?_) (a':=?_) #[true, true, true, true, false, false, false, false, false, false, false, false, false, false, false, false, false, false] rfl rfl (any_of HT_.out (by kernel_rfl)) (fun _ _ _ h=>h) (Or.inl ⟨by rfl,?_⟩) ?_ ?_
  rotate_left
  · intro w';go_simp;with_reducible rfl
  rotate_left
  · (simp only [Act.put, fillAll, List.setIfInBounds_toArray, List.set_cons_zero, List.set_cons_succ, i64_w, i32_w]; rfl)
  refine pure_ (i:=6) (N:=(some 54)) (v:=?_) (a':=?_) #[true, true, true, true, false, false, true, false, false, false, false, false, false, false, false, false, false, false] rfl rfl (any_of HT_.out (by kernel_rfl)) (fun _ _ _ h=>h) (Or.inl ⟨by rfl,?_⟩) ?_ ?_
  rotate_left
  · intro w';go_simp;with_reducible rfl
  rotate_left
  · (simp only [Act.put, fillAll, List.setIfInBounds_toArray, List.set_cons_zero, List.set_cons_succ, i64_w, i32_w]; rfl)
  apply r_cell (i:=4) (N:=(some 52)) #[true, true, true, true, true, false, true, false, false, false, false, false, false, false, false, false, false, false]
  (case hi=>rfl)
  (case hN=>rfl)
  (case hc=>exact take_ofW HT_.out HW_.out (by kernel_rfl))
  (case hQ=>exact fun _ _ _ h=>h)
  (case ho=>rfl)
  (case hw=>rfl)
  (case hx=>rfl)
  (case ha=>exact nag _ (by decide))
  (case hH=>first|exact HM.out.held|exact HM.out.heldTail|exact HM.out.heldTail2)
  (case hm=>first | exact m0 | exact m1 | exact m2 | exact m3 | exact m4 | exact m5)
  (case hv=>rfl)
  (case hp=>(simp only [Act.put, fillAll, List.setIfInBounds_toArray, List.set_cons_zero, List.set_cons_succ, i64_w, i32_w]; rfl))
  refine pure_ (i:=5) (N:=(some 53)) (v:=?_) (a':=?_) #[true, true, true, true, true, true, true, false, false, false, false, false, false, false, false, false, false, false] rfl rfl (any_of HT_.out (by kernel_rfl)) (fun _ _ _ h=>h) (Or.inl ⟨by rfl,?_⟩) ?_ ?_
  rotate_left
  · intro w';go_simp;with_reducible rfl
  rotate_left
  · (simp only [Act.put, fillAll, List.setIfInBounds_toArray, List.set_cons_zero, List.set_cons_succ, i64_w, i32_w]; rfl)
  apply r_cell (i:=7) (N:=(some 55)) #[true, true, true, true, true, true, true, true, false, false, false, false, false, false, false, false, false, false]
  (case hi=>rfl)
  (case hN=>rfl)
  (case hc=>exact take_ofW HT_.out HW_.out (by kernel_rfl))
  (case hQ=>exact fun _ _ _ h=>h)
  (case ho=>rfl)
  (case hw=>rfl)
  (case hx=>rfl)
  (case ha=>exact nag _ (by decide))
  (case hH=>first|exact HM.out.held|exact HM.out.heldTail|exact HM.out.heldTail2)
  (case hm=>first | exact m0 | exact m1 | exact m2 | exact m3 | exact m4 | exact m5)
  (case hv=>rfl)
  (case hp=>(simp only [Act.put, fillAll, List.setIfInBounds_toArray, List.set_cons_zero, List.set_cons_succ, i64_w, i32_w]; rfl))
  refine pure_ (i:=8) (N:=(some 56)) (v:=?_) (a':=?_) #[true, true, true, true, true, true, true, true, true, false, false, false, false, false, false, false, false, false] rfl rfl (any_of HT_.out (by kernel_rfl)) (fun _ _ _ h=>h) (Or.inl ⟨by rfl,?_⟩) ?_ ?_
  rotate_left
  · intro w';go_simp;with_reducible rfl
  rotate_left
  · (simp only [Act.put, fillAll, List.setIfInBounds_toArray, List.set_cons_zero, List.set_cons_succ, i64_w, i32_w]; rfl)
  refine pure_ (i:=9) (N:=(some 57)) (v:=?_) (a':=?_) #[true, true, true, true, true, true, true, true, true, true, false, false, false, false, false, false, false, false] rfl rfl (any_of HT_.out (by kernel_rfl)) (fun _ _ _ h=>h) (Or.inl ⟨by rfl,?_⟩) ?_ ?_
  rotate_left
  · intro w';go_simp;with_reducible rfl
  rotate_left
  · (simp only [Act.put, fillAll, List.setIfInBounds_toArray, List.set_cons_zero, List.set_cons_succ, i64_w, i32_w]; rfl)
  refine pure_ (i:=10) (N:=(some 58)) (v:=?_) (a':=?_) #[true, true, true, true, true, true, true, true, true, true, true, false, false, false, false, false, false, false] rfl rfl (any_of HT_.out (by kernel_rfl)) (fun _ _ _ h=>h) (Or.inl ⟨by rfl,?_⟩) ?_ ?_
  rotate_left
  · intro w';go_simp;with_reducible rfl
  rotate_left
  · (simp only [Act.put, fillAll, List.setIfInBounds_toArray, List.set_cons_zero, List.set_cons_succ, i64_w, i32_w]; rfl)
  refine pure_ (i:=11) (N:=(some 59)) (v:=?_) (a':=?_) #[true, true, true, true, true, true, true, true, true, true, true, true, false, false, false, false, false, false] rfl rfl (any_of HT_.out (by kernel_rfl)) (fun _ _ _ h=>h) (Or.inl ⟨by rfl,?_⟩) ?_ ?_
  rotate_left
  · intro w';go_simp;with_reducible rfl
  rotate_left
  · (simp only [Act.put, fillAll, List.setIfInBounds_toArray, List.set_cons_zero, List.set_cons_succ, i64_w, i32_w]; rfl)
  apply r_all (i:=12) (N:=(some 60)) #[true, true, true, true, true, true, true, true, true, true, true, true, true, false, false, false, false, false]
  (case hi=>rfl)
  (case hN=>rfl)
  (case hc=>exact take_ofW HT_.out HW_.out (by kernel_rfl))
  (case hQ=>exact fun _ _ _ h=>h)
  (case ho=>rfl)
  (case hw=>rfl)
  (case hx=>rfl)
  (case ha=>exact agg35)
  (case hH=>first|exact HM.out.held|exact HM.out.heldTail|exact HM.out.heldTail2)
  (case hm=>first | exact m0 | exact m1 | exact m2 | exact m3 | exact m4 | exact m5)
  (case hl=>rfl)
  (case hp=>(simp only [Act.put, fillAll, List.setIfInBounds_toArray, List.set_cons_zero, List.set_cons_succ, i64_w, i32_w]; rfl))
  apply r_all (i:=14) (N:=(some 62)) #[true, true, true, true, true, true, true, true, true, true, true, true, true, false, true, false, false, false]
  (case hi=>rfl)
  (case hN=>rfl)
  (case hc=>exact take_ofW HT_.out HW_.out (by kernel_rfl))
  (case hQ=>exact fun _ _ _ h=>h)
  (case ho=>rfl)
  (case hw=>rfl)
  (case hx=>rfl)
  (case ha=>exact agg35)
  (case hH=>first|exact HM.out.held|exact HM.out.heldTail|exact HM.out.heldTail2)
  (case hm=>first | exact m0 | exact m1 | exact m2 | exact m3 | exact m4 | exact m5)
  (case hl=>rfl)
  (case hp=>(simp only [Act.put, fillAll, List.setIfInBounds_toArray, List.set_cons_zero, List.set_cons_succ, i64_w, i32_w]; rfl))
  refine one_ (i := 13) (N := (some 61)) #[true, true, true, true, true, true, true, true, true, true, true, true, true, true, true, false, false, false] rfl rfl (one_of HT_.out (by kernel_rfl)) (by decide) (fun K hK => ?_)
  refine goes_ Tryd.func20 (by kernel_rfl) rfl _ (by rfl) rfl rfl (by simp only [List.map_toArray, List.map_cons, List.map_nil]; rfl) ?_
  refine (HUu.out _ _ _ HM.out (fun _ h => h.2) HCu.out).mono ?_
  rintro e w_ ⟨rfl, hM⟩
  refine ⟨_, rfl, ?_⟩
  refine hK.out _ _ hM.held (fun _ => ?_)
  clear hK K
  clear HM
  have HM := Aside0.mk hM
  clear hM
  refine norm_ (a' := ?_) ?_ ?_
  rotate_left
  · (simp only [Act.put, fillAll, List.setIfInBounds_toArray, List.set_cons_zero, List.set_cons_succ, i64_w, i32_w]; rfl)
  refine one_ (i := 15) (N := (some 63)) #[true, true, true, true, true, true, true, true, true, true, true, true, true, true, true, true, false, false] rfl rfl (one_of HT_.out (by kernel_rfl)) (by decide) (fun K hK => ?_)
  refine goes_ Tryd.func20 (by kernel_rfl) rfl _ (by rfl) rfl rfl (by simp only [List.map_toArray, List.map_cons, List.map_nil]; rfl) ?_
  refine (HUt.out _ _ _ HM.out (fun _ h => h.1.2) HCt.out).mono ?_
  rintro e w_ ⟨rfl, hM⟩
  refine ⟨_, rfl, ?_⟩
  refine hK.out _ _ hM.held (fun _ => ?_)
  clear hK K
  clear HM
  have HM := Aside0.mk hM
  clear hM
  refine norm_ (a' := ?_) ?_ ?_
  rotate_left
  · (simp only [Act.put, fillAll, List.setIfInBounds_toArray, List.set_cons_zero, List.set_cons_succ, i64_w, i32_w]; rfl)
  refine pure_ (i:=16) (N:=(some 64)) (v:=?_) (a':=?_) #[true, true, true, true, true, true, true, true, true, true, true, true, true, true, true, true, true, false] rfl rfl (any_of HT_.out (by kernel_rfl)) (fun _ _ _ h=>h) (Or.inl ⟨by rfl,?_⟩) ?_ ?_
  rotate_left
  · intro w';go_simp;with_reducible rfl
  rotate_left
  · (simp only [Act.put, fillAll, List.setIfInBounds_toArray, List.set_cons_zero, List.set_cons_succ, i64_w, i32_w]; rfl)
  refine pure_ (i:=17) (N:=(some 65)) (v:=?_) (a':=?_) #[true, true, true, true, true, true, true, true, true, true, true, true, true, true, true, true, true, true] rfl rfl (any_of HT_.out (by kernel_rfl)) (fun _ _ _ h=>h) (Or.inl ⟨by rfl,?_⟩) ?_ ?_
  rotate_left
  · intro w';go_simp;with_reducible rfl
  rotate_left
  · (simp only [Act.put, fillAll, List.setIfInBounds_toArray, List.set_cons_zero, List.set_cons_succ, i64_w, i32_w]; rfl)
  refine done_ (done_of HT_.out (by kernel_rfl)) ?_
  clear hle
  go_wp2_with (first|go_skip|((with_reducible refine' lc HM ?qw rfl ?qx ?qm ?qa ?qv ?_);(case qw|qx|qa=>rfl);(case qm=>repeat constructor);(case qv=>rfl))|((with_reducible refine' la HM ?qw rfl ?qx ?qm ?qa ?_);(case qw|qx=>rfl);(case qm=>repeat constructor);(case qa=>rfl))|((with_reducible refine' pa HM ?qw rfl ?qx _ ?qy ?qm ?qa ?_);(case qw|qx|qy=>rfl);(case qm=>repeat constructor);(case qa=>rfl);clear HM;intro _ HM)|((with_reducible refine' bz HM ?qw rfl ?qa ?qc ?_);(case qw|qa|qc=>rfl);clear HM;intro _ _ HM))
  go_loopw [69] (fun v69 wr => ∃ (i : Nat), v69 = .int .i64 i ∧ Aside0 (i ≤ u.length) ∧ Aside0 (Mem w (fun k => k < w.heap.size) wr ((g11, [.slice Au u.length cu, .int .i64 nu], 35) :: (g9, [.slice At t.length ct, .int .i64 nt], 35) :: (g8, [.slice Awb ws2.length cwb, .int .i64 nw2], 64) :: (g7, [.slice Ab b.length cb, .int .i64 nb], 35) :: (g6, [.slice Awa ws.length cwa, .int .i64 nw], 64) :: (g5, [.slice Aa a.length ca, .int .i64 na], 35) :: []) (fun w => (((Two A0 A1 xs ys w ∧ Tr Aa a w) ∧ Tr Ab b w) ∧ Tr At t w) ∧ Tr Au u w))) (fun v69 _ => u.length - (intOf v69).toNat)
  case atStart => exact ⟨0, rfl, ⟨Nat.zero_le _⟩, HM⟩
  case round =>
    clear HM
    obtain ⟨i, rfl, HIX, HM⟩ := hrel
    have hib : (i : Int) ≤ 9060 := by have := HIX.out; omega
    by_cases hlt : i < u.length
    · have hlt2 : i < t.length := by have := HLE.out; omega
      have hky : key u[i] = key t[i] := by
        have := HKEY.out
        have h2 : (u.map key)[i]? = (t.map key)[i]? := by rw [this]
        simpa [hlt, hlt2] using h2
      have hlz : (i : Int) < (u.length : Int) := by omega
      obtain ⟨ad, ea, hx0, hx1, hx2, hx3, hx4, hx5, hx6, hx7, hx8, hx9, hx10, hx11, hx12⟩ := at_T44 (HM.out.now.2) (i : Int) (by omega) (by omega)
      have hrd : rd_T44 u (i : Int) = u[i] := by unfold rd_T44; rw [Int.toNat_natCast, List.getD_eq_getElem?_getD, List.getElem?_eq_getElem hlt]; rfl
      rw [Int.toNat_natCast, hrd] at hx0 hx1 hx2 hx3 hx4 hx5 hx6 hx7 hx8 hx9 hx11 hx12
      rw [Int.toNat_natCast] at hx10
      have hlz2 : (i : Int) < (t.length : Int) := by omega
      obtain ⟨ad2, ea2, hz0, hz1, hz2, hz3, hz4, hz5, hz6, hz7, hz8, hz9, hz10, hz11, hz12⟩ := at_T44 (HM.out.now.1.2) (i : Int) (by omega) (by omega)
      have hrd2 : rd_T44 t (i : Int) = t[i] := by unfold rd_T44; rw [Int.toNat_natCast, List.getD_eq_getElem?_getD, List.getElem?_eq_getElem hlt2]; rfl
      rw [Int.toNat_natCast, hrd2] at hz0 hz2 hz3
      clear hz1 hz4 hz5 hz6 hz7 hz8 hz9 hz10 hz11 hz12 hx1 hx4 hx5 hx6 hx7 hx8 hx9 hx10 hx11 hx12
      generalize u[i] = y at hx0 hx2 hx3 hky
      generalize t[i] = z at hz0 hz2 hz3 hky
      clear hrd hrd2
      subst ea ea2
      have hk1 : y.f0 = z.f0 := congrArg Prod.fst hky
      have hk2 : y.f2 = z.f2 := congrArg Prod.snd hky
      have hb1 := (blk_cell (HM.out.box _ m0).1 0).trans (show _ = some (Value.slice (some ad) u.length cu) from rfl)
      have hb2 := (blk_cell (HM.out.box _ m1).1 0).trans (show _ = some (Value.slice (some ad2) t.length ct) from rfl)
      clear hky
      have HC8 := Aside0.mk (And.intro hb1 (And.intro hb2 (And.intro hx0 (And.intro hx2 (And.intro hx3 (And.intro hz0 (And.intro hz2 hz3)))))))
      clear hb1 hb2 hx0 hx2 hx3 hz0 hz2 hz3
      rw [hk1, hk2] at HC8
      clear hk1 hk2
      go_upto_region 16 with (first|go_skip|((with_reducible refine' lc HM ?qw rfl ?qx ?qm ?qa ?qv ?_);(case qw|qx|qa=>rfl);(case qm=>repeat constructor);(case qv=>rfl))|((with_reducible refine' la HM ?qw rfl ?qx ?qm ?qa ?_);(case qw|qx=>rfl);(case qm=>repeat constructor);(case qa=>rfl))|((with_reducible refine' pa HM ?qw rfl ?qx _ ?qy ?qm ?qa ?_);(case qw|qx|qy=>rfl);(case qm=>repeat constructor);(case qa=>rfl);clear HM;intro _ HM)|((with_reducible refine' bz HM ?qw rfl ?qa ?qc ?_);(case qw|qa|qc=>rfl);clear HM;intro _ _ HM))
      refine start_ (S:=(fun w => w.cell? ⟨g11, 0, none⟩ = some (.slice (some ad) u.length cu) ∧ w.cell? ⟨g9, 0, none⟩ = some (.slice (some ad2) t.length ct) ∧ w.cell? (ad.add (i * 13)) = some (.string z.f0) ∧ w.cell? ⟨(ad.add (i * 13)).block, (ad.add (i * 13)).off + 2, none⟩ = some (.int .i64 z.f2.f0) ∧ w.cell? ⟨(ad.add (i * 13)).block, (ad.add (i * 13)).off + 3, none⟩ = some (.int .i64 z.f2.f1) ∧ w.cell? (ad2.add (i * 13)) = some (.string z.f0) ∧ w.cell? ⟨(ad2.add (i * 13)).block, (ad2.add (i * 13)).off + 2, none⟩ = some (.int .i64 z.f2.f0) ∧ w.cell? ⟨(ad2.add (i * 13)).block, (ad2.add (i * 13)).off + 3, none⟩ = some (.int .i64 z.f2.f1))) (ds:=[]) #[false, false, false, false, false, false, false, false, false, false, false, false, false, false, false, false, false, false, false, false, false, false, false, false, false, false, false, false, false, false, false, false, false, false, false, false, false, false, false, false, false, false, false, false, false, false, false] (by kernel_rfl) rfl rfl (by exact HC8.out) (fun hS_=>?_)
      have HSS:=Aside0.mk hS_
      clear hS_
      refine with_tabW twr16Tab twr16Bits (fun HT_ HW_=>?_)
      replace HM:=Aside0.mk HM.out.drew
      refine pure_ (i:=0) (N:=(some 72)) (v:=?_) (a':=?_) #[true, false, false, false, false, false, false, false, false, false, false, false, false, false, false, false, false, false, false, false, false, false, false, false, false, false, false, false, false, false, false, false, false, false, false, false, false, false, false, false, false, false, false, false, false, false, false] rfl rfl (any_of HT_.out (by kernel_rfl)) (fun _ _ _ h=>h) (Or.inl ⟨by rfl,?_⟩) ?_ ?_
      rotate_left
      · intro w';go_simp;with_reducible rfl
      rotate_left
      · (simp only [Act.put, fillAll, List.setIfInBounds_toArray, List.set_cons_zero, List.set_cons_succ, i64_w, i32_w]; rfl)
      refine pure_ (i:=2) (N:=(some 74)) (v:=?_) (a':=?_) #[true, false, true, false, false, false, false, false, false, false, false, false, false, false, false, false, false, false, false, false, false, false, false, false, false, false, false, false, false, false, false, false, false, false, false, false, false, false, false, false, false, false, false, false, false, false, false] rfl rfl (any_of HT_.out (by kernel_rfl)) (fun _ _ _ h=>h) (Or.inl ⟨by rfl,?_⟩) ?_ ?_
      rotate_left
      · intro w';go_simp;with_reducible rfl
      rotate_left
      · (simp only [Act.put, fillAll, List.setIfInBounds_toArray, List.set_cons_zero, List.set_cons_succ, i64_w, i32_w]; rfl)
      refine pure_ (i:=6) (N:=(some 78)) (v:=?_) (a':=?_) #[true, false, true, false, false, false, true, false, false, false, false, false, false, false, false, false, false, false, false, false, false, false, false, false, false, false, false, false, false, false, false, false, false, false, false, false, false, false, false, false, false, false, false, false, false, false, false] rfl rfl (any_of HT_.out (by kernel_rfl)) (fun _ _ _ h=>h) (Or.inl ⟨by rfl,?_⟩) ?_ ?_
      rotate_left
      · intro w';go_simp;with_reducible rfl
      rotate_left
      · (simp only [Act.put, fillAll, List.setIfInBounds_toArray, List.set_cons_zero, List.set_cons_succ, i64_w, i32_w]; rfl)
      refine pure_ (i:=8) (N:=(some 80)) (v:=?_) (a':=?_) #[true, false, true, false, false, false, true, false, true, false, false, false, false, false, false, false, false, false, false, false, false, false, false, false, false, false, false, false, false, false, false, false, false, false, false, false, false, false, false, false, false, false, false, false, false, false, false] rfl rfl (any_of HT_.out (by kernel_rfl)) (fun _ _ _ h=>h) (Or.inl ⟨by rfl,?_⟩) ?_ ?_
      rotate_left
      · intro w';go_simp;with_reducible rfl
      rotate_left
      · (simp only [Act.put, fillAll, List.setIfInBounds_toArray, List.set_cons_zero, List.set_cons_succ, i64_w, i32_w]; rfl)
      apply r_ld (i:=1) (N:=(some 73)) #[true, true, true, false, false, false, true, false, true, false, false, false, false, false, false, false, false, false, false, false, false, false, false, false, false, false, false, false, false, false, false, false, false, false, false, false, false, false, false, false, false, false, false, false, false, false, false]
      (case hi=>rfl)
      (case hN=>rfl)
      (case hc=>exact take_ofW HT_.out HW_.out (by kernel_rfl))
      (case hQ=>exact fun _ _ _ h=>h)
      (case ho=>rfl)
      (case hw=>rfl)
      (case hx=>rfl)
      (case ha=>rfl)
      (case hS=>exact HSS.out)
      (case hv=>first|exact fun _ h=>h.1|exact fun _ h=>h.2.1|exact fun _ h=>h.2.2.1|exact fun _ h=>h.2.2.2.1|exact fun _ h=>h.2.2.2.2.1|exact fun _ h=>h.2.2.2.2.2.1|exact fun _ h=>h.2.2.2.2.2.2.1|exact fun _ h=>h.2.2.2.2.2.2.2)
      (case hp=>(simp only [Act.put, fillAll, List.setIfInBounds_toArray, List.set_cons_zero, List.set_cons_succ, i64_w, i32_w]; rfl))
      refine pure_ (i:=3) (N:=(some 75)) (v:=?_) (a':=?_) #[true, true, true, true, false, false, true, false, true, false, false, false, false, false, false, false, false, false, false, false, false, false, false, false, false, false, false, false, false, false, false, false, false, false, false, false, false, false, false, false, false, false, false, false, false, false, false] rfl rfl (any_of HT_.out (by kernel_rfl)) (fun _ _ _ h=>h) (Or.inl ⟨by rfl,?_⟩) ?_ ?_
      rotate_left
      · intro w';go_simp;with_reducible rfl
      rotate_left
      · (simp only [Act.put, fillAll, List.setIfInBounds_toArray, List.set_cons_zero, List.set_cons_succ, i64_w, i32_w]; rfl)
      refine pure_ (i:=4) (N:=(some 76)) (v:=?_) (a':=?_) #[true, true, true, true, true, false, true, false, true, false, false, false, false, false, false, false, false, false, false, false, false, false, false, false, false, false, false, false, false, false, false, false, false, false, false, false, false, false, false, false, false, false, false, false, false, false, false] rfl rfl (any_of HT_.out (by kernel_rfl)) (fun _ _ _ h=>h) (Or.inl ⟨by rfl,?_⟩) ?_ ?_
      rotate_left
      · intro w';go_simp;with_reducible rfl
      rotate_left
      · (simp only [Act.put, fillAll, List.setIfInBounds_toArray, List.set_cons_zero, List.set_cons_succ, i64_w, i32_w]; rfl)
      apply r_ld (i:=5) (N:=(some 77)) #[true, true, true, true, true, true, true, false, true, false, false, false, false, false, false, false, false, false, false, false, false, false, false, false, false, false, false, false, false, false, false, false, false, false, false, false, false, false, false, false, false, false, false, false, false, false, false]
      (case hi=>rfl)
      (case hN=>rfl)
      (case hc=>exact take_ofW HT_.out HW_.out (by kernel_rfl))
      (case hQ=>exact fun _ _ _ h=>h)
      (case ho=>rfl)
      (case hw=>rfl)
      (case hx=>rfl)
      (case ha=>rfl)
      (case hS=>exact HSS.out)
      (case hv=>first|exact fun _ h=>h.1|exact fun _ h=>h.2.1|exact fun _ h=>h.2.2.1|exact fun _ h=>h.2.2.2.1|exact fun _ h=>h.2.2.2.2.1|exact fun _ h=>h.2.2.2.2.2.1|exact fun _ h=>h.2.2.2.2.2.2.1|exact fun _ h=>h.2.2.2.2.2.2.2)
      (case hp=>(simp only [Act.put, fillAll, List.setIfInBounds_toArray, List.set_cons_zero, List.set_cons_succ, i64_w, i32_w]; rfl))
      apply r_ld (i:=7) (N:=(some 79)) #[true, true, true, true, true, true, true, true, true, false, false, false, false, false, false, false, false, false, false, false, false, false, false, false, false, false, false, false, false, false, false, false, false, false, false, false, false, false, false, false, false, false, false, false, false, false, false]
      (case hi=>rfl)
      (case hN=>rfl)
      (case hc=>exact take_ofW HT_.out HW_.out (by kernel_rfl))
      (case hQ=>exact fun _ _ _ h=>h)
      (case ho=>rfl)
      (case hw=>rfl)
      (case hx=>rfl)
      (case ha=>rfl)
      (case hS=>exact HSS.out)
      (case hv=>first|exact fun _ h=>h.1|exact fun _ h=>h.2.1|exact fun _ h=>h.2.2.1|exact fun _ h=>h.2.2.2.1|exact fun _ h=>h.2.2.2.2.1|exact fun _ h=>h.2.2.2.2.2.1|exact fun _ h=>h.2.2.2.2.2.2.1|exact fun _ h=>h.2.2.2.2.2.2.2)
      (case hp=>(simp only [Act.put, fillAll, List.setIfInBounds_toArray, List.set_cons_zero, List.set_cons_succ, i64_w, i32_w]; rfl))
      refine pure_ (i:=9) (N:=(some 81)) (v:=?_) (a':=?_) #[true, true, true, true, true, true, true, true, true, true, false, false, false, false, false, false, false, false, false, false, false, false, false, false, false, false, false, false, false, false, false, false, false, false, false, false, false, false, false, false, false, false, false, false, false, false, false] rfl rfl (any_of HT_.out (by kernel_rfl)) (fun _ _ _ h=>h) (Or.inl ⟨by rfl,?_⟩) ?_ ?_
      rotate_left
      · intro w';go_simp;with_reducible rfl
      rotate_left
      · (simp only [Act.put, fillAll, List.setIfInBounds_toArray, List.set_cons_zero, List.set_cons_succ, i64_w, i32_w]; rfl)
      refine pure_ (i:=10) (N:=(some 82)) (v:=?_) (a':=?_) #[true, true, true, true, true, true, true, true, true, true, true, false, false, false, false, false, false, false, false, false, false, false, false, false, false, false, false, false, false, false, false, false, false, false, false, false, false, false, false, false, false, false, false, false, false, false, false] rfl rfl (any_of HT_.out (by kernel_rfl)) (fun _ _ _ h=>h) (Or.inl ⟨by rfl,?_⟩) ?_ ?_
      rotate_left
      · intro w';go_simp;with_reducible rfl
      rotate_left
      · (simp only [Act.put, fillAll, List.setIfInBounds_toArray, List.set_cons_zero, List.set_cons_succ, i64_w, i32_w]; rfl)
      apply r_ld (i:=11) (N:=(some 83)) #[true, true, true, true, true, true, true, true, true, true, true, true, false, false, false, false, false, false, false, false, false, false, false, false, false, false, false, false, false, false, false, false, false, false, false, false, false, false, false, false, false, false, false, false, false, false, false]
      (case hi=>rfl)
      (case hN=>rfl)
      (case hc=>exact take_ofW HT_.out HW_.out (by kernel_rfl))
      (case hQ=>exact fun _ _ _ h=>h)
      (case ho=>rfl)
      (case hw=>rfl)
      (case hx=>rfl)
      (case ha=>rfl)
      (case hS=>exact HSS.out)
      (case hv=>first|exact fun _ h=>h.1|exact fun _ h=>h.2.1|exact fun _ h=>h.2.2.1|exact fun _ h=>h.2.2.2.1|exact fun _ h=>h.2.2.2.2.1|exact fun _ h=>h.2.2.2.2.2.1|exact fun _ h=>h.2.2.2.2.2.2.1|exact fun _ h=>h.2.2.2.2.2.2.2)
      (case hp=>(simp only [Act.put, fillAll, List.setIfInBounds_toArray, List.set_cons_zero, List.set_cons_succ, i64_w, i32_w]; rfl))
      refine pure_ (i:=12) (N:=(some 84)) (v:=?_) (a':=?_) #[true, true, true, true, true, true, true, true, true, true, true, true, true, false, false, false, false, false, false, false, false, false, false, false, false, false, false, false, false, false, false, false, false, false, false, false, false, false, false, false, false, false, false, false, false, false, false] rfl rfl (any_of HT_.out (by kernel_rfl)) (fun _ _ _ h=>h) (Or.inl ⟨by rfl,?_⟩) ?_ ?_
      rotate_left
      · intro w';go_simp;with_reducible rfl
      rotate_left
      · (simp only [Act.put, fillAll, List.setIfInBounds_toArray, List.set_cons_zero, List.set_cons_succ, i64_w, i32_w]; rfl)
      refine pure_ (i:=13) (N:=(some 85)) (v:=?_) (a':=?_) #[true, true, true, true, true, true, true, true, true, true, true, true, true, true, false, false, false, false, false, false, false, false, false, false, false, false, false, false, false, false, false, false, false, false, false, false, false, false, false, false, false, false, false, false, false, false, false] rfl rfl (any_of HT_.out (by kernel_rfl)) (fun _ _ _ h=>h) (Or.inl ⟨by rfl,?_⟩) ?_ ?_
      rotate_left
      · intro w';go_simp;with_reducible rfl
      rotate_left
      · (simp only [Act.put, fillAll, List.setIfInBounds_toArray, List.set_cons_zero, List.set_cons_succ, i64_w, i32_w]; rfl)
      refine pure_ (i:=14) (N:=(some 86)) (v:=?_) (a':=?_) #[true, true, true, true, true, true, true, true, true, true, true, true, true, true, true, false, false, false, false, false, false, false, false, false, false, false, false, false, false, false, false, false, false, false, false, false, false, false, false, false, false, false, false, false, false, false, false] rfl rfl (any_of HT_.out (by kernel_rfl)) (fun _ _ _ h=>h) (Or.inl ⟨by rfl,?_⟩) ?_ ?_
      rotate_left
      · intro w';go_simp;with_reducible rfl
      rotate_left
      · (simp only [Act.put, fillAll, List.setIfInBounds_toArray, List.set_cons_zero, List.set_cons_succ, i64_w, i32_w]; rfl)
      refine pure_ (i:=16) (N:=(some 88)) (v:=?_) (a':=?_) #[true, true, true, true, true, true, true, true, true, true, true, true, true, true, true, false, true, false, false, false, false, false, false, false, false, false, false, false, false, false, false, false, false, false, false, false, false, false, false, false, false, false, false, false, false, false, false] rfl rfl (any_of HT_.out (by kernel_rfl)) (fun _ _ _ h=>h) (Or.inl ⟨by rfl,?_⟩) ?_ ?_
      rotate_left
      · intro w';go_simp;with_reducible rfl
      rotate_left
      · (simp only [Act.put, fillAll, List.setIfInBounds_toArray, List.set_cons_zero, List.set_cons_succ, i64_w, i32_w]; rfl)
      refine pure_ (i:=21) (N:=(some 93)) (v:=?_) (a':=?_) #[true, true, true, true, true, true, true, true, true, true, true, true, true, true, true, false, true, false, false, false, false, true, false, false, false, false, false, false, false, false, false, false, false, false, false, false, false, false, false, false, false, false, false, false, false, false, false] rfl rfl (any_of HT_.out (by kernel_rfl)) (fun _ _ _ h=>h) (Or.inl ⟨by rfl,?_⟩) ?_ ?_
      rotate_left
      · intro w';go_simp;with_reducible rfl
      rotate_left
      · (simp only [Act.put, fillAll, List.setIfInBounds_toArray, List.set_cons_zero, List.set_cons_succ, i64_w, i32_w]; rfl)
      refine pure_ (i:=23) (N:=(some 95)) (v:=?_) (a':=?_) #[true, true, true, true, true, true, true, true, true, true, true, true, true, true, true, false, true, false, false, false, false, true, false, true, false, false, false, false, false, false, false, false, false, false, false, false, false, false, false, false, false, false, false, false, false, false, false] rfl rfl (any_of HT_.out (by kernel_rfl)) (fun _ _ _ h=>h) (Or.inl ⟨by rfl,?_⟩) ?_ ?_
      rotate_left
      · intro w';go_simp;with_reducible rfl
      rotate_left
      · (simp only [Act.put, fillAll, List.setIfInBounds_toArray, List.set_cons_zero, List.set_cons_succ, i64_w, i32_w]; rfl)
      apply r_ld (i:=15) (N:=(some 87)) #[true, true, true, true, true, true, true, true, true, true, true, true, true, true, true, true, true, false, false, false, false, true, false, true, false, false, false, false, false, false, false, false, false, false, false, false, false, false, false, false, false, false, false, false, false, false, false]
      (case hi=>rfl)
      (case hN=>rfl)
      (case hc=>exact take_ofW HT_.out HW_.out (by kernel_rfl))
      (case hQ=>exact fun _ _ _ h=>h)
      (case ho=>rfl)
      (case hw=>rfl)
      (case hx=>rfl)
      (case ha=>rfl)
      (case hS=>exact HSS.out)
      (case hv=>first|exact fun _ h=>h.1|exact fun _ h=>h.2.1|exact fun _ h=>h.2.2.1|exact fun _ h=>h.2.2.2.1|exact fun _ h=>h.2.2.2.2.1|exact fun _ h=>h.2.2.2.2.2.1|exact fun _ h=>h.2.2.2.2.2.2.1|exact fun _ h=>h.2.2.2.2.2.2.2)
      (case hp=>(simp only [Act.put, fillAll, List.setIfInBounds_toArray, List.set_cons_zero, List.set_cons_succ, i64_w, i32_w]; rfl))
      refine pure_ (i:=17) (N:=(some 89)) (v:=?_) (a':=?_) #[true, true, true, true, true, true, true, true, true, true, true, true, true, true, true, true, true, true, false, false, false, true, false, true, false, false, false, false, false, false, false, false, false, false, false, false, false, false, false, false, false, false, false, false, false, false, false] rfl rfl (any_of HT_.out (by kernel_rfl)) (fun _ _ _ h=>h) (Or.inl ⟨by rfl,?_⟩) ?_ ?_
      rotate_left
      · intro w';go_simp;with_reducible rfl
      rotate_left
      · (simp only [Act.put, fillAll, List.setIfInBounds_toArray, List.set_cons_zero, List.set_cons_succ, i64_w, i32_w]; rfl)
      refine pure_ (i:=18) (N:=(some 90)) (v:=?_) (a':=?_) #[true, true, true, true, true, true, true, true, true, true, true, true, true, true, true, true, true, true, true, false, false, true, false, true, false, false, false, false, false, false, false, false, false, false, false, false, false, false, false, false, false, false, false, false, false, false, false] rfl rfl (any_of HT_.out (by kernel_rfl)) (fun _ _ _ h=>h) (Or.inl ⟨by rfl,?_⟩) ?_ ?_
      rotate_left
      · intro w';go_simp;with_reducible rfl
      rotate_left
      · (simp only [Act.put, fillAll, List.setIfInBounds_toArray, List.set_cons_zero, List.set_cons_succ, i64_w, i32_w]; rfl)
      refine pure_ (i:=19) (N:=(some 91)) (v:=?_) (a':=?_) #[true, true, true, true, true, true, true, true, true, true, true, true, true, true, true, true, true, true, true, true, false, true, false, true, false, false, false, false, false, false, false, false, false, false, false, false, false, false, false, false, false, false, false, false, false, false, false] rfl rfl (any_of HT_.out (by kernel_rfl)) (fun _ _ _ h=>h) (Or.inl ⟨by rfl,?_⟩) ?_ ?_
      rotate_left
      · intro w';go_simp;with_reducible rfl
      rotate_left
      · (simp only [Act.put, fillAll, List.setIfInBounds_toArray, List.set_cons_zero, List.set_cons_succ, i64_w, i32_w]; rfl)
      apply r_ld (i:=20) (N:=(some 92)) #[true, true, true, true, true, true, true, true, true, true, true, true, true, true, true, true, true, true, true, true, true, true, false, true, false, false, false, false, false, false, false, false, false, false, false, false, false, false, false, false, false, false, false, false, false, false, false]
      (case hi=>rfl)
      (case hN=>rfl)
      (case hc=>exact take_ofW HT_.out HW_.out (by kernel_rfl))
      (case hQ=>exact fun _ _ _ h=>h)
      (case ho=>rfl)
      (case hw=>rfl)
      (case hx=>rfl)
      (case ha=>rfl)
      (case hS=>exact HSS.out)
      (case hv=>first|exact fun _ h=>h.1|exact fun _ h=>h.2.1|exact fun _ h=>h.2.2.1|exact fun _ h=>h.2.2.2.1|exact fun _ h=>h.2.2.2.2.1|exact fun _ h=>h.2.2.2.2.2.1|exact fun _ h=>h.2.2.2.2.2.2.1|exact fun _ h=>h.2.2.2.2.2.2.2)
      (case hp=>(simp only [Act.put, fillAll, List.setIfInBounds_toArray, List.set_cons_zero, List.set_cons_succ, i64_w, i32_w]; rfl))
      apply r_ld (i:=22) (N:=(some 94)) #[true, true, true, true, true, true, true, true, true, true, true, true, true, true, true, true, true, true, true, true, true, true, true, true, false, false, false, false, false, false, false, false, false, false, false, false, false, false, false, false, false, false, false, false, false, false, false]
      (case hi=>rfl)
      (case hN=>rfl)
      (case hc=>exact take_ofW HT_.out HW_.out (by kernel_rfl))
      (case hQ=>exact fun _ _ _ h=>h)
      (case ho=>rfl)
      (case hw=>rfl)
      (case hx=>rfl)
      (case ha=>rfl)
      (case hS=>exact HSS.out)
      (case hv=>first|exact fun _ h=>h.1|exact fun _ h=>h.2.1|exact fun _ h=>h.2.2.1|exact fun _ h=>h.2.2.2.1|exact fun _ h=>h.2.2.2.2.1|exact fun _ h=>h.2.2.2.2.2.1|exact fun _ h=>h.2.2.2.2.2.2.1|exact fun _ h=>h.2.2.2.2.2.2.2)
      (case hp=>(simp only [Act.put, fillAll, List.setIfInBounds_toArray, List.set_cons_zero, List.set_cons_succ, i64_w, i32_w]; rfl))
      refine pure_ (i:=24) (N:=(some 96)) (v:=?_) (a':=?_) #[true, true, true, true, true, true, true, true, true, true, true, true, true, true, true, true, true, true, true, true, true, true, true, true, true, false, false, false, false, false, false, false, false, false, false, false, false, false, false, false, false, false, false, false, false, false, false] rfl rfl (any_of HT_.out (by kernel_rfl)) (fun _ _ _ h=>h) (Or.inl ⟨by rfl,?_⟩) ?_ ?_
      rotate_left
      · intro w';go_simp;with_reducible rfl
      rotate_left
      · (simp only [Act.put, fillAll, List.setIfInBounds_toArray, List.set_cons_zero, List.set_cons_succ, i64_w, i32_w]; rfl)
      refine pure_ (i:=25) (N:=(some 97)) (v:=?_) (a':=?_) #[true, true, true, true, true, true, true, true, true, true, true, true, true, true, true, true, true, true, true, true, true, true, true, true, true, true, false, false, false, false, false, false, false, false, false, false, false, false, false, false, false, false, false, false, false, false, false] rfl rfl (any_of HT_.out (by kernel_rfl)) (fun _ _ _ h=>h) (Or.inl ⟨by rfl,?_⟩) ?_ ?_
      rotate_left
      · intro w';go_simp;with_reducible rfl
      rotate_left
      · (simp only [Act.put, fillAll, List.setIfInBounds_toArray, List.set_cons_zero, List.set_cons_succ, i64_w, i32_w]; rfl)
      refine pure_ (i:=26) (N:=(some 98)) (v:=?_) (a':=?_) #[true, true, true, true, true, true, true, true, true, true, true, true, true, true, true, true, true, true, true, true, true, true, true, true, true, true, true, false, false, false, false, false, false, false, false, false, false, false, false, false, false, false, false, false, false, false, false] rfl rfl (any_of HT_.out (by kernel_rfl)) (fun _ _ _ h=>h) (Or.inl ⟨by rfl,?_⟩) ?_ ?_
      rotate_left
      · intro w';go_simp;with_reducible rfl
      rotate_left
      · (simp only [Act.put, fillAll, List.setIfInBounds_toArray, List.set_cons_zero, List.set_cons_succ, i64_w, i32_w]; rfl)
      apply r_ld (i:=27) (N:=(some 99)) #[true, true, true, true, true, true, true, true, true, true, true, true, true, true, true, true, true, true, true, true, true, true, true, true, true, true, true, true, false, false, false, false, false, false, false, false, false, false, false, false, false, false, false, false, false, false, false]
      (case hi=>rfl)
      (case hN=>rfl)
      (case hc=>exact take_ofW HT_.out HW_.out (by kernel_rfl))
      (case hQ=>exact fun _ _ _ h=>h)
      (case ho=>rfl)
      (case hw=>rfl)
      (case hx=>rfl)
      (case ha=>rfl)
      (case hS=>exact HSS.out)
      (case hv=>first|exact fun _ h=>h.1|exact fun _ h=>h.2.1|exact fun _ h=>h.2.2.1|exact fun _ h=>h.2.2.2.1|exact fun _ h=>h.2.2.2.2.1|exact fun _ h=>h.2.2.2.2.2.1|exact fun _ h=>h.2.2.2.2.2.2.1|exact fun _ h=>h.2.2.2.2.2.2.2)
      (case hp=>(simp only [Act.put, fillAll, List.setIfInBounds_toArray, List.set_cons_zero, List.set_cons_succ, i64_w, i32_w]; rfl))
      refine pure_ (i:=28) (N:=(some 100)) (v:=?_) (a':=?_) #[true, true, true, true, true, true, true, true, true, true, true, true, true, true, true, true, true, true, true, true, true, true, true, true, true, true, true, true, true, false, false, false, false, false, false, false, false, false, false, false, false, false, false, false, false, false, false] rfl rfl (any_of HT_.out (by kernel_rfl)) (fun _ _ _ h=>h) (Or.inl ⟨by rfl,?_⟩) ?_ ?_
      rotate_left
      · intro w';go_simp;with_reducible rfl
      rotate_left
      · (simp only [Act.put, fillAll, List.setIfInBounds_toArray, List.set_cons_zero, List.set_cons_succ, i64_w, i32_w]; rfl)
      refine pure_ (i:=29) (N:=(some 101)) (v:=?_) (a':=?_) #[true, true, true, true, true, true, true, true, true, true, true, true, true, true, true, true, true, true, true, true, true, true, true, true, true, true, true, true, true, true, false, false, false, false, false, false, false, false, false, false, false, false, false, false, false, false, false] rfl rfl (any_of HT_.out (by kernel_rfl)) (fun _ _ _ h=>h) (Or.inl ⟨by rfl,?_⟩) ?_ ?_
      rotate_left
      · intro w';go_simp;with_reducible rfl
      rotate_left
      · (simp only [Act.put, fillAll, List.setIfInBounds_toArray, List.set_cons_zero, List.set_cons_succ, i64_w, i32_w]; rfl)
      refine pure_ (i:=30) (N:=(some 102)) (v:=?_) (a':=?_) #[true, true, true, true, true, true, true, true, true, true, true, true, true, true, true, true, true, true, true, true, true, true, true, true, true, true, true, true, true, true, true, false, false, false, false, false, false, false, false, false, false, false, false, false, false, false, false] rfl rfl (any_of HT_.out (by kernel_rfl)) (fun _ _ _ h=>h) (Or.inl ⟨by rfl,?_⟩) ?_ ?_
      rotate_left
      · intro w';go_simp;with_reducible rfl
      rotate_left
      · (simp only [Act.put, fillAll, List.setIfInBounds_toArray, List.set_cons_zero, List.set_cons_succ, i64_w, i32_w]; rfl)
      refine pure_ (i:=31) (N:=(some 103)) (v:=?_) (a':=?_) #[true, true, true, true, true, true, true, true, true, true, true, true, true, true, true, true, true, true, true, true, true, true, true, true, true, true, true, true, true, true, true, true, false, false, false, false, false, false, false, false, false, false, false, false, false, false, false] rfl rfl (any_of HT_.out (by kernel_rfl)) (fun _ _ _ h=>h) (Or.inl ⟨by rfl,?_⟩) ?_ ?_
      rotate_left
      · intro w';go_simp;with_reducible rfl
      rotate_left
      · (simp only [Act.put, fillAll, List.setIfInBounds_toArray, List.set_cons_zero, List.set_cons_succ, i64_w, i32_w]; rfl)
      refine pure_ (i:=33) (N:=(some 105)) (v:=?_) (a':=?_) #[true, true, true, true, true, true, true, true, true, true, true, true, true, true, true, true, true, true, true, true, true, true, true, true, true, true, true, true, true, true, true, true, false, true, false, false, false, false, false, false, false, false, false, false, false, false, false] rfl rfl (any_of HT_.out (by kernel_rfl)) (fun _ _ _ h=>h) (Or.inl ⟨by rfl,?_⟩) ?_ ?_
      rotate_left
      · intro w';go_simp;with_reducible rfl
      rotate_left
      · (simp only [Act.put, fillAll, List.setIfInBounds_toArray, List.set_cons_zero, List.set_cons_succ, i64_w, i32_w]; rfl)
      refine pure_ (i:=38) (N:=(some 110)) (v:=?_) (a':=?_) #[true, true, true, true, true, true, true, true, true, true, true, true, true, true, true, true, true, true, true, true, true, true, true, true, true, true, true, true, true, true, true, true, false, true, false, false, false, false, true, false, false, false, false, false, false, false, false] rfl rfl (any_of HT_.out (by kernel_rfl)) (fun _ _ _ h=>h) (Or.inl ⟨by rfl,?_⟩) ?_ ?_
      rotate_left
      · intro w';go_simp;with_reducible rfl
      rotate_left
      · (simp only [Act.put, fillAll, List.setIfInBounds_toArray, List.set_cons_zero, List.set_cons_succ, i64_w, i32_w]; rfl)
      refine pure_ (i:=40) (N:=(some 112)) (v:=?_) (a':=?_) #[true, true, true, true, true, true, true, true, true, true, true, true, true, true, true, true, true, true, true, true, true, true, true, true, true, true, true, true, true, true, true, true, false, true, false, false, false, false, true, false, true, false, false, false, false, false, false] rfl rfl (any_of HT_.out (by kernel_rfl)) (fun _ _ _ h=>h) (Or.inl ⟨by rfl,?_⟩) ?_ ?_
      rotate_left
      · intro w';go_simp;with_reducible rfl
      rotate_left
      · (simp only [Act.put, fillAll, List.setIfInBounds_toArray, List.set_cons_zero, List.set_cons_succ, i64_w, i32_w]; rfl)
      apply r_ld (i:=32) (N:=(some 104)) #[true, true, true, true, true, true, true, true, true, true, true, true, true, true, true, true, true, true, true, true, true, true, true, true, true, true, true, true, true, true, true, true, true, true, false, false, false, false, true, false, true, false, false, false, false, false, false]
      (case hi=>rfl)
      (case hN=>rfl)
      (case hc=>exact take_ofW HT_.out HW_.out (by kernel_rfl))
      (case hQ=>exact fun _ _ _ h=>h)
      (case ho=>rfl)
      (case hw=>rfl)
      (case hx=>rfl)
      (case ha=>rfl)
      (case hS=>exact HSS.out)
      (case hv=>first|exact fun _ h=>h.1|exact fun _ h=>h.2.1|exact fun _ h=>h.2.2.1|exact fun _ h=>h.2.2.2.1|exact fun _ h=>h.2.2.2.2.1|exact fun _ h=>h.2.2.2.2.2.1|exact fun _ h=>h.2.2.2.2.2.2.1|exact fun _ h=>h.2.2.2.2.2.2.2)
      (case hp=>(simp only [Act.put, fillAll, List.setIfInBounds_toArray, List.set_cons_zero, List.set_cons_succ, i64_w, i32_w]; rfl))
      refine pure_ (i:=34) (N:=(some 106)) (v:=?_) (a':=?_) #[true, true, true, true, true, true, true, true, true, true, true, true, true, true, true, true, true, true, true, true, true, true, true, true, true, true, true, true, true, true, true, true, true, true, true, false, false, false, true, false, true, false, false, false, false, false, false] rfl rfl (any_of HT_.out (by kernel_rfl)) (fun _ _ _ h=>h) (Or.inl ⟨by rfl,?_⟩) ?_ ?_
      rotate_left
      · intro w';go_simp;with_reducible rfl
      rotate_left
      · (simp only [Act.put, fillAll, List.setIfInBounds_toArray, List.set_cons_zero, List.set_cons_succ, i64_w, i32_w]; rfl)
      refine pure_ (i:=35) (N:=(some 107)) (v:=?_) (a':=?_) #[true, true, true, true, true, true, true, true, true, true, true, true, true, true, true, true, true, true, true, true, true, true, true, true, true, true, true, true, true, true, true, true, true, true, true, true, false, false, true, false, true, false, false, false, false, false, false] rfl rfl (any_of HT_.out (by kernel_rfl)) (fun _ _ _ h=>h) (Or.inl ⟨by rfl,?_⟩) ?_ ?_
      rotate_left
      · intro w';go_simp;with_reducible rfl
      rotate_left
      · (simp only [Act.put, fillAll, List.setIfInBounds_toArray, List.set_cons_zero, List.set_cons_succ, i64_w, i32_w]; rfl)
      refine pure_ (i:=36) (N:=(some 108)) (v:=?_) (a':=?_) #[true, true, true, true, true, true, true, true, true, true, true, true, true, true, true, true, true, true, true, true, true, true, true, true, true, true, true, true, true, true, true, true, true, true, true, true, true, false, true, false, true, false, false, false, false, false, false] rfl rfl (any_of HT_.out (by kernel_rfl)) (fun _ _ _ h=>h) (Or.inl ⟨by rfl,?_⟩) ?_ ?_
      rotate_left
      · intro w';go_simp;with_reducible rfl
      rotate_left
      · (simp only [Act.put, fillAll, List.setIfInBounds_toArray, List.set_cons_zero, List.set_cons_succ, i64_w, i32_w]; rfl)
      apply r_ld (i:=37) (N:=(some 109)) #[true, true, true, true, true, true, true, true, true, true, true, true, true, true, true, true, true, true, true, true, true, true, true, true, true, true, true, true, true, true, true, true, true, true, true, true, true, true, true, false, true, false, false, false, false, false, false]
      (case hi=>rfl)
      (case hN=>rfl)
      (case hc=>exact take_ofW HT_.out HW_.out (by kernel_rfl))
      (case hQ=>exact fun _ _ _ h=>h)
      (case ho=>rfl)
      (case hw=>rfl)
      (case hx=>rfl)
      (case ha=>rfl)
      (case hS=>exact HSS.out)
      (case hv=>first|exact fun _ h=>h.1|exact fun _ h=>h.2.1|exact fun _ h=>h.2.2.1|exact fun _ h=>h.2.2.2.1|exact fun _ h=>h.2.2.2.2.1|exact fun _ h=>h.2.2.2.2.2.1|exact fun _ h=>h.2.2.2.2.2.2.1|exact fun _ h=>h.2.2.2.2.2.2.2)
      (case hp=>(simp only [Act.put, fillAll, List.setIfInBounds_toArray, List.set_cons_zero, List.set_cons_succ, i64_w, i32_w]; rfl))
      apply r_ld (i:=39) (N:=(some 111)) #[true, true, true, true, true, true, true, true, true, true, true, true, true, true, true, true, true, true, true, true, true, true, true, true, true, true, true, true, true, true, true, true, true, true, true, true, true, true, true, true, true, false, false, false, false, false, false]
      (case hi=>rfl)
      (case hN=>rfl)
      (case hc=>exact take_ofW HT_.out HW_.out (by kernel_rfl))
      (case hQ=>exact fun _ _ _ h=>h)
      (case ho=>rfl)
      (case hw=>rfl)
      (case hx=>rfl)
      (case ha=>rfl)
      (case hS=>exact HSS.out)
      (case hv=>first|exact fun _ h=>h.1|exact fun _ h=>h.2.1|exact fun _ h=>h.2.2.1|exact fun _ h=>h.2.2.2.1|exact fun _ h=>h.2.2.2.2.1|exact fun _ h=>h.2.2.2.2.2.1|exact fun _ h=>h.2.2.2.2.2.2.1|exact fun _ h=>h.2.2.2.2.2.2.2)
      (case hp=>(simp only [Act.put, fillAll, List.setIfInBounds_toArray, List.set_cons_zero, List.set_cons_succ, i64_w, i32_w]; rfl))
      refine pure_ (i:=41) (N:=(some 113)) (v:=?_) (a':=?_) #[true, true, true, true, true, true, true, true, true, true, true, true, true, true, true, true, true, true, true, true, true, true, true, true, true, true, true, true, true, true, true, true, true, true, true, true, true, true, true, true, true, true, false, false, false, false, false] rfl rfl (any_of HT_.out (by kernel_rfl)) (fun _ _ _ h=>h) (Or.inl ⟨by rfl,?_⟩) ?_ ?_
      rotate_left
      · intro w';go_simp;with_reducible rfl
      rotate_left
      · (simp only [Act.put, fillAll, List.setIfInBounds_toArray, List.set_cons_zero, List.set_cons_succ, i64_w, i32_w]; rfl)
      refine pure_ (i:=42) (N:=(some 114)) (v:=?_) (a':=?_) #[true, true, true, true, true, true, true, true, true, true, true, true, true, true, true, true, true, true, true, true, true, true, true, true, true, true, true, true, true, true, true, true, true, true, true, true, true, true, true, true, true, true, true, false, false, false, false] rfl rfl (any_of HT_.out (by kernel_rfl)) (fun _ _ _ h=>h) (Or.inl ⟨by rfl,?_⟩) ?_ ?_
      rotate_left
      · intro w';go_simp;with_reducible rfl
      rotate_left
      · (simp only [Act.put, fillAll, List.setIfInBounds_toArray, List.set_cons_zero, List.set_cons_succ, i64_w, i32_w]; rfl)
      refine pure_ (i:=43) (N:=(some 115)) (v:=?_) (a':=?_) #[true, true, true, true, true, true, true, true, true, true, true, true, true, true, true, true, true, true, true, true, true, true, true, true, true, true, true, true, true, true, true, true, true, true, true, true, true, true, true, true, true, true, true, true, false, false, false] rfl rfl (any_of HT_.out (by kernel_rfl)) (fun _ _ _ h=>h) (Or.inl ⟨by rfl,?_⟩) ?_ ?_
      rotate_left
      · intro w';go_simp;with_reducible rfl
      rotate_left
      · (simp only [Act.put, fillAll, List.setIfInBounds_toArray, List.set_cons_zero, List.set_cons_succ, i64_w, i32_w]; rfl)
      apply r_ld (i:=44) (N:=(some 116)) #[true, true, true, true, true, true, true, true, true, true, true, true, true, true, true, true, true, true, true, true, true, true, true, true, true, true, true, true, true, true, true, true, true, true, true, true, true, true, true, true, true, true, true, true, true, false, false]
      (case hi=>rfl)
      (case hN=>rfl)
      (case hc=>exact take_ofW HT_.out HW_.out (by kernel_rfl))
      (case hQ=>exact fun _ _ _ h=>h)
      (case ho=>rfl)
      (case hw=>rfl)
      (case hx=>rfl)
      (case ha=>rfl)
      (case hS=>exact HSS.out)
      (case hv=>first|exact fun _ h=>h.1|exact fun _ h=>h.2.1|exact fun _ h=>h.2.2.1|exact fun _ h=>h.2.2.2.1|exact fun _ h=>h.2.2.2.2.1|exact fun _ h=>h.2.2.2.2.2.1|exact fun _ h=>h.2.2.2.2.2.2.1|exact fun _ h=>h.2.2.2.2.2.2.2)
      (case hp=>(simp only [Act.put, fillAll, List.setIfInBounds_toArray, List.set_cons_zero, List.set_cons_succ, i64_w, i32_w]; rfl))
      refine pure_ (i:=45) (N:=(some 117)) (v:=?_) (a':=?_) #[true, true, true, true, true, true, true, true, true, true, true, true, true, true, true, true, true, true, true, true, true, true, true, true, true, true, true, true, true, true, true, true, true, true, true, true, true, true, true, true, true, true, true, true, true, true, false] rfl rfl (any_of HT_.out (by kernel_rfl)) (fun _ _ _ h=>h) (Or.inl ⟨by rfl,?_⟩) ?_ ?_
      rotate_left
      · intro w';go_simp;with_reducible rfl
      rotate_left
      · (simp only [Act.put, fillAll, List.setIfInBounds_toArray, List.set_cons_zero, List.set_cons_succ, i64_w, i32_w]; rfl)
      refine pure_ (i:=46) (N:=(some 118)) (v:=?_) (a':=?_) #[true, true, true, true, true, true, true, true, true, true, true, true, true, true, true, true, true, true, true, true, true, true, true, true, true, true, true, true, true, true, true, true, true, true, true, true, true, true, true, true, true, true, true, true, true, true, true] rfl rfl (any_of HT_.out (by kernel_rfl)) (fun _ _ _ h=>h) (Or.inl ⟨by rfl,?_⟩) ?_ ?_
      rotate_left
      · intro w';go_simp;with_reducible rfl
      rotate_left
      · (simp only [Act.put, fillAll, List.setIfInBounds_toArray, List.set_cons_zero, List.set_cons_succ, i64_w, i32_w]; rfl)
      refine done_ (done_of HT_.out (by kernel_rfl)) ?_
      go_wp2_with (first|go_skip|((with_reducible refine' lc HM ?qw rfl ?qx ?qm ?qa ?qv ?_);(case qw|qx|qa=>rfl);(case qm=>repeat constructor);(case qv=>rfl))|((with_reducible refine' la HM ?qw rfl ?qx ?qm ?qa ?_);(case qw|qx=>rfl);(case qm=>repeat constructor);(case qa=>rfl))|((with_reducible refine' pa HM ?qw rfl ?qx _ ?qy ?qm ?qa ?_);(case qw|qx|qy=>rfl);(case qm=>repeat constructor);(case qa=>rfl);clear HM;intro _ HM)|((with_reducible refine' bz HM ?qw rfl ?qa ?qc ?_);(case qw|qa|qc=>rfl);clear HM;intro _ _ HM))
      go_roundw
      case rel => exact ⟨i + 1, by go_num, ⟨by omega⟩, HM⟩
      case measure => simp [intOf]; omega
    · have hil : i = u.length := by have := HIX.out; omega
      have hlz : ¬ ((i : Int) < (u.length : Int)) := by omega
      go_upto_region 19 with (first|go_skip|((with_reducible refine' lc HM ?qw rfl ?qx ?qm ?qa ?qv ?_);(case qw|qx|qa=>rfl);(case qm=>repeat constructor);(case qv=>rfl))|((with_reducible refine' la HM ?qw rfl ?qx ?qm ?qa ?_);(case qw|qx=>rfl);(case qm=>repeat constructor);(case qa=>rfl))|((with_reducible refine' pa HM ?qw rfl ?qx _ ?qy ?qm ?qa ?_);(case qw|qx|qy=>rfl);(case qm=>repeat constructor);(case qa=>rfl);clear HM;intro _ HM)|((with_reducible refine' bz HM ?qw rfl ?qa ?qc ?_);(case qw|qa|qc=>rfl);clear HM;intro _ _ HM))
      refine r_start (ds := []) HM.out #[false, false, false, false, false, false, false, false] (by kernel_rfl) rfl rfl (fun _ hM => ?_)
      refine with_tabW twr19Tab twr19Bits (fun HT_ HW_ => ?_)
      clear HM
      have HM := Aside0.mk hM
      clear hM
      apply r_all (i:=0) (N:=(some 120)) #[true, false, false, false, false, false, false, false]
      (case hi=>rfl)
      (case hN=>rfl)
      (case hc=>exact take_ofW HT_.out HW_.out (by kernel_rfl))
      (case hQ=>exact fun _ _ _ h=>h)
      (case ho=>rfl)
      (case hw=>rfl)
      (case hx=>rfl)
      (case ha=>exact agg35)
      (case hH=>first|exact HM.out.held|exact HM.out.heldTail|exact HM.out.heldTail2)
      (case hm=>first | exact m0 | exact m1 | exact m2 | exact m3 | exact m4 | exact m5)
      (case hl=>rfl)
      (case hp=>(simp only [Act.put, fillAll, List.setIfInBounds_toArray, List.set_cons_zero, List.set_cons_succ, i64_w, i32_w]; rfl))
      apply r_all (i:=1) (N:=(some 121)) #[true, true, false, false, false, false, false, false]
      (case hi=>rfl)
      (case hN=>rfl)
      (case hc=>exact take_ofW HT_.out HW_.out (by kernel_rfl))
      (case hQ=>exact fun _ _ _ h=>h)
      (case ho=>rfl)
      (case hw=>rfl)
      (case hx=>rfl)
      (case ha=>exact agg35)
      (case hH=>first|exact HM.out.held|exact HM.out.heldTail|exact HM.out.heldTail2)
      (case hm=>first | exact m0 | exact m1 | exact m2 | exact m3 | exact m4 | exact m5)
      (case hl=>rfl)
      (case hp=>(simp only [Act.put, fillAll, List.setIfInBounds_toArray, List.set_cons_zero, List.set_cons_succ, i64_w, i32_w]; rfl))
      apply r_all (i:=4) (N:=(some 124)) #[true, true, false, false, true, false, false, false]
      (case hi=>rfl)
      (case hN=>rfl)
      (case hc=>exact take_ofW HT_.out HW_.out (by kernel_rfl))
      (case hQ=>exact fun _ _ _ h=>h)
      (case ho=>rfl)
      (case hw=>rfl)
      (case hx=>rfl)
      (case ha=>exact agg35)
      (case hH=>first|exact HM.out.held|exact HM.out.heldTail|exact HM.out.heldTail2)
      (case hm=>first | exact m0 | exact m1 | exact m2 | exact m3 | exact m4 | exact m5)
      (case hl=>rfl)
      (case hp=>(simp only [Act.put, fillAll, List.setIfInBounds_toArray, List.set_cons_zero, List.set_cons_succ, i64_w, i32_w]; rfl))
      refine one_ (i := 2) (N := (some 122)) #[true, true, true, false, true, false, false, false] rfl rfl (one_of HT_.out (by kernel_rfl)) (by decide) (fun K hK => ?_)
      refine goes_ Tryd.func34 (by kernel_rfl) rfl _ (by rfl) rfl rfl (by simp only [List.map_toArray, List.map_cons, List.map_nil]; rfl) ?_
      refine (HGO.out _ _ _ HM.out (fun _ h => h.1.2) (fun _ h => h.2)).mono ?_
      rintro e w_ ⟨Ao, co, rfl, hM⟩
      refine ⟨_, rfl, ?_⟩
      refine hK.out _ _ hM.held (fun _ => ?_)
      clear hK K
      clear HM
      have HM := Aside0.mk hM
      clear hM
      refine norm_ (a' := ?_) ?_ ?_
      rotate_left
      · (simp only [Act.put, fillAll, List.setIfInBounds_toArray, List.set_cons_zero, List.set_cons_succ, i64_w, i32_w]; rfl)
      refine pure_ (i:=3) (N:=(some 123)) (v:=?_) (a':=?_) #[true, true, true, true, true, false, false, false] rfl rfl (any_of HT_.out (by kernel_rfl)) (fun _ _ _ h=>h) (Or.inl ⟨by rfl,?_⟩) ?_ ?_
      rotate_left
      · intro w';go_simp;with_reducible rfl
      rotate_left
      · (simp only [Act.put, fillAll, List.setIfInBounds_toArray, List.set_cons_zero, List.set_cons_succ, i64_w, i32_w]; rfl)
      refine one_ (i := 5) (N := (some 125)) #[true, true, true, true, true, true, false, false] rfl rfl (one_of HT_.out (by kernel_rfl)) (by decide) (fun K hK => ?_)
      refine goes_ Tryd.func33 (by kernel_rfl) rfl _ (by rfl) rfl rfl (by simp only [List.map_toArray, List.map_cons, List.map_nil]; rfl) ?_
      refine (HFb.out _ _ _ HM.out (fun _ h => h.1.1.2)).mono ?_
      rintro e w_ ⟨rfl, hM⟩
      refine ⟨_, rfl, ?_⟩
      refine hK.out _ _ hM.held (fun _ => ?_)
      clear hK K
      clear HM
      have HM := Aside0.mk hM
      clear hM
      refine norm_ (a' := ?_) ?_ ?_
      rotate_left
      · (simp only [Act.put, fillAll, List.setIfInBounds_toArray, List.set_cons_zero, List.set_cons_succ, i64_w, i32_w]; rfl)
      refine pure_ (i:=6) (N:=(some 126)) (v:=?_) (a':=?_) #[true, true, true, true, true, true, true, false] rfl rfl (any_of HT_.out (by kernel_rfl)) (fun _ _ _ h=>h) (Or.inl ⟨by rfl,?_⟩) ?_ ?_
      rotate_left
      · intro w';go_simp;with_reducible rfl
      rotate_left
      · (simp only [Act.put, fillAll, List.setIfInBounds_toArray, List.set_cons_zero, List.set_cons_succ, i64_w, i32_w]; rfl)
      refine pure_ (i:=7) (N:=(some 4)) (v:=?_) (a':=?_) #[true, true, true, true, true, true, true, true] rfl rfl (any_of HT_.out (by kernel_rfl)) (fun _ _ _ h=>h) (Or.inl ⟨by rfl,?_⟩) ?_ ?_
      rotate_left
      · intro w';go_simp;with_reducible rfl
      rotate_left
      · (simp only [Act.put, fillAll, List.setIfInBounds_toArray, List.set_cons_zero, List.set_cons_succ, i64_w, i32_w]; rfl)
      refine done_ (done_of HT_.out (by kernel_rfl)) ?_
      go_wp2
      go_ret
      exact ⟨rfl, HM.out.below⟩
end Go.Proofs.YtolpamojbiipaaaDoor.XA
