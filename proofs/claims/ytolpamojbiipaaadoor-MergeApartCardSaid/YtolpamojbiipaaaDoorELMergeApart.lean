/- MergeApart's walk over Mem. Printed by wip/tools. -/
import Derived.Test.YtolpamojbiipaaaDoorEMemMerge
import Derived.Test.YtolpamojbiipaaaDoorEMemS
import Derived.Test.YtolpamojbiipaaaDoorUApart
import Derived.Test.YtolpamojbiipaaaDoorEMemRow
namespace Go.Proofs.YtolpamojbiipaaaDoor.XA
open Go.RowKit Go.Proofs.YtolpamojbiipaaaDoorW.PrintWords Go.Proofs.YtolpamojbiipaaaDoorW.PrintLast Go.Proofs.YtolpamojbiipaaaDoorW.PrintMore Go.Proofs.YtolpamojbiipaaaDoor.Mem Go.Proofs.YtolpamojbiipaaaDoor.Pure
set_option linter.unusedVariables false
set_option linter.unusedSimpArgs false

def apr18T : Bool × List (List Nat × List Nat) := (true, [([], []), ([0], [0]), ([1], [1]), ([2], [2]), ([3, 2], [2, 3]), ([4, 2], [2, 4]), ([2], [2]), ([6, 2], [2, 6]), ([7, 2], [2, 7]), ([2], [2]), ([9, 2], [2, 9]), ([10, 2], [2, 10]), ([8, 11, 2], [2, 8, 11]), ([2], [2]), ([12, 13, 2], [2, 12, 13]), ([5, 14, 2], [2, 5, 14]), ([2, 15], [2, 15]), ([16, 2], [16]), ([17], [17]), ([18, 17, 17], [17, 18]), ([17], [17]), ([20, 19, 17], [17, 20]), ([17], [17]), ([22, 21, 17], [17, 22]), ([21, 23, 17], [17, 21, 23]), ([19, 24, 17], [17, 19, 24]), ([17, 25], [17, 25]), ([26, 23], [26]), ([27], [27]), ([27], [27]), ([28, 29, 27, 27], [27, 28, 29]), ([30, 27], [27, 30]), ([31, 27], [27, 31]), ([27, 32], [27, 32]), ([33, 30, 0, 1, 2, 3, 4, 5, 6, 7, 8, 9, 10, 11, 12, 13, 14, 15, 16, 17, 18, 19, 20, 21, 22, 23, 24, 25, 26, 27, 28, 29, 30, 31, 32, 33], [33])])
def apr18B : List Nat := [0, 1, 3, 7, 15, 31, 7, 71, 199, 7, 519, 1543, 4039, 7, 16327, 32767, 65535, 131071, 262143, 524287, 262143, 2097151, 262143, 8388607, 16777215, 33554431, 67108863, 134217727, 268435455, 268435455, 1073741823, 2147483647, 4294967295, 8589934591, 17179869183]
theorem apr18Tab : rtab .any (opsOf Tryd.f9 18) = apr18T := by kernel_rfl
theorem apr18Bits : waitsOk apr18T.2 apr18B = true := by kernel_rfl
set_option maxHeartbeats 8000000 in
set_option maxRecDepth 100000 in
theorem MergeApart_walk (w : World) (HG0 : GG w) (A0 : Option Addr) (c0 : Nat) (xs : List S104) (hr0 : Kd.C k104 w A0 xs.length xs) (hm0 : xs.length ≤ 9223372036854775807) (hw0 : ∀ x ∈ xs, ((Lit.int .i64 x.f0).wf = true ∧ (Lit.int .i64 x.f1).wf = true ∧ x.f2.size ≤ 9223372036854775807 ∧ x.f3.size ≤ 9223372036854775807)) (A1 : Option Addr) (c1 : Nat) (ys : List S104) (hr1 : Kd.C k104 w A1 ys.length ys) (hm1 : ys.length ≤ 9223372036854775807) (hw1 : ∀ x ∈ ys, ((Lit.int .i64 x.f0).wf = true ∧ (Lit.int .i64 x.f1).wf = true ∧ x.f2.size ≤ 9223372036854775807 ∧ x.f3.size ≤ 9223372036854775807)) :
    Calls Tryd.prog 9 #[.slice A0 xs.length c0, .slice A1 ys.length c1] w fun e w' => e = .returned (.bool true) ∧ Below w.heap.size w w' := by
  have HM : Aside0 (Mem w (fun k => k < w.heap.size) w [] (Two A0 A1 xs ys)) := ⟨two_M hr0 hr1⟩
  clear hw0 hw1 hr0 hr1
  by_cases hl0 : 30 < xs.length
  · have b0 : decide ((30 : Int) < (xs.length : Int)) = true := decide_eq_true (by omega)
    clear hl0
    go_enter Tryd.func9, Tryd.ntmps9
    go_wp2_with (first|go_skip|(go_at_call 27;refine (lays_M HM.out).mono ?_;rintro e _ ⟨rfl, hM⟩;clear HM;have HM:=Aside0.mk hM;clear hM))
    go_ret
    exact ⟨rfl, HM.out.below⟩
  have b0 : decide ((30 : Int) < (xs.length : Int)) = false := decide_eq_false (by omega)
  by_cases hl1 : 30 < ys.length
  · have b1 : decide ((30 : Int) < (ys.length : Int)) = true := decide_eq_true (by omega)
    clear hl1
    go_enter Tryd.func9, Tryd.ntmps9
    go_wp2_with (first|go_skip|(go_at_call 27;refine (lays_M HM.out).mono ?_;rintro e _ ⟨rfl, hM⟩;clear HM;have HM:=Aside0.mk hM;clear hM))
    go_ret
    exact ⟨rfl, HM.out.below⟩
  have b1 : decide ((30 : Int) < (ys.length : Int)) = false := decide_eq_false (by omega)
  obtain ⟨a, na, ws, nw, ea, hIa, hLa, hNa, hLw, hNw0, hNw, hPa⟩ := plants (P := fun k => k < w.heap.size) HG0 xs (by omega) 0 (by omega)
  obtain ⟨b, nb, ws2, nw2, eb, hIb, hLb, hNb, hLw2, hNw20, hNw2, hPb⟩ := plants (P := fun k => k < w.heap.size) HG0 ys (by omega) 5000 (by omega)
  have HIA := Aside0.mk hIa
  have HIB := Aside0.mk hIb
  have HLA := Aside0.mk hLa
  have HLB := Aside0.mk hLb
  have HNA := Aside0.mk hNa
  have HNB := Aside0.mk hNb
  have HPA := Aside0.mk hPa
  have HPB := Aside0.mk hPb
  clear hl0 hl1 HG0 hPa hPb hIa hIb
  clear ea eb
  have hlbz : (b.length : Int) ≤ 4530 := by have := HLB.out; omega
  go_enter Tryd.func9, Tryd.ntmps9
  go_upto_region 6 with (first|go_skip|((with_reducible refine gate_dst (N := 5) rfl ?_);(with_reducible refine' bz HM ?qw rfl ?qa ?qc ?_);(case qw|qa|qc=>rfl);clear HM;intro g5 _ HM)|((with_reducible refine gate_dst (N := 6) rfl ?_);(with_reducible refine' bz HM ?qw rfl ?qa ?qc ?_);(case qw|qa|qc=>rfl);clear HM;intro g6 _ HM)|((with_reducible refine gate_dst (N := 7) rfl ?_);(with_reducible refine' bz HM ?qw rfl ?qa ?qc ?_);(case qw|qa|qc=>rfl);clear HM;intro g7 _ HM)|((with_reducible refine gate_dst (N := 8) rfl ?_);(with_reducible refine' bz HM ?qw rfl ?qa ?qc ?_);(case qw|qa|qc=>rfl);clear HM;intro g8 _ HM)|((with_reducible refine' lc HM ?qw rfl ?qx ?qm ?qa ?qv ?_);(case qw|qx|qa=>rfl);(case qm=>repeat constructor);(case qv=>rfl))|((with_reducible refine' la HM ?qw rfl ?qx ?qm ?qa ?_);(case qw|qx=>rfl);(case qm=>repeat constructor);(case qa=>rfl))|((with_reducible refine' pa HM ?qw rfl ?qx _ ?qy ?qm ?qa ?_);(case qw|qx|qy=>rfl);(case qm=>repeat constructor);(case qa=>rfl);clear HM;intro _ HM)|(go_at_call 27;refine (lays_M HM.out).mono ?_;rintro e _ ⟨rfl, hM⟩;clear HM;have HM:=Aside0.mk hM;clear hM)|(go_at_call 28; (refine (HPA.out.tree HM.out ?hS).mono ?_); (case hS => exact fun _ h => h.1); rintro e _ ⟨Aa, ca, Awa, cwa, rfl, hc, hM⟩; have HCa := Aside0.mk hc; clear hc; clear HM;have HM:=Aside0.mk hM;clear hM))
  go_wp2_with (first|go_skip|((with_reducible refine gate_dst (N := 5) rfl ?_);(with_reducible refine' bz HM ?qw rfl ?qa ?qc ?_);(case qw|qa|qc=>rfl);clear HM;intro g5 _ HM)|((with_reducible refine gate_dst (N := 6) rfl ?_);(with_reducible refine' bz HM ?qw rfl ?qa ?qc ?_);(case qw|qa|qc=>rfl);clear HM;intro g6 _ HM)|((with_reducible refine gate_dst (N := 7) rfl ?_);(with_reducible refine' bz HM ?qw rfl ?qa ?qc ?_);(case qw|qa|qc=>rfl);clear HM;intro g7 _ HM)|((with_reducible refine gate_dst (N := 8) rfl ?_);(with_reducible refine' bz HM ?qw rfl ?qa ?qc ?_);(case qw|qa|qc=>rfl);clear HM;intro g8 _ HM)|((with_reducible refine' lc HM ?qw rfl ?qx ?qm ?qa ?qv ?_);(case qw|qx|qa=>rfl);(case qm=>repeat constructor);(case qv=>rfl))|((with_reducible refine' la HM ?qw rfl ?qx ?qm ?qa ?_);(case qw|qx=>rfl);(case qm=>repeat constructor);(case qa=>rfl))|((with_reducible refine' pa HM ?qw rfl ?qx _ ?qy ?qm ?qa ?_);(case qw|qx|qy=>rfl);(case qm=>repeat constructor);(case qa=>rfl);clear HM;intro _ HM)|(go_at_call 28; (refine (HPB.out.tree HM.out ?hS).mono ?_); (case hS => exact fun _ h => h.1.2); rintro e _ ⟨Ab, cb, Awb, cwb, rfl, hc, hM⟩; have HCb := Aside0.mk hc; clear hc; clear HM;have HM:=Aside0.mk hM;clear hM))
  go_loopw [9, 39] (fun v9 v39 wr => ∃ (i k : Nat), v39 = .int .i64 i ∧ v9 = .int .i64 k ∧ Aside0 (i ≤ b.length) ∧ Aside0 (k ≤ i) ∧ Aside0 (k = bothN a (b.take i)) ∧ Aside0 (dirsB a (b.take i)) ∧
    Aside0 (Mem w (fun k => k < w.heap.size) wr ((g8, [.slice Awb ws2.length cwb, .int .i64 nw2], 64) :: (g7, [.slice Ab b.length cb, .int .i64 nb], 35) :: (g6, [.slice Awa ws.length cwa, .int .i64 nw], 64) :: (g5, [.slice Aa a.length ca, .int .i64 na], 35) :: []) (fun w => (Two A0 A1 xs ys w ∧ Tr Aa a w) ∧ Tr Ab b w))) (fun _ v39 _ => b.length - (intOf v39).toNat)
  case atStart => exact ⟨0, 0, rfl, rfl, ⟨Nat.zero_le _⟩, ⟨Nat.le_refl _⟩, ⟨rfl⟩, ⟨fun r hr => by simp at hr⟩, HM⟩
  case round =>
    clear HM
    obtain ⟨i, k, rfl, rfl, HIX, HKI, HKB, HD, HM⟩ := hrel
    have hib : (i : Int) ≤ 4530 := by have := HIX.out; omega
    have hkb : (k : Int) ≤ 4530 := by have := HKI.out; omega
    by_cases hlt : i < b.length
    · have hsu := both_succ a b i hlt
      rw [← HKB.out] at hsu
      have hds := dirs_succ hlt HD.out
      have hlz : (i : Int) < (b.length : Int) := by omega
      obtain ⟨ad, ea, hx0, hx1, hx2, hx3, hx4, hx5, hx6, hx7, hx8, hx9, hx10, hx11, hx12⟩ := at_T44 (HM.out.now.2) (i : Int) (by omega) (by omega)
      have hrd : rd_T44 b (i : Int) = b[i] := by unfold rd_T44; rw [Int.toNat_natCast, List.getD_eq_getElem?_getD, List.getElem?_eq_getElem hlt]; rfl
      rw [Int.toNat_natCast, hrd] at hx0 hx1 hx2 hx3 hx4 hx5 hx6 hx7 hx8 hx9 hx11 hx12
      rw [Int.toNat_natCast] at hx10
      have HY := Aside0.mk (HIB.out.clean _ (List.getElem_mem hlt))
      generalize b[i] = y at hx0 hx1 hx2 hx3 hx4 hx5 hx6 hx7 hx8 hx9 hx11 hx12 hsu hds HY
      clear hrd
      subst ea
      obtain ⟨x, hx⟩ : ∃ x, lookR a (pp y) = x := ⟨_, rfl⟩
      rw [hx] at hsu hds
      have HX := Aside0.mk hx
      have HSU := Aside0.mk hsu
      have HDS := Aside0.mk hds
      clear hx hsu hds HKB
      cases x with
      | none =>
        go_upto_region 11 with (first|go_skip|((with_reducible refine' lc HM ?qw rfl ?qx ?qm ?qa ?qv ?_);(case qw|qx|qa=>rfl);(case qm=>repeat constructor);(case qv=>rfl))|((with_reducible refine' la HM ?qw rfl ?qx ?qm ?qa ?_);(case qw|qx=>rfl);(case qm=>repeat constructor);(case qa=>rfl))|((with_reducible refine' pa HM ?qw rfl ?qx _ ?qy ?qm ?qa ?_);(case qw|qx|qy=>rfl);(case qm=>repeat constructor);(case qa=>rfl);clear HM;intro _ HM)|((with_reducible refine' bz HM ?qw rfl ?qa ?qc ?_);(case qw|qa|qc=>rfl);clear HM;intro _ _ HM))
        clear hx0 hx1 hx2 hx3 hx4 hx5 hx6 hx7 hx8 hx9 hx10 hx11 hx12
        have hrow : ∀ (q : S44), [Value.string q.f0, .int .i64 q.f1, .int .i64 q.f2.f0, .int .i64 q.f2.f1, .int .i64 q.f2.f2, .int .i64 q.f2.f3, .int .i64 q.f2.f4, .string q.f2.f5, .string q.f2.f6, .string q.f2.f7, .slice none 0 0, .int .i64 q.f2.f8.f1, .bool q.f2.f9] = rowL q := fun _ => rfl
        rw [hrow] at HM
        clear hrow
        go_wp2_with (first|go_skip|((with_reducible refine' lc HM ?qw rfl ?qx ?qm ?qa ?qv ?_);(case qw|qx|qa=>rfl);(case qm=>repeat constructor);(case qv=>rfl))|((with_reducible refine' la HM ?qw rfl ?qx ?qm ?qa ?_);(case qw|qx=>rfl);(case qm=>repeat constructor);(case qa=>rfl))|((with_reducible refine' pa HM ?qw rfl ?qx _ ?qy ?qm ?qa ?_);(case qw|qx|qy=>rfl);(case qm=>repeat constructor);(case qa=>rfl);clear HM;intro _ HM)|((with_reducible refine' bz HM ?qw rfl ?qa ?qc ?_);(case qw|qa|qc=>rfl);clear HM;intro _ _ HM)|(go_at_call 23; (refine (get_rowN HM.out ?hS HIA.out HCa.out (by have := HLA.out; omega) HY.out HX.out).mono ?_); (case hS => exact fun _ h => h.1.2); rintro e _ ⟨rfl, hM⟩; clear HM;have HM:=Aside0.mk hM;clear hM))
        go_roundw
        case rel => exact ⟨i + 1, k, by go_num, rfl, ⟨by omega⟩, ⟨by have := HKI.out; omega⟩, ⟨by rw [HSU.out]; simp⟩, ⟨HDS.out (fun x h => by cases h)⟩, ⟨HM.out.drop.drop⟩⟩
        case measure => simp [intOf]; omega
      | some o =>
        by_cases h1 : o.f2.f0 = 4
        · by_cases h2 : y.f2.f0 = 4
          · have c1 : (o.f2.f0 == 4) = true := beq_iff_eq.2 h1
            have c2 : (y.f2.f0 == 4) = true := beq_iff_eq.2 h2
            have c3 : (o.f2.f0 != 4) = false := by rw [bne, c1]; rfl
            have c4 : (y.f2.f0 != 4) = false := by rw [bne, c2]; rfl
            have HH := Aside0.mk (And.intro h1 h2)
            clear h1 h2
            go_upto_region 11 with (first|go_skip|((with_reducible refine' lc HM ?qw rfl ?qx ?qm ?qa ?qv ?_);(case qw|qx|qa=>rfl);(case qm=>repeat constructor);(case qv=>rfl))|((with_reducible refine' la HM ?qw rfl ?qx ?qm ?qa ?_);(case qw|qx=>rfl);(case qm=>repeat constructor);(case qa=>rfl))|((with_reducible refine' pa HM ?qw rfl ?qx _ ?qy ?qm ?qa ?_);(case qw|qx|qy=>rfl);(case qm=>repeat constructor);(case qa=>rfl);clear HM;intro _ HM)|((with_reducible refine' bz HM ?qw rfl ?qa ?qc ?_);(case qw|qa|qc=>rfl);clear HM;intro _ _ HM))
            clear hx0 hx1 hx2 hx3 hx4 hx5 hx6 hx7 hx8 hx9 hx10 hx11 hx12
            have hrow : ∀ (q : S44), [Value.string q.f0, .int .i64 q.f1, .int .i64 q.f2.f0, .int .i64 q.f2.f1, .int .i64 q.f2.f2, .int .i64 q.f2.f3, .int .i64 q.f2.f4, .string q.f2.f5, .string q.f2.f6, .string q.f2.f7, .slice none 0 0, .int .i64 q.f2.f8.f1, .bool q.f2.f9] = rowL q := fun _ => rfl
            rw [hrow] at HM
            clear hrow
            go_wp2_with (first|go_skip|((with_reducible refine' lc HM ?qw rfl ?qx ?qm ?qa ?qv ?_);(case qw|qx|qa=>rfl);(case qm=>repeat constructor);(case qv=>rfl))|((with_reducible refine' la HM ?qw rfl ?qx ?qm ?qa ?_);(case qw|qx=>rfl);(case qm=>repeat constructor);(case qa=>rfl))|((with_reducible refine' pa HM ?qw rfl ?qx _ ?qy ?qm ?qa ?_);(case qw|qx|qy=>rfl);(case qm=>repeat constructor);(case qa=>rfl);clear HM;intro _ HM)|((with_reducible refine' bz HM ?qw rfl ?qa ?qc ?_);(case qw|qa|qc=>rfl);clear HM;intro _ _ HM)|(go_at_call 23; (refine (get_rowS HM.out ?hS HIA.out HCa.out (by have := HLA.out; omega) HY.out HX.out).mono ?_); (case hS => exact fun _ h => h.1.2); rintro e _ ⟨rfl, hM⟩; clear HM;have HM:=Aside0.mk hM;clear hM))
            go_roundw
            case rel => exact ⟨i + 1, k + 1, by go_num, by go_num, ⟨by omega⟩, ⟨by have := HKI.out; omega⟩, ⟨by rw [HSU.out]; simp⟩, ⟨HDS.out (fun x h => by cases h; exact HH.out)⟩, ⟨HM.out.drop.drop⟩⟩
            case measure => simp [intOf]; omega
          · have c1 : (o.f2.f0 == 4) = true := beq_iff_eq.2 h1
            have c2 : (y.f2.f0 == 4) = false := beq_eq_false_iff_ne.2 h2
            have c3 : (o.f2.f0 != 4) = false := by rw [bne, c1]; rfl
            have c4 : (y.f2.f0 != 4) = true := by rw [bne, c2]; rfl
            clear h1 h2
            go_upto_region 11 with (first|go_skip|((with_reducible refine' lc HM ?qw rfl ?qx ?qm ?qa ?qv ?_);(case qw|qx|qa=>rfl);(case qm=>repeat constructor);(case qv=>rfl))|((with_reducible refine' la HM ?qw rfl ?qx ?qm ?qa ?_);(case qw|qx=>rfl);(case qm=>repeat constructor);(case qa=>rfl))|((with_reducible refine' pa HM ?qw rfl ?qx _ ?qy ?qm ?qa ?_);(case qw|qx|qy=>rfl);(case qm=>repeat constructor);(case qa=>rfl);clear HM;intro _ HM)|((with_reducible refine' bz HM ?qw rfl ?qa ?qc ?_);(case qw|qa|qc=>rfl);clear HM;intro _ _ HM))
            clear hx0 hx1 hx2 hx3 hx4 hx5 hx6 hx7 hx8 hx9 hx10 hx11 hx12
            have hrow : ∀ (q : S44), [Value.string q.f0, .int .i64 q.f1, .int .i64 q.f2.f0, .int .i64 q.f2.f1, .int .i64 q.f2.f2, .int .i64 q.f2.f3, .int .i64 q.f2.f4, .string q.f2.f5, .string q.f2.f6, .string q.f2.f7, .slice none 0 0, .int .i64 q.f2.f8.f1, .bool q.f2.f9] = rowL q := fun _ => rfl
            rw [hrow] at HM
            clear hrow
            go_wp2_with (first|go_skip|((with_reducible refine' lc HM ?qw rfl ?qx ?qm ?qa ?qv ?_);(case qw|qx|qa=>rfl);(case qm=>repeat constructor);(case qv=>rfl))|((with_reducible refine' la HM ?qw rfl ?qx ?qm ?qa ?_);(case qw|qx=>rfl);(case qm=>repeat constructor);(case qa=>rfl))|((with_reducible refine' pa HM ?qw rfl ?qx _ ?qy ?qm ?qa ?_);(case qw|qx|qy=>rfl);(case qm=>repeat constructor);(case qa=>rfl);clear HM;intro _ HM)|((with_reducible refine' bz HM ?qw rfl ?qa ?qc ?_);(case qw|qa|qc=>rfl);clear HM;intro _ _ HM)|(go_at_call 23; (refine (get_rowS HM.out ?hS HIA.out HCa.out (by have := HLA.out; omega) HY.out HX.out).mono ?_); (case hS => exact fun _ h => h.1.2); rintro e _ ⟨rfl, hM⟩; clear HM;have HM:=Aside0.mk hM;clear hM))
            go_ret
            exact ⟨rfl, HM.out.below⟩
        · have c1 : (o.f2.f0 == 4) = false := beq_eq_false_iff_ne.2 h1
          have c3 : (o.f2.f0 != 4) = true := by rw [bne, c1]; rfl
          clear h1
          go_upto_region 11 with (first|go_skip|((with_reducible refine' lc HM ?qw rfl ?qx ?qm ?qa ?qv ?_);(case qw|qx|qa=>rfl);(case qm=>repeat constructor);(case qv=>rfl))|((with_reducible refine' la HM ?qw rfl ?qx ?qm ?qa ?_);(case qw|qx=>rfl);(case qm=>repeat constructor);(case qa=>rfl))|((with_reducible refine' pa HM ?qw rfl ?qx _ ?qy ?qm ?qa ?_);(case qw|qx|qy=>rfl);(case qm=>repeat constructor);(case qa=>rfl);clear HM;intro _ HM)|((with_reducible refine' bz HM ?qw rfl ?qa ?qc ?_);(case qw|qa|qc=>rfl);clear HM;intro _ _ HM))
          clear hx0 hx1 hx2 hx3 hx4 hx5 hx6 hx7 hx8 hx9 hx10 hx11 hx12
          have hrow : ∀ (q : S44), [Value.string q.f0, .int .i64 q.f1, .int .i64 q.f2.f0, .int .i64 q.f2.f1, .int .i64 q.f2.f2, .int .i64 q.f2.f3, .int .i64 q.f2.f4, .string q.f2.f5, .string q.f2.f6, .string q.f2.f7, .slice none 0 0, .int .i64 q.f2.f8.f1, .bool q.f2.f9] = rowL q := fun _ => rfl
          rw [hrow] at HM
          clear hrow
          go_wp2_with (first|go_skip|((with_reducible refine' lc HM ?qw rfl ?qx ?qm ?qa ?qv ?_);(case qw|qx|qa=>rfl);(case qm=>repeat constructor);(case qv=>rfl))|((with_reducible refine' la HM ?qw rfl ?qx ?qm ?qa ?_);(case qw|qx=>rfl);(case qm=>repeat constructor);(case qa=>rfl))|((with_reducible refine' pa HM ?qw rfl ?qx _ ?qy ?qm ?qa ?_);(case qw|qx|qy=>rfl);(case qm=>repeat constructor);(case qa=>rfl);clear HM;intro _ HM)|((with_reducible refine' bz HM ?qw rfl ?qa ?qc ?_);(case qw|qa|qc=>rfl);clear HM;intro _ _ HM)|(go_at_call 23; (refine (get_rowS HM.out ?hS HIA.out HCa.out (by have := HLA.out; omega) HY.out HX.out).mono ?_); (case hS => exact fun _ h => h.1.2); rintro e _ ⟨rfl, hM⟩; clear HM;have HM:=Aside0.mk hM;clear hM))
          go_ret
          exact ⟨rfl, HM.out.below⟩
    · have hil : i = b.length := by have := HIX.out; omega
      have hlz : ¬ ((i : Int) < (b.length : Int)) := by omega
      have hk := HKB.out
      have hd := HD.out
      rw [hil, List.take_length] at hk hd
      obtain ⟨t, nt, ht, hit, hLt, hNt, hgo, hw⟩ := apart_all HIA.out HIB.out hLa hLb hNa hNb hd hk
      have HWW := Aside0.mk hw
      clear hw
      have hia := HIA.out
      have hib2 := HIB.out
      have HOV := Aside0.mk ht
      have HFa : Aside0 (∀ (W : World) (B : List Bx) (S : World → Prop) {A : Option Addr} {c : Nat} {n : Int}, Mem w (fun k => k < w.heap.size) W B S → (∀ w, S w → Tr A a w) → Calls Tryd.prog 33 #[.agg #[.slice A a.length c, .int .i64 n]] W fun e w' => e = .returned (.int .i64 (con a).2) ∧ Mem w (fun k => k < w.heap.size) w' B S) := ⟨fun W B S A c n hM hS => files_M hM hS hia.ids (by omega) (by omega)⟩
      have HFb : Aside0 (∀ (W : World) (B : List Bx) (S : World → Prop) {A : Option Addr} {c : Nat} {n : Int}, Mem w (fun k => k < w.heap.size) W B S → (∀ w, S w → Tr A b w) → Calls Tryd.prog 33 #[.agg #[.slice A b.length c, .int .i64 n]] W fun e w' => e = .returned (.int .i64 (con b).2) ∧ Mem w (fun k => k < w.heap.size) w' B S) := ⟨fun W B S A c n hM hS => files_M hM hS hib2.ids (by omega) (by omega)⟩
      have HFt : Aside0 (∀ (W : World) (B : List Bx) (S : World → Prop) {A : Option Addr} {c : Nat} {n : Int}, Mem w (fun k => k < w.heap.size) W B S → (∀ w, S w → Tr A t w) → Calls Tryd.prog 33 #[.agg #[.slice A t.length c, .int .i64 n]] W fun e w' => e = .returned (.int .i64 (con t).2) ∧ Mem w (fun k => k < w.heap.size) w' B S) := ⟨fun W B S A c n hM hS => files_M hM hS hit.ids (by omega) (by omega)⟩
      have HGO : Aside0 (∀ (W : World) (B : List Bx) (S : World → Prop) {A A2 : Option Addr} {c c2 : Nat} {n n2 : Int}, Mem w (fun k => k < w.heap.size) W B S → (∀ w, S w → Tr A a w) → (∀ w, S w → Tr A2 t w) → Calls Tryd.prog 34 #[.agg #[.slice A a.length c, .int .i64 n], .agg #[.slice A2 t.length c2, .int .i64 n2]] W fun e w' => ∃ Ao co, e = .returned (.slice Ao 0 co) ∧ Mem w (fun k => k < w.heap.size) w' B S) := ⟨fun W B S A A2 c c2 n n2 hM hS hS2 => by
        refine (gone_M (n := n) (n2 := n2) (c := c) (c2 := c2) hM hS hS2 hia.ids hit.ids (by omega) (by omega) (by omega) (by omega)).mono ?_
        rw [hgo]
        rintro e w' ⟨Ao, co, rfl, hM⟩
        exact ⟨Ao, co, rfl, hM.imp (fun w h => h.1)⟩⟩
      clear ht hia hib2 hit hgo hk hd HKB HD hil HIX HKI
      go_upto_region 18 with (first|go_skip|((with_reducible refine gate_dst (N := 14) rfl ?_);(with_reducible refine' bz HM ?qw rfl ?qa ?qc ?_);(case qw|qa|qc=>rfl);clear HM;intro g14 _ HM)|((with_reducible refine' lc HM ?qw rfl ?qx ?qm ?qa ?qv ?_);(case qw|qx|qa=>rfl);(case qm=>repeat constructor);(case qv=>rfl))|((with_reducible refine' la HM ?qw rfl ?qx ?qm ?qa ?_);(case qw|qx=>rfl);(case qm=>repeat constructor);(case qa=>rfl))|((with_reducible refine' pa HM ?qw rfl ?qx _ ?qy ?qm ?qa ?_);(case qw|qx|qy=>rfl);(case qm=>repeat constructor);(case qa=>rfl);clear HM;intro _ HM)|(go_at_call 29; (refine (over_C HIA.out HIB.out (by have := HLA.out; omega) (by have := HLB.out; omega) (by have := HNA.out; omega) (by have := HNB.out; omega) HOV.out HM.out ?hSa ?hSb HCa.out HCb.out).mono ?_); (case hSa => exact fun _ h => h.1.2); (case hSb => exact fun _ h => h.2); rintro e _ ⟨At, ct, rfl, hc, hM⟩; have HCt := Aside0.mk hc; clear hc; clear HM;have HM:=Aside0.mk hM;clear hM))
      obtain ⟨w1, w2, w3⟩ := HWW.out
      generalize (con a).2 = fa at w3 HFa
      generalize (con b).2 = fb at w3 HFb
      generalize (con t).2 = ft at w3 HFt
      refine r_start (ds := []) HM.out #[false, false, false, false, false, false, false, false, false, false, false, false, false, false, false, false, false, false, false, false, false, false, false, false, false, false, false, false, false, false, false, false, false, false, false] (by kernel_rfl) rfl rfl (fun _ hM => ?_)
      refine with_tabW apr18Tab apr18Bits (fun HT_ HW_ => ?_)
      clear HM
      have HM := Aside0.mk hM
      clear hM
      refine pure_ (i:=0) (N:=(some 70)) (v:=?_) (a':=?_) #[true, false, false, false, false, false, false, false, false, false, false, false, false, false, false, false, false, false, false, false, false, false, false, false, false, false, false, false, false, false, false, false, false, false, false] rfl rfl (any_of HT_.out (by kernel_rfl)) (fun _ _ _ h=>h) (Or.inl ⟨by rfl,?_⟩) ?_ ?_
      rotate_left
      · intro w';go_simp;with_reducible rfl
      rotate_left
      · (simp only [Act.put, fillAll, List.setIfInBounds_toArray, List.set_cons_zero, List.set_cons_succ, i64_w, i32_w]; rfl)
      refine pure_ (i:=1) (N:=(some 71)) (v:=?_) (a':=?_) #[true, true, false, false, false, false, false, false, false, false, false, false, false, false, false, false, false, false, false, false, false, false, false, false, false, false, false, false, false, false, false, false, false, false, false] rfl rfl (any_of HT_.out (by kernel_rfl)) (fun _ _ _ h=>h) (Or.inl ⟨by rfl,?_⟩) ?_ ?_
      rotate_left
      · intro w';go_simp;with_reducible rfl
      rotate_left
      · (simp only [Act.put, fillAll, List.setIfInBounds_toArray, List.set_cons_zero, List.set_cons_succ, i64_w, i32_w]; rfl)
      refine pure_ (i:=2) (N:=(some 72)) (v:=?_) (a':=?_) #[true, true, true, false, false, false, false, false, false, false, false, false, false, false, false, false, false, false, false, false, false, false, false, false, false, false, false, false, false, false, false, false, false, false, false] rfl rfl (any_of HT_.out (by kernel_rfl)) (fun _ _ _ h=>h) (Or.inl ⟨by rfl,?_⟩) ?_ ?_
      rotate_left
      · intro w';go_simp;with_reducible rfl
      rotate_left
      · (simp only [Act.put, fillAll, List.setIfInBounds_toArray, List.set_cons_zero, List.set_cons_succ, i64_w, i32_w]; rfl)
      refine pure_ (i:=3) (N:=(some 73)) (v:=?_) (a':=?_) #[true, true, true, true, false, false, false, false, false, false, false, false, false, false, false, false, false, false, false, false, false, false, false, false, false, false, false, false, false, false, false, false, false, false, false] rfl rfl (any_of HT_.out (by kernel_rfl)) (fun _ _ _ h=>h) (Or.inl ⟨by rfl,?_⟩) ?_ ?_
      rotate_left
      · intro w';go_simp;with_reducible rfl
      rotate_left
      · (simp only [Act.put, fillAll, List.setIfInBounds_toArray, List.set_cons_zero, List.set_cons_succ, i64_w, i32_w]; rfl)
      refine pure_ (i:=6) (N:=(some 76)) (v:=?_) (a':=?_) #[true, true, true, true, false, false, true, false, false, false, false, false, false, false, false, false, false, false, false, false, false, false, false, false, false, false, false, false, false, false, false, false, false, false, false] rfl rfl (any_of HT_.out (by kernel_rfl)) (fun _ _ _ h=>h) (Or.inl ⟨by rfl,?_⟩) ?_ ?_
      rotate_left
      · intro w';go_simp;with_reducible rfl
      rotate_left
      · (simp only [Act.put, fillAll, List.setIfInBounds_toArray, List.set_cons_zero, List.set_cons_succ, i64_w, i32_w]; rfl)
      refine pure_ (i:=9) (N:=(some 79)) (v:=?_) (a':=?_) #[true, true, true, true, false, false, true, false, false, true, false, false, false, false, false, false, false, false, false, false, false, false, false, false, false, false, false, false, false, false, false, false, false, false, false] rfl rfl (any_of HT_.out (by kernel_rfl)) (fun _ _ _ h=>h) (Or.inl ⟨by rfl,?_⟩) ?_ ?_
      rotate_left
      · intro w';go_simp;with_reducible rfl
      rotate_left
      · (simp only [Act.put, fillAll, List.setIfInBounds_toArray, List.set_cons_zero, List.set_cons_succ, i64_w, i32_w]; rfl)
      refine pure_ (i:=13) (N:=(some 83)) (v:=?_) (a':=?_) #[true, true, true, true, false, false, true, false, false, true, false, false, false, true, false, false, false, false, false, false, false, false, false, false, false, false, false, false, false, false, false, false, false, false, false] rfl rfl (any_of HT_.out (by kernel_rfl)) (fun _ _ _ h=>h) (Or.inl ⟨by rfl,?_⟩) ?_ ?_
      rotate_left
      · intro w';go_simp;with_reducible rfl
      rotate_left
      · (simp only [Act.put, fillAll, List.setIfInBounds_toArray, List.set_cons_zero, List.set_cons_succ, i64_w, i32_w]; rfl)
      apply r_cell (i:=4) (N:=(some 74)) #[true, true, true, true, true, false, true, false, false, true, false, false, false, true, false, false, false, false, false, false, false, false, false, false, false, false, false, false, false, false, false, false, false, false, false]
      (case hi=>rfl)
      (case hN=>rfl)
      (case hc=>exact take_ofW HT_.out HW_.out (by kernel_rfl))
      (case hQ=>exact fun _ _ _ h=>h)
      (case ho=>rfl)
      (case hw=>rfl)
      (case hx=>rfl)
      (case ha=>exact nag _ (by decide))
      (case hH=>first|exact HM.out.held|exact HM.out.heldTail|exact HM.out.heldTail2)
      (case hm=>first | exact m0 | exact m1 | exact m2 | exact m3 | exact m4)
      (case hv=>rfl)
      (case hp=>(simp only [Act.put, fillAll, List.setIfInBounds_toArray, List.set_cons_zero, List.set_cons_succ, i64_w, i32_w]; rfl))
      refine pure_ (i:=5) (N:=(some 75)) (v:=?_) (a':=?_) #[true, true, true, true, true, true, true, false, false, true, false, false, false, true, false, false, false, false, false, false, false, false, false, false, false, false, false, false, false, false, false, false, false, false, false] rfl rfl (any_of HT_.out (by kernel_rfl)) (fun _ _ _ h=>h) (Or.inl ⟨by rfl,?_⟩) ?_ ?_
      rotate_left
      · intro w';go_simp;with_reducible rfl
      rotate_left
      · (simp only [Act.put, fillAll, List.setIfInBounds_toArray, List.set_cons_zero, List.set_cons_succ, i64_w, i32_w]; rfl)
      apply r_cell (i:=7) (N:=(some 77)) #[true, true, true, true, true, true, true, true, false, true, false, false, false, true, false, false, false, false, false, false, false, false, false, false, false, false, false, false, false, false, false, false, false, false, false]
      (case hi=>rfl)
      (case hN=>rfl)
      (case hc=>exact take_ofW HT_.out HW_.out (by kernel_rfl))
      (case hQ=>exact fun _ _ _ h=>h)
      (case ho=>rfl)
      (case hw=>rfl)
      (case hx=>rfl)
      (case ha=>exact nag _ (by decide))
      (case hH=>first|exact HM.out.held|exact HM.out.heldTail|exact HM.out.heldTail2)
      (case hm=>first | exact m0 | exact m1 | exact m2 | exact m3 | exact m4)
      (case hv=>rfl)
      (case hp=>(simp only [Act.put, fillAll, List.setIfInBounds_toArray, List.set_cons_zero, List.set_cons_succ, i64_w, i32_w]; rfl))
      refine pure_ (i:=8) (N:=(some 78)) (v:=?_) (a':=?_) #[true, true, true, true, true, true, true, true, true, true, false, false, false, true, false, false, false, false, false, false, false, false, false, false, false, false, false, false, false, false, false, false, false, false, false] rfl rfl (any_of HT_.out (by kernel_rfl)) (fun _ _ _ h=>h) (Or.inl ⟨by rfl,?_⟩) ?_ ?_
      rotate_left
      · intro w';go_simp;with_reducible rfl
      rotate_left
      · (simp only [Act.put, fillAll, List.setIfInBounds_toArray, List.set_cons_zero, List.set_cons_succ, i64_w, i32_w]; rfl)
      apply r_cell (i:=10) (N:=(some 80)) #[true, true, true, true, true, true, true, true, true, true, true, false, false, true, false, false, false, false, false, false, false, false, false, false, false, false, false, false, false, false, false, false, false, false, false]
      (case hi=>rfl)
      (case hN=>rfl)
      (case hc=>exact take_ofW HT_.out HW_.out (by kernel_rfl))
      (case hQ=>exact fun _ _ _ h=>h)
      (case ho=>rfl)
      (case hw=>rfl)
      (case hx=>rfl)
      (case ha=>exact nag _ (by decide))
      (case hH=>first|exact HM.out.held|exact HM.out.heldTail|exact HM.out.heldTail2)
      (case hm=>first | exact m0 | exact m1 | exact m2 | exact m3 | exact m4)
      (case hv=>rfl)
      (case hp=>(simp only [Act.put, fillAll, List.setIfInBounds_toArray, List.set_cons_zero, List.set_cons_succ, i64_w, i32_w]; rfl))
      refine pure_ (i:=11) (N:=(some 81)) (v:=?_) (a':=?_) #[true, true, true, true, true, true, true, true, true, true, true, true, false, true, false, false, false, false, false, false, false, false, false, false, false, false, false, false, false, false, false, false, false, false, false] rfl rfl (any_of HT_.out (by kernel_rfl)) (fun _ _ _ h=>h) (Or.inl ⟨by rfl,?_⟩) ?_ ?_
      rotate_left
      · intro w';go_simp;with_reducible rfl
      rotate_left
      · (simp only [Act.put, fillAll, List.setIfInBounds_toArray, List.set_cons_zero, List.set_cons_succ, i64_w, i32_w]; rfl)
      refine pure_ (i:=12) (N:=(some 82)) (v:=?_) (a':=?_) #[true, true, true, true, true, true, true, true, true, true, true, true, true, true, false, false, false, false, false, false, false, false, false, false, false, false, false, false, false, false, false, false, false, false, false] rfl rfl (any_of HT_.out (by kernel_rfl)) (fun _ _ _ h=>h) (Or.inl ⟨by rfl,?_⟩) ?_ ?_
      rotate_left
      · intro w';go_simp;with_reducible rfl
      rotate_left
      · (simp only [Act.put, fillAll, List.setIfInBounds_toArray, List.set_cons_zero, List.set_cons_succ, i64_w, i32_w]; rfl)
      refine pure_ (i:=14) (N:=(some 84)) (v:=?_) (a':=?_) #[true, true, true, true, true, true, true, true, true, true, true, true, true, true, true, false, false, false, false, false, false, false, false, false, false, false, false, false, false, false, false, false, false, false, false] rfl rfl (any_of HT_.out (by kernel_rfl)) (fun _ _ _ h=>h) (Or.inl ⟨by rfl,?_⟩) ?_ ?_
      rotate_left
      · intro w';go_simp;with_reducible rfl
      rotate_left
      · (simp only [Act.put, fillAll, List.setIfInBounds_toArray, List.set_cons_zero, List.set_cons_succ, i64_w, i32_w]; rfl)
      refine pure_ (i:=15) (N:=(some 85)) (v:=?_) (a':=?_) #[true, true, true, true, true, true, true, true, true, true, true, true, true, true, true, true, false, false, false, false, false, false, false, false, false, false, false, false, false, false, false, false, false, false, false] rfl rfl (any_of HT_.out (by kernel_rfl)) (fun _ _ _ h=>h) (Or.inl ⟨by rfl,?_⟩) ?_ ?_
      rotate_left
      · intro w';go_simp;with_reducible rfl
      rotate_left
      · (simp only [Act.put, fillAll, List.setIfInBounds_toArray, List.set_cons_zero, List.set_cons_succ, i64_w, i32_w]; rfl)
      refine pure_ (i:=16) (N:=(some 86)) (v:=?_) (a':=?_) #[true, true, true, true, true, true, true, true, true, true, true, true, true, true, true, true, true, false, false, false, false, false, false, false, false, false, false, false, false, false, false, false, false, false, false] rfl rfl (any_of HT_.out (by kernel_rfl)) (fun _ _ _ h=>h) (Or.inl ⟨by rfl,?_⟩) ?_ ?_
      rotate_left
      · intro w';go_simp;with_reducible rfl
      rotate_left
      · (simp only [Act.put, fillAll, List.setIfInBounds_toArray, List.set_cons_zero, List.set_cons_succ, i64_w, i32_w]; rfl)
      refine pure_ (i:=17) (N:=(some 87)) (v:=?_) (a':=?_) #[true, true, true, true, true, true, true, true, true, true, true, true, true, true, true, true, true, true, false, false, false, false, false, false, false, false, false, false, false, false, false, false, false, false, false] rfl rfl (any_of HT_.out (by kernel_rfl)) (fun _ _ _ h=>h) (Or.inl ⟨by rfl,?_⟩) ?_ ?_
      rotate_left
      · intro w';go_simp;with_reducible rfl
      rotate_left
      · (simp only [Act.put, fillAll, List.setIfInBounds_toArray, List.set_cons_zero, List.set_cons_succ, i64_w, i32_w]; rfl)
      apply r_all (i:=18) (N:=(some 88)) #[true, true, true, true, true, true, true, true, true, true, true, true, true, true, true, true, true, true, true, false, false, false, false, false, false, false, false, false, false, false, false, false, false, false, false]
      (case hi=>rfl)
      (case hN=>rfl)
      (case hc=>exact take_ofW HT_.out HW_.out (by kernel_rfl))
      (case hQ=>exact fun _ _ _ h=>h)
      (case ho=>rfl)
      (case hw=>rfl)
      (case hx=>rfl)
      (case ha=>exact agg35)
      (case hH=>first|exact HM.out.held|exact HM.out.heldTail|exact HM.out.heldTail2)
      (case hm=>first | exact m0 | exact m1 | exact m2 | exact m3 | exact m4)
      (case hl=>rfl)
      (case hp=>(simp only [Act.put, fillAll, List.setIfInBounds_toArray, List.set_cons_zero, List.set_cons_succ, i64_w, i32_w]; rfl))
      apply r_all (i:=20) (N:=(some 90)) #[true, true, true, true, true, true, true, true, true, true, true, true, true, true, true, true, true, true, true, false, true, false, false, false, false, false, false, false, false, false, false, false, false, false, false]
      (case hi=>rfl)
      (case hN=>rfl)
      (case hc=>exact take_ofW HT_.out HW_.out (by kernel_rfl))
      (case hQ=>exact fun _ _ _ h=>h)
      (case ho=>rfl)
      (case hw=>rfl)
      (case hx=>rfl)
      (case ha=>exact agg35)
      (case hH=>first|exact HM.out.held|exact HM.out.heldTail|exact HM.out.heldTail2)
      (case hm=>first | exact m0 | exact m1 | exact m2 | exact m3 | exact m4)
      (case hl=>rfl)
      (case hp=>(simp only [Act.put, fillAll, List.setIfInBounds_toArray, List.set_cons_zero, List.set_cons_succ, i64_w, i32_w]; rfl))
      apply r_all (i:=22) (N:=(some 92)) #[true, true, true, true, true, true, true, true, true, true, true, true, true, true, true, true, true, true, true, false, true, false, true, false, false, false, false, false, false, false, false, false, false, false, false]
      (case hi=>rfl)
      (case hN=>rfl)
      (case hc=>exact take_ofW HT_.out HW_.out (by kernel_rfl))
      (case hQ=>exact fun _ _ _ h=>h)
      (case ho=>rfl)
      (case hw=>rfl)
      (case hx=>rfl)
      (case ha=>exact agg35)
      (case hH=>first|exact HM.out.held|exact HM.out.heldTail|exact HM.out.heldTail2)
      (case hm=>first | exact m0 | exact m1 | exact m2 | exact m3 | exact m4)
      (case hl=>rfl)
      (case hp=>(simp only [Act.put, fillAll, List.setIfInBounds_toArray, List.set_cons_zero, List.set_cons_succ, i64_w, i32_w]; rfl))
      refine one_ (i := 19) (N := (some 89)) #[true, true, true, true, true, true, true, true, true, true, true, true, true, true, true, true, true, true, true, true, true, false, true, false, false, false, false, false, false, false, false, false, false, false, false] rfl rfl (one_of HT_.out (by kernel_rfl)) (by decide) (fun K hK => ?_)
      refine goes_ Tryd.func33 (by kernel_rfl) rfl _ (by rfl) rfl rfl (by simp only [List.map_toArray, List.map_cons, List.map_nil]; rfl) ?_
      refine (HFt.out _ _ _ HM.out (fun _ h => h.2)).mono ?_
      rintro e w_ ⟨rfl, hM⟩
      refine ⟨_, rfl, ?_⟩
      refine hK.out _ _ hM.held (fun _ => ?_)
      clear hK K
      clear HM
      have HM := Aside0.mk hM
      clear hM
      refine norm_ (a' := ?_) ?_ ?_
      rotate_left
      · (simp only [Act.put, fillAll, List.setIfInBounds_toArray, List.set_cons_zero, List.set_cons_succ, i64_w, i32_w]; rfl)
      refine one_ (i := 21) (N := (some 91)) #[true, true, true, true, true, true, true, true, true, true, true, true, true, true, true, true, true, true, true, true, true, true, true, false, false, false, false, false, false, false, false, false, false, false, false] rfl rfl (one_of HT_.out (by kernel_rfl)) (by decide) (fun K hK => ?_)
      refine goes_ Tryd.func33 (by kernel_rfl) rfl _ (by rfl) rfl rfl (by simp only [List.map_toArray, List.map_cons, List.map_nil]; rfl) ?_
      refine (HFa.out _ _ _ HM.out (fun _ h => h.1.1.2)).mono ?_
      rintro e w_ ⟨rfl, hM⟩
      refine ⟨_, rfl, ?_⟩
      refine hK.out _ _ hM.held (fun _ => ?_)
      clear hK K
      clear HM
      have HM := Aside0.mk hM
      clear hM
      refine norm_ (a' := ?_) ?_ ?_
      rotate_left
      · (simp only [Act.put, fillAll, List.setIfInBounds_toArray, List.set_cons_zero, List.set_cons_succ, i64_w, i32_w]; rfl)
      refine one_ (i := 23) (N := (some 93)) #[true, true, true, true, true, true, true, true, true, true, true, true, true, true, true, true, true, true, true, true, true, true, true, true, false, false, false, false, false, false, false, false, false, false, false] rfl rfl (one_of HT_.out (by kernel_rfl)) (by decide) (fun K hK => ?_)
      refine goes_ Tryd.func33 (by kernel_rfl) rfl _ (by rfl) rfl rfl (by simp only [List.map_toArray, List.map_cons, List.map_nil]; rfl) ?_
      refine (HFb.out _ _ _ HM.out (fun _ h => h.1.2)).mono ?_
      rintro e w_ ⟨rfl, hM⟩
      refine ⟨_, rfl, ?_⟩
      refine hK.out _ _ hM.held (fun _ => ?_)
      clear hK K
      clear HM
      have HM := Aside0.mk hM
      clear hM
      refine norm_ (a' := ?_) ?_ ?_
      rotate_left
      · (simp only [Act.put, fillAll, List.setIfInBounds_toArray, List.set_cons_zero, List.set_cons_succ, i64_w, i32_w]; rfl)
      refine pure_ (i:=24) (N:=(some 94)) (v:=?_) (a':=?_) #[true, true, true, true, true, true, true, true, true, true, true, true, true, true, true, true, true, true, true, true, true, true, true, true, true, false, false, false, false, false, false, false, false, false, false] rfl rfl (any_of HT_.out (by kernel_rfl)) (fun _ _ _ h=>h) (Or.inl ⟨by rfl,?_⟩) ?_ ?_
      rotate_left
      · intro w';go_simp;with_reducible rfl
      rotate_left
      · (simp only [Act.put, fillAll, List.setIfInBounds_toArray, List.set_cons_zero, List.set_cons_succ, i64_w, i32_w]; rfl)
      refine pure_ (i:=25) (N:=(some 95)) (v:=?_) (a':=?_) #[true, true, true, true, true, true, true, true, true, true, true, true, true, true, true, true, true, true, true, true, true, true, true, true, true, true, false, false, false, false, false, false, false, false, false] rfl rfl (any_of HT_.out (by kernel_rfl)) (fun _ _ _ h=>h) (Or.inl ⟨by rfl,?_⟩) ?_ ?_
      rotate_left
      · intro w';go_simp;with_reducible rfl
      rotate_left
      · (simp only [Act.put, fillAll, List.setIfInBounds_toArray, List.set_cons_zero, List.set_cons_succ, i64_w, i32_w]; rfl)
      refine pure_ (i:=26) (N:=(some 96)) (v:=?_) (a':=?_) #[true, true, true, true, true, true, true, true, true, true, true, true, true, true, true, true, true, true, true, true, true, true, true, true, true, true, true, false, false, false, false, false, false, false, false] rfl rfl (any_of HT_.out (by kernel_rfl)) (fun _ _ _ h=>h) (Or.inl ⟨by rfl,?_⟩) ?_ ?_
      rotate_left
      · intro w';go_simp;with_reducible rfl
      rotate_left
      · (simp only [Act.put, fillAll, List.setIfInBounds_toArray, List.set_cons_zero, List.set_cons_succ, i64_w, i32_w]; rfl)
      refine pure_ (i:=27) (N:=(some 97)) (v:=?_) (a':=?_) #[true, true, true, true, true, true, true, true, true, true, true, true, true, true, true, true, true, true, true, true, true, true, true, true, true, true, true, true, false, false, false, false, false, false, false] rfl rfl (any_of HT_.out (by kernel_rfl)) (fun _ _ _ h=>h) (Or.inl ⟨by rfl,?_⟩) ?_ ?_
      rotate_left
      · intro w';go_simp;with_reducible rfl
      rotate_left
      · (simp only [Act.put, fillAll, List.setIfInBounds_toArray, List.set_cons_zero, List.set_cons_succ, i64_w, i32_w]; rfl)
      apply r_all (i:=28) (N:=(some 98)) #[true, true, true, true, true, true, true, true, true, true, true, true, true, true, true, true, true, true, true, true, true, true, true, true, true, true, true, true, true, false, false, false, false, false, false]
      (case hi=>rfl)
      (case hN=>rfl)
      (case hc=>exact take_ofW HT_.out HW_.out (by kernel_rfl))
      (case hQ=>exact fun _ _ _ h=>h)
      (case ho=>rfl)
      (case hw=>rfl)
      (case hx=>rfl)
      (case ha=>exact agg35)
      (case hH=>first|exact HM.out.held|exact HM.out.heldTail|exact HM.out.heldTail2)
      (case hm=>first | exact m0 | exact m1 | exact m2 | exact m3 | exact m4)
      (case hl=>rfl)
      (case hp=>(simp only [Act.put, fillAll, List.setIfInBounds_toArray, List.set_cons_zero, List.set_cons_succ, i64_w, i32_w]; rfl))
      apply r_all (i:=29) (N:=(some 99)) #[true, true, true, true, true, true, true, true, true, true, true, true, true, true, true, true, true, true, true, true, true, true, true, true, true, true, true, true, true, true, false, false, false, false, false]
      (case hi=>rfl)
      (case hN=>rfl)
      (case hc=>exact take_ofW HT_.out HW_.out (by kernel_rfl))
      (case hQ=>exact fun _ _ _ h=>h)
      (case ho=>rfl)
      (case hw=>rfl)
      (case hx=>rfl)
      (case ha=>exact agg35)
      (case hH=>first|exact HM.out.held|exact HM.out.heldTail|exact HM.out.heldTail2)
      (case hm=>first | exact m0 | exact m1 | exact m2 | exact m3 | exact m4)
      (case hl=>rfl)
      (case hp=>(simp only [Act.put, fillAll, List.setIfInBounds_toArray, List.set_cons_zero, List.set_cons_succ, i64_w, i32_w]; rfl))
      refine one_ (i := 30) (N := (some 100)) #[true, true, true, true, true, true, true, true, true, true, true, true, true, true, true, true, true, true, true, true, true, true, true, true, true, true, true, true, true, true, true, false, false, false, false] rfl rfl (one_of HT_.out (by kernel_rfl)) (by decide) (fun K hK => ?_)
      refine goes_ Tryd.func34 (by kernel_rfl) rfl _ (by rfl) rfl rfl (by simp only [List.map_toArray, List.map_cons, List.map_nil]; rfl) ?_
      refine (HGO.out _ _ _ HM.out (fun _ h => h.1.1.2) (fun _ h => h.2)).mono ?_
      rintro e w_ ⟨Ao, co, rfl, hM⟩
      refine ⟨_, rfl, ?_⟩
      refine hK.out _ _ hM.held (fun _ => ?_)
      clear hK K
      clear HM
      have HM := Aside0.mk hM
      clear hM
      refine norm_ (a' := ?_) ?_ ?_
      rotate_left
      · (simp only [Act.put, fillAll, List.setIfInBounds_toArray, List.set_cons_zero, List.set_cons_succ, i64_w, i32_w]; rfl)
      refine pure_ (i:=31) (N:=(some 101)) (v:=?_) (a':=?_) #[true, true, true, true, true, true, true, true, true, true, true, true, true, true, true, true, true, true, true, true, true, true, true, true, true, true, true, true, true, true, true, true, false, false, false] rfl rfl (any_of HT_.out (by kernel_rfl)) (fun _ _ _ h=>h) (Or.inl ⟨by rfl,?_⟩) ?_ ?_
      rotate_left
      · intro w';go_simp;with_reducible rfl
      rotate_left
      · (simp only [Act.put, fillAll, List.setIfInBounds_toArray, List.set_cons_zero, List.set_cons_succ, i64_w, i32_w]; rfl)
      refine pure_ (i:=32) (N:=(some 102)) (v:=?_) (a':=?_) #[true, true, true, true, true, true, true, true, true, true, true, true, true, true, true, true, true, true, true, true, true, true, true, true, true, true, true, true, true, true, true, true, true, false, false] rfl rfl (any_of HT_.out (by kernel_rfl)) (fun _ _ _ h=>h) (Or.inl ⟨by rfl,?_⟩) ?_ ?_
      rotate_left
      · intro w';go_simp;with_reducible rfl
      rotate_left
      · (simp only [Act.put, fillAll, List.setIfInBounds_toArray, List.set_cons_zero, List.set_cons_succ, i64_w, i32_w]; rfl)
      refine pure_ (i:=33) (N:=(some 103)) (v:=?_) (a':=?_) #[true, true, true, true, true, true, true, true, true, true, true, true, true, true, true, true, true, true, true, true, true, true, true, true, true, true, true, true, true, true, true, true, true, true, false] rfl rfl (any_of HT_.out (by kernel_rfl)) (fun _ _ _ h=>h) (Or.inl ⟨by rfl,?_⟩) ?_ ?_
      rotate_left
      · intro w';go_simp;with_reducible rfl
      rotate_left
      · (simp only [Act.put, fillAll, List.setIfInBounds_toArray, List.set_cons_zero, List.set_cons_succ, i64_w, i32_w]; rfl)
      refine pure_ (i:=34) (N:=(some 4)) (v:=?_) (a':=?_) #[true, true, true, true, true, true, true, true, true, true, true, true, true, true, true, true, true, true, true, true, true, true, true, true, true, true, true, true, true, true, true, true, true, true, true] rfl rfl (any_of HT_.out (by kernel_rfl)) (fun _ _ _ h=>h) (Or.inl ⟨by rfl,?_⟩) ?_ ?_
      rotate_left
      · intro w';go_simp;with_reducible rfl
      rotate_left
      · (simp only [Act.put, fillAll, List.setIfInBounds_toArray, List.set_cons_zero, List.set_cons_succ, i64_w, i32_w]; rfl)
      refine done_ (done_of HT_.out (by kernel_rfl)) ?_
      go_wp2
      go_ret
      exact ⟨rfl, HM.out.below⟩
end Go.Proofs.YtolpamojbiipaaaDoor.XA
