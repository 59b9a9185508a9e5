/- pax.length, pax.Check: walked by hand. Printed by wip/tools/gen_pax1.py. -/
import Derived.Test.YtnpdgmgabkoeiaaDoorRSteps
import Derived.Test.YtnpdgmgabkoeiaaDoorRGlob
import Derived.Test.YtnpdgmgabkoeiaaDoorRAny
namespace Go.Proofs.YtnpdgmgabkoeiaaDoor.R
open Go.RowKit Go.Proofs.YtnpdgmgabkoeiaaDoorW.PrintWords Go.Proofs.YtnpdgmgabkoeiaaDoorW.PrintLast Go.Proofs.YtnpdgmgabkoeiaaDoorW.PrintMore Go.Proofs.YtnpdgmgabkoeiaaDoor.Mem Go.Proofs.YtnpdgmgabkoeiaaDoor.Pure Go.Proofs.YtnpdgmgabkoeiaaDoor.XA
set_option linter.unusedVariables false
set_option linter.unusedSimpArgs false

theorem size_mk (l : List UInt8) : (⟨l.toArray⟩ : ByteArray).size = l.length := by simp [ByteArray.size]
theorem size_itoa (n : Nat) : (⟨(Lib.itoa (n : Int)).toArray⟩ : ByteArray).size = (Lib.decDigits n).length := by rw [size_mk, Lib.itoa_nonneg]
set_option maxHeartbeats 2000000 in
set_option maxRecDepth 100000 in
theorem length_c (r : S29) (h : r.f0.size + r.f1.size ≤ 4096) (w : World) (hG : GG w) :
    Calls Tryd.prog 14 #[.agg #[.string r.f0, .string r.f1]] w fun e w' => e = .returned (.int .i64 (lenR r.f0.size r.f1.size : Nat)) ∧ Below w.heap.size w w' := by
  have HG := Aside0.mk hG
  have HM : Aside0 (Mem w (fun k => k < w.heap.size) w [] (fun _ => True)) := ⟨Mem.start (fun _ _ => trivial)⟩
  obtain ⟨n, hn⟩ : ∃ n : Nat, n = r.f0.size + r.f1.size + 3 := ⟨_, rfl⟩
  obtain ⟨d, hd⟩ : ∃ d : Nat, d = (Lib.decDigits n).length := ⟨_, rfl⟩
  obtain ⟨m, hm⟩ : ∃ m : Nat, m = n + d := ⟨_, rfl⟩
  obtain ⟨d2, hd2⟩ : ∃ d2 : Nat, d2 = (Lib.decDigits m).length := ⟨_, rfl⟩
  have e1 : (r.f0.size : Int) + (r.f1.size : Int) + 3 = (n : Int) := by omega
  have hb1 : d ≤ 20 := by
    rw [hd]; exact dd_len 19 n (by omega)
  have hb2 : d2 ≤ 20 := by
    rw [hd2]; exact dd_len 19 _ (by omega)
  have e2 : (n : Int) + (d : Int) = (m : Int) := by omega
  obtain ⟨s1, hs1, hI1⟩ : ∃ s1 : ByteArray, (s1.size : Int) = (d : Int) ∧ ∀ W, GG W → Calls Tryd.prog 13 #[.int .i64 (n : Int)] W fun e w' => e = .returned (.string s1) ∧ Below W.heap.size W w' := ⟨_, by rw [size_itoa, hd], fun W hG => itoa_c (n : Int) (by omega) (by omega) W hG⟩
  obtain ⟨s2, hs2, hI2⟩ : ∃ s2 : ByteArray, (s2.size : Int) = (d2 : Int) ∧ ∀ W, GG W → Calls Tryd.prog 13 #[.int .i64 (m : Int)] W fun e w' => e = .returned (.string s2) ∧ Below W.heap.size W w' := ⟨_, by rw [size_itoa, hd2], fun W hG => itoa_c (m : Int) (by omega) (by omega) W hG⟩
  have hr : lenR r.f0.size r.f1.size = if d < d2 then m + 1 else m := by
    unfold lenR
    simp only
    rw [← hn, ← hd, ← hm, ← hd2]
  rw [hr]
  have hnb : (n : Int) ≤ 4099 := by omega
  have hmb : (m : Int) ≤ 4200 := by omega
  have HI1 := Aside0.mk hI1
  have HI2 := Aside0.mk hI2
  clear hr hd hd2 hm hn h hG hI1 hI2
  by_cases hlt : d < d2
  · rw [if_pos hlt]
    have hlz : (d : Int) < (d2 : Int) := by omega
    clear hlt
    go_enter Tryd.func14, Tryd.ntmps14
    go_wp2_with (first|go_skip|((with_reducible refine' lc HM ?qw rfl ?qx ?qm ?qa ?qv ?_);(case qw|qx|qa=>rfl);(case qm=>repeat constructor);(case qv=>rfl))|((with_reducible refine' la HM ?qw rfl ?qx ?qm ?qa ?_);(case qw|qx=>rfl);(case qm=>repeat constructor);(case qa=>rfl))|((with_reducible refine' bn HM ?qw rfl _ ?qx ?_);(case qw|qx=>rfl);clear HM;intro _ _ HM)|(go_at_call 13;refine (HI1.out _ (HG.out.below HM.out.below)).mono ?_;rintro e _ ⟨rfl, hb⟩;have hM:=HM.out.call hb;clear hb;clear HM;have HM:=Aside0.mk hM;clear hM)|(go_at_call 13;refine (HI2.out _ (HG.out.below HM.out.below)).mono ?_;rintro e _ ⟨rfl, hb⟩;have hM:=HM.out.call hb;clear hb;clear HM;have HM:=Aside0.mk hM;clear hM))
    go_ret
    exact ⟨congrArg (fun z => Ending.returned (.int .i64 z)) (show (n : Int) + ((d : Int) + 1) = ((m + 1 : Nat) : Int) by omega), HM.out.below⟩
  · rw [if_neg hlt]
    have hlz : ¬ (d : Int) < (d2 : Int) := by omega
    clear hlt
    go_enter Tryd.func14, Tryd.ntmps14
    go_wp2_with (first|go_skip|((with_reducible refine' lc HM ?qw rfl ?qx ?qm ?qa ?qv ?_);(case qw|qx|qa=>rfl);(case qm=>repeat constructor);(case qv=>rfl))|((with_reducible refine' la HM ?qw rfl ?qx ?qm ?qa ?_);(case qw|qx=>rfl);(case qm=>repeat constructor);(case qa=>rfl))|((with_reducible refine' bn HM ?qw rfl _ ?qx ?_);(case qw|qx=>rfl);clear HM;intro _ _ HM)|(go_at_call 13;refine (HI1.out _ (HG.out.below HM.out.below)).mono ?_;rintro e _ ⟨rfl, hb⟩;have hM:=HM.out.call hb;clear hb;clear HM;have HM:=Aside0.mk hM;clear hM)|(go_at_call 13;refine (HI2.out _ (HG.out.below HM.out.below)).mono ?_;rintro e _ ⟨rfl, hb⟩;have hM:=HM.out.call hb;clear hb;clear HM;have HM:=Aside0.mk hM;clear hM))
    go_ret
    exact ⟨rfl, HM.out.below⟩
/-- Check: 0 just if the record may be. -/
theorem okR_iff (r : S29) : okR r.f0.data.toList r.f1.data.toList ↔ (r.f0.data.toList ≠ [] ∧ r.f0.data.toList.any sep3 = false ∧ r.f0.size + r.f1.size ≤ 4096) := by
  have h0 : r.f0.data.toList.length = r.f0.size := by simp
  have h1 : r.f1.data.toList.length = r.f1.size := by simp
  unfold okR
  rw [h0, h1, List.any_eq_false]
  refine and_congr_right fun _ => and_congr ?_ Iff.rfl
  refine forall_congr' fun b => forall_congr' fun _ => ?_
  simp only [sep3, Bool.or_eq_true, beq_iff_eq, not_or, and_assoc]
set_option maxHeartbeats 2000000 in
set_option maxRecDepth 100000 in
theorem check_c (r : S29) (h0 : r.f0.size ≤ 1000000) (h1 : r.f1.size ≤ 1000000) (w : World) :
    Calls Tryd.prog 6 #[.agg #[.string r.f0, .string r.f1]] w fun e w' => (∃ z : Int, e = .returned (.int .i64 z) ∧ (z = 0 ↔ okR r.f0.data.toList r.f1.data.toList)) ∧ Below w.heap.size w w' := by
  have HM : Aside0 (Mem w (fun k => k < w.heap.size) w [] (fun _ => True)) := ⟨Mem.start (fun _ _ => trivial)⟩
  have HOK := Aside0.mk (okR_iff r)
  have HC := Aside0.mk (any_c r.f0 h0)
  by_cases he : r.f0.data.toList = []
  · have e1 : (r.f0.toList == ([] : List UInt8)) = true := by rw [Lib.toList_data, he]; rfl
    have e2 : r.f0.toList.isEmpty = true := by rw [Lib.toList_data, he]; rfl
    have hno : ¬ okR r.f0.data.toList r.f1.data.toList := fun h => (HOK.out.1 h).1 he
    have HNO := Aside0.mk hno
    clear he hno
    go_enter Tryd.func6, Tryd.ntmps6
    go_wp2_with (first|go_skip|((with_reducible refine' lc HM ?qw rfl ?qx ?qm ?qa ?qv ?_);(case qw|qx|qa=>rfl);(case qm=>repeat constructor);(case qv=>rfl))|((with_reducible refine' la HM ?qw rfl ?qx ?qm ?qa ?_);(case qw|qx=>rfl);(case qm=>repeat constructor);(case qa=>rfl))|((with_reducible refine' bn HM ?qw rfl _ ?qx ?_);(case qw|qx=>rfl);clear HM;intro _ _ HM)|(go_at_call 16;refine (HC.out _).mono ?_;rintro e _ ⟨rfl, hb⟩;have hM:=HM.out.call hb;clear hb;clear HM;have HM:=Aside0.mk hM;clear hM))
    go_ret
    exact ⟨⟨70, rfl, by simp [HNO.out]⟩, HM.out.below⟩
  · have e1 : (r.f0.toList == ([] : List UInt8)) = false := by rw [Lib.toList_data]; simpa using he
    have e2 : r.f0.toList.isEmpty = false := by rw [Lib.toList_data]; simpa using he
    have HE := Aside0.mk he
    clear he
    obtain ⟨R, hR⟩ : ∃ R, R = r.f0.data.toList.any sep3 := ⟨_, rfl⟩
    rw [← hR] at HOK HC
    clear hR
    cases R with
    | true =>
      go_enter Tryd.func6, Tryd.ntmps6
      go_wp2_with (first|go_skip|((with_reducible refine' lc HM ?qw rfl ?qx ?qm ?qa ?qv ?_);(case qw|qx|qa=>rfl);(case qm=>repeat constructor);(case qv=>rfl))|((with_reducible refine' la HM ?qw rfl ?qx ?qm ?qa ?_);(case qw|qx=>rfl);(case qm=>repeat constructor);(case qa=>rfl))|((with_reducible refine' bn HM ?qw rfl _ ?qx ?_);(case qw|qx=>rfl);clear HM;intro _ _ HM)|(go_at_call 16;refine (HC.out _).mono ?_;rintro e _ ⟨rfl, hb⟩;have hM:=HM.out.call hb;clear hb;clear HM;have HM:=Aside0.mk hM;clear hM))
      go_ret
      exact ⟨⟨70, rfl, by simp [HOK.out]⟩, HM.out.below⟩
    | false =>
      by_cases hl : r.f0.size + r.f1.size ≤ 4096
      · have hlz : decide ((4096 : Int) < (r.f0.size : Int) + (r.f1.size : Int)) = false := decide_eq_false (by omega)
        have HL := Aside0.mk hl
        clear hl
        go_enter Tryd.func6, Tryd.ntmps6
        go_wp2_with (first|go_skip|((with_reducible refine' lc HM ?qw rfl ?qx ?qm ?qa ?qv ?_);(case qw|qx|qa=>rfl);(case qm=>repeat constructor);(case qv=>rfl))|((with_reducible refine' la HM ?qw rfl ?qx ?qm ?qa ?_);(case qw|qx=>rfl);(case qm=>repeat constructor);(case qa=>rfl))|((with_reducible refine' bn HM ?qw rfl _ ?qx ?_);(case qw|qx=>rfl);clear HM;intro _ _ HM)|(go_at_call 16;refine (HC.out _).mono ?_;rintro e _ ⟨rfl, hb⟩;have hM:=HM.out.call hb;clear hb;clear HM;have HM:=Aside0.mk hM;clear hM))
        go_ret
        exact ⟨⟨0, rfl, by simp [HOK.out, HE.out, HL.out]⟩, HM.out.below⟩
      · have hlz : decide ((4096 : Int) < (r.f0.size : Int) + (r.f1.size : Int)) = true := decide_eq_true (by omega)
        have HL := Aside0.mk hl
        clear hl
        go_enter Tryd.func6, Tryd.ntmps6
        go_wp2_with (first|go_skip|((with_reducible refine' lc HM ?qw rfl ?qx ?qm ?qa ?qv ?_);(case qw|qx|qa=>rfl);(case qm=>repeat constructor);(case qv=>rfl))|((with_reducible refine' la HM ?qw rfl ?qx ?qm ?qa ?_);(case qw|qx=>rfl);(case qm=>repeat constructor);(case qa=>rfl))|((with_reducible refine' bn HM ?qw rfl _ ?qx ?_);(case qw|qx=>rfl);clear HM;intro _ _ HM)|(go_at_call 16;refine (HC.out _).mono ?_;rintro e _ ⟨rfl, hb⟩;have hM:=HM.out.call hb;clear hb;clear HM;have HM:=Aside0.mk hM;clear hM))
        go_ret
        exact ⟨⟨2, rfl, by simp [HOK.out, HL.out]⟩, HM.out.below⟩
end Go.Proofs.YtnpdgmgabkoeiaaDoor.R
