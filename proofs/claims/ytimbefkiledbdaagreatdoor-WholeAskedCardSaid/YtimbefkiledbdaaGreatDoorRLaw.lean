/- The law WholeAsked, walked. Printed by wip/tools/gen_ask4.py. -/
import Derived.Test.YtimbefkiledbdaaGreatDoorRPath
namespace Go.Proofs.YtimbefkiledbdaaGreatDoor.R
open Go.RowKit Go.Proofs.YtimbefkiledbdaaGreatDoorW.PrintWords Go.Proofs.YtimbefkiledbdaaGreatDoorW.PrintLast Go.Proofs.YtimbefkiledbdaaGreatDoorW.PrintMore Go.Proofs.YtimbefkiledbdaaGreatDoor.Mem Go.Proofs.YtimbefkiledbdaaGreatDoor.Pure Go.Proofs.YtimbefkiledbdaaGreatDoor.XA
set_option linter.unusedVariables false
set_option linter.unusedSimpArgs false

def ask20T : Bool × List (List Nat × List Nat) := (true, [([], []), ([0], [0]), ([1], [1]), ([2], [2]), ([3, 2], [2, 3]), ([2, 4], [2, 4]), ([5, 2], [5]), ([6], [6]), ([7, 6], [6, 7]), ([6], [6]), ([9, 6, 6], [6, 9]), ([8, 10, 6], [6, 8, 10]), ([6, 11], [6, 11]), ([12, 10, 0, 1, 2, 3, 4, 5, 6, 7, 8, 9, 10, 11, 12], [12])])
def ask20B : List Nat := [0, 1, 3, 7, 15, 31, 63, 127, 255, 127, 639, 2047, 4095, 8191]
theorem ask20Tab : rtab .any (opsOf Tryz.f3 20) = ask20T := by kernel_rfl
theorem ask20Bits : waitsOk ask20T.2 ask20B = true := by kernel_rfl

theorem line1 : (⟨(lineB 1 ⟨#[97, 47, 98]⟩).toArray⟩ : ByteArray) = ⟨#[115, 116, 97, 116, 32, 49, 32, 97, 47, 98]⟩ := by
  have h : Lib.decDigits 1 = [49] := by decide +kernel
  unfold lineB restB tailB
  rw [h]
  rfl
theorem stat1 (w : World) (hG : GG w) : Calls Tryz.prog 4 #[.string ⟨#[115, 116, 97, 116, 32, 49, 32, 97, 47, 98]⟩] w fun e w' => e = .returned (.tuple #[.agg #[.int .i64 6, .int .i64 1, .int .i64 0, .int .i64 0, .string ⟨#[97, 47, 98]⟩, .slice none 0 0], .int .i64 0]) ∧ Below w.heap.size w w' := by
  have h := decode_c 1 ⟨#[97, 47, 98]⟩ (by omega) (by decide) w hG
  rw [line1] at h
  exact h
set_option maxHeartbeats 4000000 in
set_option maxRecDepth 100000 in
theorem WholeAsked_walk (w : World) (HG0 : GG w) (a0 : ByteArray) (a1 : Int) (w1 : (Lit.int .i64 a1).wf = true) (a2 : Int) (w2 : (Lit.int .i64 a2).wf = true) :
    Calls Tryz.prog 3 #[.string a0, .int .i64 a1, .int .i64 a2] w fun e w' => e = .returned (.bool true) ∧ Below w.heap.size w w' := by
  have HG := Aside0.mk HG0
  have HM : Aside0 (Mem w (fun k => k < w.heap.size) w [] (fun _ => True)) := ⟨Mem.start (fun _ _ => trivial)⟩
  clear HG0 w1 w2
  go_enter Tryz.func3, Tryz.ntmps3
  go_upto_region 4 with (first|go_skip|((with_reducible refine' lc HM ?qw rfl ?qx ?qm ?qa ?qv ?_);(case qw|qx|qa=>rfl);(case qm=>repeat constructor);(case qv=>rfl))|((with_reducible refine' la HM ?qw rfl ?qx ?qm ?qa ?_);(case qw|qx=>rfl);(case qm=>repeat constructor);(case qa=>rfl))|((with_reducible refine' pa HM ?qw rfl ?qx _ ?qy ?qm ?qa ?_);(case qw|qx|qy=>rfl);(case qm=>repeat constructor);(case qa=>rfl);clear HM;intro _ HM)|((with_reducible refine gate_dst (N := 7) rfl ?_);(with_reducible refine' bz HM ?qw rfl ?qa ?qc ?_);(case qw|qa|qc=>rfl);clear HM;intro g7 _ HM)|(go_at_call 4;refine (stat1 _ (HG.out.below HM.out.below)).mono ?_;rintro e _ ⟨rfl, hb⟩;have hM:=HM.out.call hb;clear hb;clear HM;have HM:=Aside0.mk hM;clear hM)|(go_at_call 6;refine (new_c 200 1 (by decide) _).mono ?_;rintro e _ ⟨rfl, hb⟩;have hM:=HM.out.call hb;clear hb;clear HM;have HM:=Aside0.mk hM;clear hM)|(go_at_call 5;refine (code_c 200 1 _ (HG.out.below HM.out.below)).mono ?_;rintro e _ ⟨rfl, hb⟩;have hM:=HM.out.call hb;clear hb;clear HM;have HM:=Aside0.mk hM;clear hM))
  by_cases h0 : 5000 < a0.size
  · have z0 : decide ((5000 : Int) < (a0.size : Int)) = true := decide_eq_true (by omega)
    clear h0
    go_wp2
    first | go_ret | go_ret2 | go_ret3
    exact ⟨rfl, HM.out.below⟩
  have z0 : decide ((5000 : Int) < (a0.size : Int)) = false := decide_eq_false (by omega)
  by_cases h1 : a1 < 0
  · have z1 : decide (a1 < (0 : Int)) = true := decide_eq_true (by omega)
    clear h1
    go_wp2
    first | go_ret | go_ret2 | go_ret3
    exact ⟨rfl, HM.out.below⟩
  have z1 : decide (a1 < (0 : Int)) = false := decide_eq_false (by omega)
  by_cases h2 : 1048576 < a1
  · have z2 : decide ((1048576 : Int) < a1) = true := decide_eq_true (by omega)
    clear h2
    go_wp2
    first | go_ret | go_ret2 | go_ret3
    exact ⟨rfl, HM.out.below⟩
  have z2 : decide ((1048576 : Int) < a1) = false := decide_eq_false (by omega)
  by_cases h3 : a2 < 0
  · have z3 : decide (a2 < (0 : Int)) = true := decide_eq_true (by omega)
    clear h3
    go_wp2
    first | go_ret | go_ret2 | go_ret3
    exact ⟨rfl, HM.out.below⟩
  have z3 : decide (a2 < (0 : Int)) = false := decide_eq_false (by omega)
  by_cases h4 : 20 < a2
  · have z4 : decide ((20 : Int) < a2) = true := decide_eq_true (by omega)
    clear h4
    go_wp2
    first | go_ret | go_ret2 | go_ret3
    exact ⟨rfl, HM.out.below⟩
  have z4 : decide ((20 : Int) < a2) = false := decide_eq_false (by omega)
  obtain ⟨n, rfl⟩ : ∃ n : Nat, a1 = (n : Int) := ⟨a1.toNat, by omega⟩
  obtain ⟨d, rfl⟩ : ∃ d : Nat, a2 = (d : Int) := ⟨a2.toNat, by omega⟩
  have HNB : Aside0 (n ≤ 1048576) := ⟨by omega⟩
  have HDB : Aside0 (d ≤ 20) := ⟨by omega⟩
  have HE := Aside0.mk (encode_c n a0 (by omega) (by omega))
  have HDC := Aside0.mk (decode_c n a0 (by omega) (by omega))
  generalize (⟨(lineB n a0).toArray⟩ : ByteArray) = L at HE HDC
  clear h0 h1 h2 h3 h4
  obtain ⟨ts, f, hgood, hbad, hcl⟩ := clean_t a0
  have HCL := Aside0.mk (@hcl w)
  have HGD := Aside0.mk hgood
  have HBD := Aside0.mk hbad
  clear hcl hgood hbad
  go_upto_region 11 with (first|go_skip|((with_reducible refine' lc HM ?qw rfl ?qx ?qm ?qa ?qv ?_);(case qw|qx|qa=>rfl);(case qm=>repeat constructor);(case qv=>rfl))|((with_reducible refine' la HM ?qw rfl ?qx ?qm ?qa ?_);(case qw|qx=>rfl);(case qm=>repeat constructor);(case qa=>rfl))|((with_reducible refine' pa HM ?qw rfl ?qx _ ?qy ?qm ?qa ?_);(case qw|qx|qy=>rfl);(case qm=>repeat constructor);(case qa=>rfl);clear HM;intro _ HM)|((with_reducible refine gate_dst (N := 10) rfl ?_);(with_reducible refine' bz HM ?qw rfl ?qa ?qc ?_);(case qw|qa|qc=>rfl);clear HM;intro g10 _ HM)|(go_at_call 7;refine (HE.out _ (HG.out.below HM.out.below)).mono ?_;rintro e _ ⟨rfl, hb⟩;have hM:=HM.out.call hb;clear hb;clear HM;have HM:=Aside0.mk hM;clear hM)|(go_at_call 4;refine (HDC.out _ (HG.out.below HM.out.below)).mono ?_;rintro e _ ⟨rfl, hb⟩;have hM:=HM.out.call hb;clear hb;clear HM;have HM:=Aside0.mk hM;clear hM)|(go_at_call 8;(refine (HCL.out HG.out HM.out).mono ?_);rintro e _ ⟨A, c, rfl, hc, hM⟩;have HC:=Aside0.mk hc;clear hc;clear HM;have HM:=Aside0.mk hM;clear hM))
  have hM := HM.out.bare
  clear HM
  have HM := Aside0.mk hM
  clear hM HE HDC
  by_cases hf : f = 0
  · subst hf
    obtain ⟨q, hq, hj⟩ := HGD.out rfl
    have HJ := Aside0.mk hj
    have HE := Aside0.mk (encode_c n q HNB.out (by omega))
    have HDC := Aside0.mk (decode_c n q HNB.out (by omega))
    generalize (⟨(lineB n q).toArray⟩ : ByteArray) = L2 at HE HDC
    clear HGD HBD HCL hj hq
    go_wp2_with (first|go_skip|(go_at_call 6;refine (new_no _ _).mono ?_;rintro e _ ⟨rfl, hb⟩;have hM:=HM.out.call hb;clear hb;clear HM;have HM:=Aside0.mk hM;clear hM))
    go_loopw [14, 92] (fun v14 v92 wr => ∃ (i : Nat), v92 = .int .i64 i ∧ v14 = .nilIface ∧ Aside0 (i ≤ d) ∧ Aside0 (Mem w (fun k => k < w.heap.size) wr [] (fun v => True ∧ Kd.C Kd.string v A ts.length ts))) (fun _ v92 _ => d - (intOf v92).toNat)
    case atStart => exact ⟨0, rfl, rfl, ⟨Nat.zero_le _⟩, HM⟩
    case round =>
      clear HM
      obtain ⟨i, rfl, rfl, HI, HM⟩ := hrel
      by_cases hlt : i < d
      · have hlz : (i : Int) < (d : Int) := by omega
        have hib : (i : Int) ≤ 20 := by have := HDB.out; omega
        go_wp2_with (first|go_skip|(go_at_call 9;refine (wrap_no _ _).mono ?_;rintro e _ ⟨rfl, hb⟩;have hM:=HM.out.call hb;clear hb;clear HM;have HM:=Aside0.mk hM;clear hM))
        go_roundw
        case rel => exact ⟨i + 1, by go_num, rfl, ⟨by omega⟩, HM⟩
        case measure => simp [intOf]; omega
      · have hlz : ¬ ((i : Int) < (d : Int)) := by omega
        go_upto_region 20 with (first|go_skip|((with_reducible refine' lc HM ?qw rfl ?qx ?qm ?qa ?qv ?_);(case qw|qx|qa=>rfl);(case qm=>repeat constructor);(case qv=>rfl))|((with_reducible refine' la HM ?qw rfl ?qx ?qm ?qa ?_);(case qw|qx=>rfl);(case qm=>repeat constructor);(case qa=>rfl))|((with_reducible refine' pa HM ?qw rfl ?qx _ ?qy ?qm ?qa ?_);(case qw|qx|qy=>rfl);(case qm=>repeat constructor);(case qa=>rfl);clear HM;intro _ HM)|((with_reducible refine gate_dst (N := 16) rfl ?_);(with_reducible refine' bz HM ?qw rfl ?qa ?qc ?_);(case qw|qa|qc=>rfl);clear HM;intro g16 _ HM)|(go_at_call 7;refine (HE.out _ (HG.out.below HM.out.below)).mono ?_;rintro e _ ⟨rfl, hb⟩;have hM:=HM.out.call hb;clear hb;clear HM;have HM:=Aside0.mk hM;clear hM)|(go_at_call 4;refine (HDC.out _ (HG.out.below HM.out.below)).mono ?_;rintro e _ ⟨rfl, hb⟩;have hM:=HM.out.call hb;clear hb;clear HM;have HM:=Aside0.mk hM;clear hM)|(go_at_call 12;(refine (join_m HM.out HC.out HJ.out).mono ?_);rintro e _ ⟨rfl, hM⟩;clear HM;have HM:=Aside0.mk hM;clear hM))
        refine r_start (ds := []) HM.out #[false, false, false, false, false, false, false, false, false, false, false, false, false, false] (by kernel_rfl) rfl rfl (fun _ hM => ?_)
        refine with_tabW ask20Tab ask20Bits (fun HT_ HW_ => ?_)
        clear HM
        have HM := Aside0.mk hM
        clear hM
        refine pure_ (i:=0) (N:=(some 125)) (v:=?_) (a':=?_) #[true, false, false, false, false, false, false, false, false, false, false, false, false, false] rfl rfl (any_of HT_.out (by kernel_rfl)) (fun _ _ _ h=>h) (Or.inl ⟨by rfl,?_⟩) ?_ ?_
        rotate_left
        · intro w';go_simp;with_reducible rfl
        rotate_left
        · (simp only [Act.put, fillAll, List.setIfInBounds_toArray, List.set_cons_zero, List.set_cons_succ, i64_w, i32_w]; rfl)
        refine pure_ (i:=1) (N:=(some 126)) (v:=?_) (a':=?_) #[true, true, false, false, false, false, false, false, false, false, false, false, false, false] rfl rfl (any_of HT_.out (by kernel_rfl)) (fun _ _ _ h=>h) (Or.inl ⟨by rfl,?_⟩) ?_ ?_
        rotate_left
        · intro w';go_simp;with_reducible rfl
        rotate_left
        · (simp only [Act.put, fillAll, List.setIfInBounds_toArray, List.set_cons_zero, List.set_cons_succ, i64_w, i32_w]; rfl)
        refine pure_ (i:=2) (N:=(some 127)) (v:=?_) (a':=?_) #[true, true, true, false, false, false, false, false, false, false, false, false, false, false] rfl rfl (any_of HT_.out (by kernel_rfl)) (fun _ _ _ h=>h) (Or.inl ⟨by rfl,?_⟩) ?_ ?_
        rotate_left
        · intro w';go_simp;with_reducible rfl
        rotate_left
        · (simp only [Act.put, fillAll, List.setIfInBounds_toArray, List.set_cons_zero, List.set_cons_succ, i64_w, i32_w]; rfl)
        refine pure_ (i:=3) (N:=(some 128)) (v:=?_) (a':=?_) #[true, true, true, true, false, false, false, false, false, false, false, false, false, false] rfl rfl (any_of HT_.out (by kernel_rfl)) (fun _ _ _ h=>h) (Or.inl ⟨by rfl,?_⟩) ?_ ?_
        rotate_left
        · intro w';go_simp;with_reducible rfl
        rotate_left
        · (simp only [Act.put, fillAll, List.setIfInBounds_toArray, List.set_cons_zero, List.set_cons_succ, i64_w, i32_w]; rfl)
        refine pure_ (i:=4) (N:=(some 129)) (v:=?_) (a':=?_) #[true, true, true, true, true, false, false, false, false, false, false, false, false, false] rfl rfl (any_of HT_.out (by kernel_rfl)) (fun _ _ _ h=>h) (Or.inl ⟨by rfl,?_⟩) ?_ ?_
        rotate_left
        · intro w';go_simp;with_reducible rfl
        rotate_left
        · (simp only [Act.put, fillAll, List.setIfInBounds_toArray, List.set_cons_zero, List.set_cons_succ, i64_w, i32_w]; rfl)
        refine pure_ (i:=5) (N:=(some 130)) (v:=?_) (a':=?_) #[true, true, true, true, true, true, false, false, false, false, false, false, false, false] rfl rfl (any_of HT_.out (by kernel_rfl)) (fun _ _ _ h=>h) (Or.inl ⟨by rfl,?_⟩) ?_ ?_
        rotate_left
        · intro w';go_simp;with_reducible rfl
        rotate_left
        · (simp only [Act.put, fillAll, List.setIfInBounds_toArray, List.set_cons_zero, List.set_cons_succ, i64_w, i32_w]; rfl)
        refine pure_ (i:=6) (N:=(some 131)) (v:=?_) (a':=?_) #[true, true, true, true, true, true, true, false, false, false, false, false, false, false] rfl rfl (any_of HT_.out (by kernel_rfl)) (fun _ _ _ h=>h) (Or.inl ⟨by rfl,?_⟩) ?_ ?_
        rotate_left
        · intro w';go_simp;with_reducible rfl
        rotate_left
        · (simp only [Act.put, fillAll, List.setIfInBounds_toArray, List.set_cons_zero, List.set_cons_succ, i64_w, i32_w]; rfl)
        refine pure_ (i:=7) (N:=(some 132)) (v:=?_) (a':=?_) #[true, true, true, true, true, true, true, true, false, false, false, false, false, false] rfl rfl (any_of HT_.out (by kernel_rfl)) (fun _ _ _ h=>h) (Or.inl ⟨by rfl,?_⟩) ?_ ?_
        rotate_left
        · intro w';go_simp;with_reducible rfl
        rotate_left
        · (simp only [Act.put, fillAll, List.setIfInBounds_toArray, List.set_cons_zero, List.set_cons_succ, i64_w, i32_w]; rfl)
        refine pure_ (i:=9) (N:=(some 134)) (v:=?_) (a':=?_) #[true, true, true, true, true, true, true, true, false, true, false, false, false, false] rfl rfl (any_of HT_.out (by kernel_rfl)) (fun _ _ _ h=>h) (Or.inl ⟨by rfl,?_⟩) ?_ ?_
        rotate_left
        · intro w';go_simp;with_reducible rfl
        rotate_left
        · (simp only [Act.put, fillAll, List.setIfInBounds_toArray, List.set_cons_zero, List.set_cons_succ, i64_w, i32_w]; rfl)
        apply r_cell (i:=8) (N:=(some 133)) #[true, true, true, true, true, true, true, true, true, true, false, false, false, false]
        (case hi=>rfl)
        (case hN=>rfl)
        (case hc=>exact take_ofW HT_.out HW_.out (by kernel_rfl))
        (case hQ=>exact fun _ _ _ h=>h)
        (case ho=>rfl)
        (case hw=>rfl)
        (case hx=>rfl)
        (case ha=>exact nag _ (by decide))
        (case hH=>first|exact HM.out.held|exact HM.out.heldTail|exact HM.out.heldTail2)
        (case hm=>repeat (first|exact .head _|refine .tail _ ?_))
        (case hv=>rfl)
        (case hp=>(simp only [Act.put, fillAll, List.setIfInBounds_toArray, List.set_cons_zero, List.set_cons_succ, i64_w, i32_w]; rfl))
        refine one_ (i := 10) (N := (some 135)) #[true, true, true, true, true, true, true, true, true, true, true, false, false, false] rfl rfl (one_of HT_.out (by kernel_rfl)) (by decide) (fun K hK => ?_)
        refine goes_ Tryz.func12 (by kernel_rfl) rfl _ (by rfl) rfl rfl (by simp only [List.map_toArray, List.map_cons, List.map_nil]; rfl) ?_
        refine (join_m HM.out HC.out HJ.out).mono ?_
        rintro e w_ ⟨rfl, hM⟩
        refine ⟨_, rfl, ?_⟩
        refine hK.out _ _ hM.held (fun _ => ?_)
        clear hK K
        clear HM
        have HM := Aside0.mk hM
        clear hM
        refine norm_ (a' := ?_) ?_ ?_
        rotate_left
        · (simp only [Act.put, fillAll, List.setIfInBounds_toArray, List.set_cons_zero, List.set_cons_succ, i64_w, i32_w]; rfl)
        refine pure_ (i:=11) (N:=(some 136)) (v:=?_) (a':=?_) #[true, true, true, true, true, true, true, true, true, true, true, true, false, false] rfl rfl (any_of HT_.out (by kernel_rfl)) (fun _ _ _ h=>h) (Or.inl ⟨by rfl,?_⟩) ?_ ?_
        rotate_left
        · intro w';go_simp;with_reducible rfl
        rotate_left
        · (simp only [Act.put, fillAll, List.setIfInBounds_toArray, List.set_cons_zero, List.set_cons_succ, i64_w, i32_w]; rfl)
        refine pure_ (i:=12) (N:=(some 137)) (v:=?_) (a':=?_) #[true, true, true, true, true, true, true, true, true, true, true, true, true, false] rfl rfl (any_of HT_.out (by kernel_rfl)) (fun _ _ _ h=>h) (Or.inl ⟨by rfl,?_⟩) ?_ ?_
        rotate_left
        · intro w';go_simp;with_reducible rfl
        rotate_left
        · (simp only [Act.put, fillAll, List.setIfInBounds_toArray, List.set_cons_zero, List.set_cons_succ, i64_w, i32_w]; rfl)
        refine pure_ (i:=13) (N:=(some 6)) (v:=?_) (a':=?_) #[true, true, true, true, true, true, true, true, true, true, true, true, true, true] rfl rfl (any_of HT_.out (by kernel_rfl)) (fun _ _ _ h=>h) (Or.inl ⟨by rfl,?_⟩) ?_ ?_
        rotate_left
        · intro w';go_simp;with_reducible rfl
        rotate_left
        · (simp only [Act.put, fillAll, List.setIfInBounds_toArray, List.set_cons_zero, List.set_cons_succ, i64_w, i32_w]; rfl)
        refine done_ (done_of HT_.out (by kernel_rfl)) ?_
        go_wp2
        first | go_ret | go_ret2 | go_ret3
        exact ⟨rfl, HM.out.below⟩
  · obtain rfl := HBD.out hf
    have HF := Aside0.mk hf
    have hz : (f != 0) = true := bne_iff_ne.2 hf
    clear hf HGD HBD HCL
    go_wp2_with (first|go_skip|(go_at_call 6;refine (new_c f (n : Int) HF.out _).mono ?_;rintro e _ ⟨rfl, hb⟩;have hM:=HM.out.call hb;clear hb;clear HM;have HM:=Aside0.mk hM;clear hM))
    go_loopw [14, 92] (fun v14 v92 wr => ∃ (i : Nat) (q : Int) (ps : List Int), v92 = .int .i64 i ∧ v14 = errV f (q :: ps) ∧ Aside0 (ps.length = i) ∧ Aside0 (i ≤ d) ∧ Aside0 (Mem w (fun k => k < w.heap.size) wr [] (fun v => True ∧ Kd.C Kd.string v A ([] : List ByteArray).length []))) (fun _ v92 _ => d - (intOf v92).toNat)
    case atStart => exact ⟨0, _, [], rfl, rfl, ⟨rfl⟩, ⟨Nat.zero_le _⟩, HM⟩
    case round =>
      clear HM
      obtain ⟨i, q, ps, rfl, rfl, HPS, HI, HM⟩ := hrel
      by_cases hlt : i < d
      · have hlz : (i : Int) < (d : Int) := by omega
        have hib : (i : Int) ≤ 20 := by have := HDB.out; omega
        go_wp2_with (first|go_skip|(go_at_call 9;refine (wrap_c f (i : Int) q ps _).mono ?_;rintro e _ ⟨rfl, hb⟩;have hM:=HM.out.call hb;clear hb;clear HM;have HM:=Aside0.mk hM;clear hM))
        go_roundw
        case rel => exact ⟨i + 1, (i : Int), q :: ps, by go_num, rfl, ⟨by simp [HPS.out]⟩, ⟨by omega⟩, HM⟩
        case measure => simp [intOf]; omega
      · have hlz : ¬ ((i : Int) < (d : Int)) := by omega
        have hid : i = d := by have := HI.out; omega
        have HIS := Aside0.mk (is_c f (q :: ps) HF.out)
        have hdp : ∀ W, Calls Tryz.prog 11 #[errV f (q :: ps)] W fun e w' => e = .returned (.int .i64 ((d : Int) + 1)) ∧ Below W.heap.size W w' := fun W => by
          have h1 := HPS.out
          have h2 := HDB.out
          have := depth_c f (q :: ps) (by rw [List.length_cons]; omega) W
          rw [List.length_cons, h1, hid] at this
          exact this
        have HDP := Aside0.mk hdp
        clear hdp
        generalize errV f (q :: ps) = v at HIS HDP ⊢
        have hdb : (d : Int) ≤ 20 := by have := HDB.out; omega
        clear hid
        go_wp2_with (first|go_skip|(go_at_call 10;refine (HIS.out _).mono ?_;rintro e _ ⟨rfl, hb⟩;have hM:=HM.out.call hb;clear hb;clear HM;have HM:=Aside0.mk hM;clear hM)|(go_at_call 11;refine (HDP.out _).mono ?_;rintro e _ ⟨rfl, hb⟩;have hM:=HM.out.call hb;clear hb;clear HM;have HM:=Aside0.mk hM;clear hM))
        first | go_ret | go_ret2 | go_ret3
        exact ⟨rfl, HM.out.below⟩
end Go.Proofs.YtimbefkiledbdaaGreatDoor.R
