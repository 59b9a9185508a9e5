/- ask.Encode: walked by hand over Mem, at a line of the kind stat. Printed by wip/tools/gen_ask3.py. -/
import Derived.Test.YtimbefkiledbdaaGreatDoorRAsk2
import Derived.Test.YtimbefkiledbdaaGreatDoorEStrs
namespace Go.Proofs.YtimbefkiledbdaaGreatDoor.R
open Go.RowKit Go.Proofs.YtimbefkiledbdaaGreatDoorW.PrintWords Go.Proofs.YtimbefkiledbdaaGreatDoorW.PrintLast Go.Proofs.YtimbefkiledbdaaGreatDoorW.PrintMore Go.Proofs.YtimbefkiledbdaaGreatDoor.Mem Go.Proofs.YtimbefkiledbdaaGreatDoor.Pure Go.Proofs.YtimbefkiledbdaaGreatDoor.XA
set_option linter.unusedVariables false
set_option linter.unusedSimpArgs false

set_option maxHeartbeats 4000000 in
set_option maxRecDepth 100000 in
theorem encode_w (n : Nat) (p d0 r : ByteArray) (zp : p.toList.isEmpty = false) (w : World) (hG : GG w) (hI : ∀ W, GG W → Calls Tryz.prog 17 #[.int .i64 (n : Int)] W fun e w' => e = .returned (.string d0) ∧ Below W.heap.size W w') (hJ : strings_Join.f [⟨#[115, 116, 97, 116]⟩, d0, p] ⟨#[32]⟩ = some r) :
    Calls Tryz.prog 7 #[.agg #[.int .i64 6, .int .i64 (n : Int), .int .i64 0, .int .i64 0, .string p, .slice none 0 0]] w fun e w' => e = .returned (.string r) ∧ Below w.heap.size w w' := by
  have HG := Aside0.mk hG
  have HIT := Aside0.mk hI
  have HJ := Aside0.mk hJ
  have HM : Aside0 (Mem w (fun k => k < w.heap.size) w [] (fun _ => True)) := ⟨Mem.start (fun _ _ => trivial)⟩
  clear hG hI hJ
  go_enter Tryz.func7, Tryz.ntmps7
  go_wp2_with (first|go_skip|((with_reducible refine gate_dst (N := 1) rfl ?_);(with_reducible refine' bn HM ?qw rfl _ ?qx ?_);(case qw|qx=>rfl);clear HM;intro g1 _ HM)|(go_at_call 14;refine (forms_m HM.out).mono ?_;rintro e _ ⟨gF, rfl, hM⟩;clear HM;have HM:=Aside0.mk hM;clear hM))
  refine wp_loop_rounds 6 ?_
  rw [rounds_succ]
  go_wp2_with (first|go_skip|((with_reducible refine' lc HM ?qw rfl ?qx ?qm ?qa ?qv ?_);(case qw|qx|qa=>rfl);(case qm=>repeat constructor);(case qv=>rfl))|((with_reducible refine' pl HM ?qw rfl ?qx ?qm (vs:=[.string ⟨#[111, 112, 101, 110]⟩, .int .i64 1, .bool true, .bool false, .bool false, .bool false, .bool false]) ?qa ?qp ?_);(case qw|qx=>rfl);(case qm=>repeat constructor);(case qa|qp=>rfl))|((with_reducible refine' pa HM ?qw rfl ?qx _ ?qy ?qm ?qa ?_);(case qw|qx|qy=>rfl);(case qm=>repeat constructor);(case qa=>rfl);clear HM;intro _ HM)|((with_reducible refine' bz HM ?qw rfl ?qa ?qc ?_);(case qw|qa|qc=>rfl);clear HM;intro _ _ HM))
  have hM := HM.out.drop
  clear HM
  have HM := Aside0.mk hM
  clear hM
  rw [rounds_succ]
  go_wp2_with (first|go_skip|((with_reducible refine' lc HM ?qw rfl ?qx ?qm ?qa ?qv ?_);(case qw|qx|qa=>rfl);(case qm=>repeat constructor);(case qv=>rfl))|((with_reducible refine' pl HM ?qw rfl ?qx ?qm (vs:=[.string ⟨#[115, 101, 110, 100]⟩, .int .i64 2, .bool true, .bool true, .bool false, .bool true, .bool false]) ?qa ?qp ?_);(case qw|qx=>rfl);(case qm=>repeat constructor);(case qa|qp=>rfl))|((with_reducible refine' pa HM ?qw rfl ?qx _ ?qy ?qm ?qa ?_);(case qw|qx|qy=>rfl);(case qm=>repeat constructor);(case qa=>rfl);clear HM;intro _ HM)|((with_reducible refine' bz HM ?qw rfl ?qa ?qc ?_);(case qw|qa|qc=>rfl);clear HM;intro _ _ HM))
  have hM := HM.out.drop
  clear HM
  have HM := Aside0.mk hM
  clear hM
  rw [rounds_succ]
  go_wp2_with (first|go_skip|((with_reducible refine' lc HM ?qw rfl ?qx ?qm ?qa ?qv ?_);(case qw|qx|qa=>rfl);(case qm=>repeat constructor);(case qv=>rfl))|((with_reducible refine' pl HM ?qw rfl ?qx ?qm (vs:=[.string ⟨#[99, 111, 109, 109, 105, 116]⟩, .int .i64 3, .bool true, .bool true, .bool false, .bool false, .bool false]) ?qa ?qp ?_);(case qw|qx=>rfl);(case qm=>repeat constructor);(case qa|qp=>rfl))|((with_reducible refine' pa HM ?qw rfl ?qx _ ?qy ?qm ?qa ?_);(case qw|qx|qy=>rfl);(case qm=>repeat constructor);(case qa=>rfl);clear HM;intro _ HM)|((with_reducible refine' bz HM ?qw rfl ?qa ?qc ?_);(case qw|qa|qc=>rfl);clear HM;intro _ _ HM))
  have hM := HM.out.drop
  clear HM
  have HM := Aside0.mk hM
  clear hM
  rw [rounds_succ]
  go_wp2_with (first|go_skip|((with_reducible refine' lc HM ?qw rfl ?qx ?qm ?qa ?qv ?_);(case qw|qx|qa=>rfl);(case qm=>repeat constructor);(case qv=>rfl))|((with_reducible refine' pl HM ?qw rfl ?qx ?qm (vs:=[.string ⟨#[97, 98, 111, 114, 116]⟩, .int .i64 4, .bool true, .bool true, .bool false, .bool false, .bool false]) ?qa ?qp ?_);(case qw|qx=>rfl);(case qm=>repeat constructor);(case qa|qp=>rfl))|((with_reducible refine' pa HM ?qw rfl ?qx _ ?qy ?qm ?qa ?_);(case qw|qx|qy=>rfl);(case qm=>repeat constructor);(case qa=>rfl);clear HM;intro _ HM)|((with_reducible refine' bz HM ?qw rfl ?qa ?qc ?_);(case qw|qa|qc=>rfl);clear HM;intro _ _ HM))
  have hM := HM.out.drop
  clear HM
  have HM := Aside0.mk hM
  clear hM
  rw [rounds_succ]
  go_wp2_with (first|go_skip|((with_reducible refine' lc HM ?qw rfl ?qx ?qm ?qa ?qv ?_);(case qw|qx|qa=>rfl);(case qm=>repeat constructor);(case qv=>rfl))|((with_reducible refine' pl HM ?qw rfl ?qx ?qm (vs:=[.string ⟨#[108, 105, 115, 116]⟩, .int .i64 5, .bool true, .bool false, .bool false, .bool false, .bool true]) ?qa ?qp ?_);(case qw|qx=>rfl);(case qm=>repeat constructor);(case qa|qp=>rfl))|((with_reducible refine' pa HM ?qw rfl ?qx _ ?qy ?qm ?qa ?_);(case qw|qx|qy=>rfl);(case qm=>repeat constructor);(case qa=>rfl);clear HM;intro _ HM)|((with_reducible refine' bz HM ?qw rfl ?qa ?qc ?_);(case qw|qa|qc=>rfl);clear HM;intro _ _ HM))
  have hM := HM.out.drop
  clear HM
  have HM := Aside0.mk hM
  clear hM
  rw [rounds_succ]
  go_upto_region 6 with (first|go_skip|((with_reducible refine' lc HM ?qw rfl ?qx ?qm ?qa ?qv ?_);(case qw|qx|qa=>rfl);(case qm=>repeat constructor);(case qv=>rfl))|((with_reducible refine' pl HM ?qw rfl ?qx ?qm (vs:=[.string ⟨#[115, 116, 97, 116]⟩, .int .i64 6, .bool true, .bool false, .bool false, .bool false, .bool true]) ?qa ?qp ?_);(case qw|qx=>rfl);(case qm=>repeat constructor);(case qa|qp=>rfl))|((with_reducible refine' pa HM ?qw rfl ?qx _ ?qy ?qm ?qa ?_);(case qw|qx|qy=>rfl);(case qm=>repeat constructor);(case qa=>rfl);clear HM;intro _ HM)|((with_reducible refine' bz HM ?qw rfl ?qa ?qc ?_);(case qw|qa|qc=>rfl);clear HM;intro r5 _ HM)|((with_reducible refine' bsG HM rfl rfl ?qx (fun w=>run_bs9 w ⟨#[115, 116, 97, 116]⟩) ?_);(case qx=>rfl);clear HM;intro gW _ HM))
  have hM := HM.out.perm (List.perm_append_comm (l₁ := [_]) (l₂ := [_, _, _]))
  clear HM
  simp only [List.cons_append, List.nil_append] at hM
  have HM := Aside0.mk hM
  clear hM
  have HO : Aside0 (OwnB 9 1 (.slice (some ⟨gW, 0, none⟩) 1 1) 1 [.string ⟨#[115, 116, 97, 116]⟩] [(gW, [.string ⟨#[115, 116, 97, 116]⟩], 9)]) := ⟨.inr ⟨gW, 1, [], rfl, rfl, rfl, rfl, Nat.le_refl _, by decide⟩⟩
  go_upto_region 8 with (first|go_skip|((with_reducible refine' lc HM ?qw rfl ?qx ?qm ?qa ?qv ?_);(case qw|qx|qa=>rfl);(case qm=>repeat constructor);(case qv=>rfl))|(go_at_call 17;refine (HIT.out _ (HG.out.below HM.out.below)).mono ?_;rintro e _ ⟨rfl, hb⟩;have hM:=HM.out.call hb;clear hb;clear HM;have HM:=Aside0.mk hM;clear hM)|((with_reducible refine' bsG HM rfl rfl ?qx (fun w=>run_bs9 w d0) ?_);(case qx=>rfl);clear HM;intro gD _ HM)|((with_reducible refine gate_builtin (b:=.append) rfl ?_);go_loud (refine' addG (cs:=[.string d0]) under33 inf9 rfl (by decide) (by decide) [_, _, _] HM HO rfl (by intro u hu; simp at hu; subst hu; rfl) rfl rfl ?qs ?qx ?qn ?_;(case qs|qx=>rfl);(case qn=>decide);clear HM;clear HO;intro vN XN _ HO HM;have hM:=HM.out;simp only [List.cons_append,List.nil_append] at hM;clear HM;have HM:=Aside0.mk hM;clear hM)))
  go_upto_region 22 with (first|go_skip|((with_reducible refine' lc HM ?qw rfl ?qx ?qm ?qa ?qv ?_);(case qw|qx|qa=>rfl);(case qm=>repeat constructor);(case qv=>rfl))|((with_reducible refine' bsG HM rfl rfl ?qx (fun w=>run_bs9 w p) ?_);(case qx=>rfl);clear HM;intro gP _ HM)|((with_reducible refine gate_builtin (b:=.append) rfl ?_);go_loud (refine' addG (cs:=[.string p]) under33 inf9 rfl (by decide) (by decide) [_, _, _, _] HM HO rfl (by intro u hu; simp at hu; subst hu; rfl) rfl rfl ?qs ?qx ?qn ?_;(case qs|qx=>rfl);(case qn=>decide);clear HM;clear HO;intro vN XN _ HO HM;have hM:=HM.out;simp only [List.cons_append,List.nil_append] at hM;clear HM;have HM:=Aside0.mk hM;clear hM)))
  obtain ⟨Aj, cj, hv, hc, hM⟩ := handX sx9 (l := [⟨#[115, 116, 97, 116]⟩, d0, p]) (B := [_, _, _, _, _]) HM.out HO.out
  subst hv
  clear HM HO
  have HM := Aside0.mk hM
  have HC := Aside0.mk hc
  clear hM hc
  go_wp2_with (first|go_skip|(go_at_call 18;refine (strings_Join.calls Aj cj [⟨#[115, 116, 97, 116]⟩, d0, p] _ _ _ HM.out.now.2 HC.out HJ.out).mono ?_;rintro e _ ⟨rfl, hb⟩;have hM:=HM.out.call hb;clear hb;clear HM;have HM:=Aside0.mk hM;clear hM))
  first | go_ret | go_ret2 | go_ret3
  exact ⟨rfl, HM.out.below⟩
set_option maxHeartbeats 4000000 in
set_option maxRecDepth 100000 in
theorem encode_e (n : Nat) (p d0 r : ByteArray) (w : World) (hG : GG w) (hI : ∀ W, GG W → Calls Tryz.prog 17 #[.int .i64 (n : Int)] W fun e w' => e = .returned (.string d0) ∧ Below W.heap.size W w') (hJ : strings_Join.f [⟨#[115, 116, 97, 116]⟩, d0] ⟨#[32]⟩ = some r) :
    Calls Tryz.prog 7 #[.agg #[.int .i64 6, .int .i64 (n : Int), .int .i64 0, .int .i64 0, .string (⟨#[]⟩ : ByteArray), .slice none 0 0]] w fun e w' => e = .returned (.string r) ∧ Below w.heap.size w w' := by
  have HG := Aside0.mk hG
  have HIT := Aside0.mk hI
  have HJ := Aside0.mk hJ
  have HM : Aside0 (Mem w (fun k => k < w.heap.size) w [] (fun _ => True)) := ⟨Mem.start (fun _ _ => trivial)⟩
  clear hG hI hJ
  go_enter Tryz.func7, Tryz.ntmps7
  go_wp2_with (first|go_skip|((with_reducible refine gate_dst (N := 1) rfl ?_);(with_reducible refine' bn HM ?qw rfl _ ?qx ?_);(case qw|qx=>rfl);clear HM;intro g1 _ HM)|(go_at_call 14;refine (forms_m HM.out).mono ?_;rintro e _ ⟨gF, rfl, hM⟩;clear HM;have HM:=Aside0.mk hM;clear hM))
  refine wp_loop_rounds 6 ?_
  rw [rounds_succ]
  go_wp2_with (first|go_skip|((with_reducible refine' lc HM ?qw rfl ?qx ?qm ?qa ?qv ?_);(case qw|qx|qa=>rfl);(case qm=>repeat constructor);(case qv=>rfl))|((with_reducible refine' pl HM ?qw rfl ?qx ?qm (vs:=[.string ⟨#[111, 112, 101, 110]⟩, .int .i64 1, .bool true, .bool false, .bool false, .bool false, .bool false]) ?qa ?qp ?_);(case qw|qx=>rfl);(case qm=>repeat constructor);(case qa|qp=>rfl))|((with_reducible refine' pa HM ?qw rfl ?qx _ ?qy ?qm ?qa ?_);(case qw|qx|qy=>rfl);(case qm=>repeat constructor);(case qa=>rfl);clear HM;intro _ HM)|((with_reducible refine' bz HM ?qw rfl ?qa ?qc ?_);(case qw|qa|qc=>rfl);clear HM;intro _ _ HM))
  have hM := HM.out.drop
  clear HM
  have HM := Aside0.mk hM
  clear hM
  rw [rounds_succ]
  go_wp2_with (first|go_skip|((with_reducible refine' lc HM ?qw rfl ?qx ?qm ?qa ?qv ?_);(case qw|qx|qa=>rfl);(case qm=>repeat constructor);(case qv=>rfl))|((with_reducible refine' pl HM ?qw rfl ?qx ?qm (vs:=[.string ⟨#[115, 101, 110, 100]⟩, .int .i64 2, .bool true, .bool true, .bool false, .bool true, .bool false]) ?qa ?qp ?_);(case qw|qx=>rfl);(case qm=>repeat constructor);(case qa|qp=>rfl))|((with_reducible refine' pa HM ?qw rfl ?qx _ ?qy ?qm ?qa ?_);(case qw|qx|qy=>rfl);(case qm=>repeat constructor);(case qa=>rfl);clear HM;intro _ HM)|((with_reducible refine' bz HM ?qw rfl ?qa ?qc ?_);(case qw|qa|qc=>rfl);clear HM;intro _ _ HM))
  have hM := HM.out.drop
  clear HM
  have HM := Aside0.mk hM
  clear hM
  rw [rounds_succ]
  go_wp2_with (first|go_skip|((with_reducible refine' lc HM ?qw rfl ?qx ?qm ?qa ?qv ?_);(case qw|qx|qa=>rfl);(case qm=>repeat constructor);(case qv=>rfl))|((with_reducible refine' pl HM ?qw rfl ?qx ?qm (vs:=[.string ⟨#[99, 111, 109, 109, 105, 116]⟩, .int .i64 3, .bool true, .bool true, .bool false, .bool false, .bool false]) ?qa ?qp ?_);(case qw|qx=>rfl);(case qm=>repeat constructor);(case qa|qp=>rfl))|((with_reducible refine' pa HM ?qw rfl ?qx _ ?qy ?qm ?qa ?_);(case qw|qx|qy=>rfl);(case qm=>repeat constructor);(case qa=>rfl);clear HM;intro _ HM)|((with_reducible refine' bz HM ?qw rfl ?qa ?qc ?_);(case qw|qa|qc=>rfl);clear HM;intro _ _ HM))
  have hM := HM.out.drop
  clear HM
  have HM := Aside0.mk hM
  clear hM
  rw [rounds_succ]
  go_wp2_with (first|go_skip|((with_reducible refine' lc HM ?qw rfl ?qx ?qm ?qa ?qv ?_);(case qw|qx|qa=>rfl);(case qm=>repeat constructor);(case qv=>rfl))|((with_reducible refine' pl HM ?qw rfl ?qx ?qm (vs:=[.string ⟨#[97, 98, 111, 114, 116]⟩, .int .i64 4, .bool true, .bool true, .bool false, .bool false, .bool false]) ?qa ?qp ?_);(case qw|qx=>rfl);(case qm=>repeat constructor);(case qa|qp=>rfl))|((with_reducible refine' pa HM ?qw rfl ?qx _ ?qy ?qm ?qa ?_);(case qw|qx|qy=>rfl);(case qm=>repeat constructor);(case qa=>rfl);clear HM;intro _ HM)|((with_reducible refine' bz HM ?qw rfl ?qa ?qc ?_);(case qw|qa|qc=>rfl);clear HM;intro _ _ HM))
  have hM := HM.out.drop
  clear HM
  have HM := Aside0.mk hM
  clear hM
  rw [rounds_succ]
  go_wp2_with (first|go_skip|((with_reducible refine' lc HM ?qw rfl ?qx ?qm ?qa ?qv ?_);(case qw|qx|qa=>rfl);(case qm=>repeat constructor);(case qv=>rfl))|((with_reducible refine' pl HM ?qw rfl ?qx ?qm (vs:=[.string ⟨#[108, 105, 115, 116]⟩, .int .i64 5, .bool true, .bool false, .bool false, .bool false, .bool true]) ?qa ?qp ?_);(case qw|qx=>rfl);(case qm=>repeat constructor);(case qa|qp=>rfl))|((with_reducible refine' pa HM ?qw rfl ?qx _ ?qy ?qm ?qa ?_);(case qw|qx|qy=>rfl);(case qm=>repeat constructor);(case qa=>rfl);clear HM;intro _ HM)|((with_reducible refine' bz HM ?qw rfl ?qa ?qc ?_);(case qw|qa|qc=>rfl);clear HM;intro _ _ HM))
  have hM := HM.out.drop
  clear HM
  have HM := Aside0.mk hM
  clear hM
  rw [rounds_succ]
  go_upto_region 6 with (first|go_skip|((with_reducible refine' lc HM ?qw rfl ?qx ?qm ?qa ?qv ?_);(case qw|qx|qa=>rfl);(case qm=>repeat constructor);(case qv=>rfl))|((with_reducible refine' pl HM ?qw rfl ?qx ?qm (vs:=[.string ⟨#[115, 116, 97, 116]⟩, .int .i64 6, .bool true, .bool false, .bool false, .bool false, .bool true]) ?qa ?qp ?_);(case qw|qx=>rfl);(case qm=>repeat constructor);(case qa|qp=>rfl))|((with_reducible refine' pa HM ?qw rfl ?qx _ ?qy ?qm ?qa ?_);(case qw|qx|qy=>rfl);(case qm=>repeat constructor);(case qa=>rfl);clear HM;intro _ HM)|((with_reducible refine' bz HM ?qw rfl ?qa ?qc ?_);(case qw|qa|qc=>rfl);clear HM;intro r5 _ HM)|((with_reducible refine' bsG HM rfl rfl ?qx (fun w=>run_bs9 w ⟨#[115, 116, 97, 116]⟩) ?_);(case qx=>rfl);clear HM;intro gW _ HM))
  have hM := HM.out.perm (List.perm_append_comm (l₁ := [_]) (l₂ := [_, _, _]))
  clear HM
  simp only [List.cons_append, List.nil_append] at hM
  have HM := Aside0.mk hM
  clear hM
  have HO : Aside0 (OwnB 9 1 (.slice (some ⟨gW, 0, none⟩) 1 1) 1 [.string ⟨#[115, 116, 97, 116]⟩] [(gW, [.string ⟨#[115, 116, 97, 116]⟩], 9)]) := ⟨.inr ⟨gW, 1, [], rfl, rfl, rfl, rfl, Nat.le_refl _, by decide⟩⟩
  go_upto_region 8 with (first|go_skip|((with_reducible refine' lc HM ?qw rfl ?qx ?qm ?qa ?qv ?_);(case qw|qx|qa=>rfl);(case qm=>repeat constructor);(case qv=>rfl))|(go_at_call 17;refine (HIT.out _ (HG.out.below HM.out.below)).mono ?_;rintro e _ ⟨rfl, hb⟩;have hM:=HM.out.call hb;clear hb;clear HM;have HM:=Aside0.mk hM;clear hM)|((with_reducible refine' bsG HM rfl rfl ?qx (fun w=>run_bs9 w d0) ?_);(case qx=>rfl);clear HM;intro gD _ HM)|((with_reducible refine gate_builtin (b:=.append) rfl ?_);go_loud (refine' addG (cs:=[.string d0]) under33 inf9 rfl (by decide) (by decide) [_, _, _] HM HO rfl (by intro u hu; simp at hu; subst hu; rfl) rfl rfl ?qs ?qx ?qn ?_;(case qs|qx=>rfl);(case qn=>decide);clear HM;clear HO;intro vN XN _ HO HM;have hM:=HM.out;simp only [List.cons_append,List.nil_append] at hM;clear HM;have HM:=Aside0.mk hM;clear hM)))
  go_upto_region 22 with (first|go_skip|((with_reducible refine' lc HM ?qw rfl ?qx ?qm ?qa ?qv ?_);(case qw|qx|qa=>rfl);(case qm=>repeat constructor);(case qv=>rfl)))
  obtain ⟨Aj, cj, hv, hc, hM⟩ := handX sx9 (l := [⟨#[115, 116, 97, 116]⟩, d0]) (B := [_, _, _, _]) HM.out HO.out
  subst hv
  clear HM HO
  have HM := Aside0.mk hM
  have HC := Aside0.mk hc
  clear hM hc
  go_wp2_with (first|go_skip|(go_at_call 18;refine (strings_Join.calls Aj cj [⟨#[115, 116, 97, 116]⟩, d0] _ _ _ HM.out.now.2 HC.out HJ.out).mono ?_;rintro e _ ⟨rfl, hb⟩;have hM:=HM.out.call hb;clear hb;clear HM;have HM:=Aside0.mk hM;clear hM))
  first | go_ret | go_ret2 | go_ret3
  exact ⟨rfl, HM.out.below⟩

end Go.Proofs.YtimbefkiledbdaaGreatDoor.R
