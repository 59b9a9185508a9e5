/- (form).read, ask.Decode: walked by hand over Mem, at lines of the kind stat. Printed by wip/tools/gen_ask2.py. -/
import Derived.Test.YtimbefkiledbdaaGreatDoorRAsk1
namespace Go.Proofs.YtimbefkiledbdaaGreatDoor.R
open Go.RowKit Go.Proofs.YtimbefkiledbdaaGreatDoorW.PrintWords Go.Proofs.YtimbefkiledbdaaGreatDoorW.PrintLast Go.Proofs.YtimbefkiledbdaaGreatDoorW.PrintMore Go.Proofs.YtimbefkiledbdaaGreatDoor.Mem Go.Proofs.YtimbefkiledbdaaGreatDoor.Pure
set_option linter.unusedVariables false
set_option linter.unusedSimpArgs false

section
variable {w0 W : World} {P : Nat → Prop} {B X : List Bx} {S : World → Prop} {ops : Array Oper} {rest : List Oper} {o : Oper} {a : Act} {Q : Exit → Act → World → Prop} {x y z : Operand} {c1 c2 c3 : Bool} {q1 q2 q3 : Addr}
theorem run_bs3 (w : World) : (Instr.buildSlice 63 3 #[(0, .agg #[.bool c1, .pointer (some q1)]), (1, .agg #[.bool c2, .pointer (some q2)]), (2, .agg #[.bool c3, .pointer (some q3)])]).run Tryz.prog w = .ok (.slice (some ⟨w.heap.size, 0, none⟩) 3 3) (w.alloc (.cells #[.bool c1, .pointer (some q1), .bool c2, .pointer (some q2), .bool c3, .pointer (some q3)] 62)) := by kernel_rfl
theorem bs3 (HM : Aside0 (Mem w0 P W B S)) (hg : o.guard = none) (ho : o.op = .buildSlice 63 3 #[(0, x), (1, y), (2, z)]) (hx : a.eval x = .agg #[.bool c1, .pointer (some q1)]) (hy : a.eval y = .agg #[.bool c2, .pointer (some q2)]) (hz : a.eval z = .agg #[.bool c3, .pointer (some q3)])
    (h : ∀ g W1, Aside0 (Mem w0 P W1 ((g, [.bool c1, .pointer (some q1), .bool c2, .pointer (some q2), .bool c3, .pointer (some q3)], 62) :: B) S) → wpList Tryz.prog ops Q rest (a.put o.dst (.slice (some ⟨g, 0, none⟩) 3 3)) W1) : wpList Tryz.prog ops Q (o :: rest) a W := by
  refine wpList_plain hg fun K hK => ?_
  unfold Oper.wp execOp
  simp only [ho, Sem.run_bind, Sem.run_pure, Result.andThen_ok, List.map_toArray, List.map_cons, List.map_nil, hx, hy, hz, run_bs3]
  exact hK _ _ (h _ _ ⟨HM.out.new (cs := [.bool c1, .pointer (some q1), .bool c2, .pointer (some q2), .bool c3, .pointer (some q3)]) rfl (blk_new W _) (below_alloc (Below.refl _ _) _)⟩)
end
def sOf (r p : ByteArray) : Nat → ByteArray
  | 0 => r
  | _ + 1 => p
def nOf (n : Int) : Nat → Int
  | 0 => 0
  | _ + 1 => n
set_option maxHeartbeats 4000000 in
set_option maxRecDepth 100000 in
theorem read_c (n : Nat) (p : ByteArray) (hn : n ≤ 1048576) (hp : p.size ≤ 100000) (w : World) (hG : GG w) :
    Calls Tryz.prog 15 #[.agg #[.string ⟨#[115, 116, 97, 116]⟩, .int .i64 6, .bool true, .bool false, .bool false, .bool false, .bool true], .string ⟨(restB n p).toArray⟩] w fun e w' => e = .returned (.tuple #[.agg #[.int .i64 6, .int .i64 (n : Int), .int .i64 0, .int .i64 0, .string p, .slice none 0 0], .int .i64 0]) ∧ Below w.heap.size w w' := by
  have HG := Aside0.mk hG
  have HM : Aside0 (Mem w (fun k => k < w.heap.size) w [] (fun _ => True)) := ⟨Mem.start (fun _ _ => trivial)⟩
  have HNX := Aside0.mk (next_rest n p hn hp)
  have HNU := Aside0.mk (number_c n hn)
  generalize (⟨(restB n p).toArray⟩ : ByteArray) = s0 at HNX ⊢
  generalize (⟨(Lib.decDigits n).toArray⟩ : ByteArray) = d0 at HNX HNU
  clear hG hn hp
  go_enter Tryz.func15, Tryz.ntmps15
  go_upto_region 2 with (first|go_skip|((with_reducible refine' lc HM ?qw rfl ?qx ?qm ?qa ?qv ?_);(case qw|qx|qa=>rfl);(case qm=>repeat constructor);(case qv=>rfl))|((with_reducible refine' pa HM ?qw rfl ?qx _ ?qy ?qm ?qa ?_);(case qw|qx|qy=>rfl);(case qm=>repeat constructor);(case qa=>rfl);clear HM;intro _ HM)|((with_reducible refine gate_dst (N := 4) rfl ?_);(with_reducible refine' bz HM ?qw rfl ?qa ?qc ?_);(case qw|qa|qc=>rfl);clear HM;intro g4 _ HM)|((with_reducible refine gate_dst (N := 6) rfl ?_);(with_reducible refine' bz HM ?qw rfl ?qa ?qc ?_);(case qw|qa|qc=>rfl);clear HM;intro g6 _ HM)|((with_reducible refine gate_dst (N := 2) rfl ?_);(with_reducible refine' bn HM ?qw rfl _ ?qx ?_);(case qw|qx=>rfl);clear HM;intro g2 _ HM))
  go_wp2_with (first|go_skip|((with_reducible refine' bs3 HM rfl rfl ?qx ?qy ?qz ?_);(case qx|qy|qz=>rfl);clear HM;intro gS _ HM)|((with_reducible refine' lc HM ?qw rfl ?qx ?qm ?qa ?qv ?_);(case qw|qx|qa=>rfl);(case qm=>repeat constructor);(case qv=>rfl)))
  refine wp_loop_rounds 4 ?_
  rw [rounds_succ]
  go_wp2_with (first|go_skip|((with_reducible refine' lc HM ?qw rfl ?qx ?qm ?qa ?qv ?_);(case qw|qx|qa=>rfl);(case qm=>repeat constructor);(case qv=>rfl))|((with_reducible refine' pl HM ?qw rfl ?qx ?qm (vs:=[.bool true, .pointer (some ⟨g6, 1, none⟩)]) ?qa ?qp ?_);(case qw|qx=>rfl);(case qm=>repeat constructor);(case qa|qp=>rfl))|((with_reducible refine' pa HM ?qw rfl ?qx _ ?qy ?qm ?qa ?_);(case qw|qx|qy=>rfl);(case qm=>repeat constructor);(case qa=>rfl);clear HM;intro _ HM)|((with_reducible refine' pc HM ?qw rfl ?qx ?qa ?qy ?qm ?qo ?qi ?_);(case qw|qx|qa=>rfl);(case qy=>first|exact (rfl:_=Value.int _ _)|exact (rfl:_=Value.slice _ _ _)|exact (rfl:_=Value.string _)|exact (rfl:_=Value.bool _));(case qm=>repeat constructor);(case qo=>exact ⟨rfl,rfl⟩);(case qi=>rfl);clear HM;intro _ HM;try simp only [List.set_cons_zero,List.set_cons_succ] at HM)|((with_reducible refine' bz HM ?qw rfl ?qa ?qc ?_);(case qw|qa|qc=>rfl);clear HM;intro _ _ HM)|(go_at_call 13;refine (HNX.out _).mono ?_;rintro e _ ⟨rfl, hb⟩;have hM:=HM.out.call hb;clear hb;clear HM;have HM:=Aside0.mk hM;clear hM)|(go_at_call 24;refine (HNU.out _ (HG.out.below HM.out.below)).mono ?_;rintro e _ ⟨rfl, hb⟩;have hM:=HM.out.call hb;clear hb;clear HM;have HM:=Aside0.mk hM;clear hM))
  rw [rounds_succ]
  go_wp2_with (first|go_skip|((with_reducible refine' lc HM ?qw rfl ?qx ?qm ?qa ?qv ?_);(case qw|qx|qa=>rfl);(case qm=>repeat constructor);(case qv=>rfl))|((with_reducible refine' pl HM ?qw rfl ?qx ?qm (vs:=[.bool false, .pointer (some ⟨g6, 2, none⟩)]) ?qa ?qp ?_);(case qw|qx=>rfl);(case qm=>repeat constructor);(case qa|qp=>rfl))|((with_reducible refine' pa HM ?qw rfl ?qx _ ?qy ?qm ?qa ?_);(case qw|qx|qy=>rfl);(case qm=>repeat constructor);(case qa=>rfl);clear HM;intro _ HM)|((with_reducible refine' pc HM ?qw rfl ?qx ?qa ?qy ?qm ?qo ?qi ?_);(case qw|qx|qa=>rfl);(case qy=>first|exact (rfl:_=Value.int _ _)|exact (rfl:_=Value.slice _ _ _)|exact (rfl:_=Value.string _)|exact (rfl:_=Value.bool _));(case qm=>repeat constructor);(case qo=>exact ⟨rfl,rfl⟩);(case qi=>rfl);clear HM;intro _ HM;try simp only [List.set_cons_zero,List.set_cons_succ] at HM)|((with_reducible refine' bz HM ?qw rfl ?qa ?qc ?_);(case qw|qa|qc=>rfl);clear HM;intro _ _ HM)|(go_at_call 13;refine (HNX.out _).mono ?_;rintro e _ ⟨rfl, hb⟩;have hM:=HM.out.call hb;clear hb;clear HM;have HM:=Aside0.mk hM;clear hM)|(go_at_call 24;refine (HNU.out _ (HG.out.below HM.out.below)).mono ?_;rintro e _ ⟨rfl, hb⟩;have hM:=HM.out.call hb;clear hb;clear HM;have HM:=Aside0.mk hM;clear hM))
  rw [rounds_succ]
  go_wp2_with (first|go_skip|((with_reducible refine' lc HM ?qw rfl ?qx ?qm ?qa ?qv ?_);(case qw|qx|qa=>rfl);(case qm=>repeat constructor);(case qv=>rfl))|((with_reducible refine' pl HM ?qw rfl ?qx ?qm (vs:=[.bool false, .pointer (some ⟨g6, 3, none⟩)]) ?qa ?qp ?_);(case qw|qx=>rfl);(case qm=>repeat constructor);(case qa|qp=>rfl))|((with_reducible refine' pa HM ?qw rfl ?qx _ ?qy ?qm ?qa ?_);(case qw|qx|qy=>rfl);(case qm=>repeat constructor);(case qa=>rfl);clear HM;intro _ HM)|((with_reducible refine' pc HM ?qw rfl ?qx ?qa ?qy ?qm ?qo ?qi ?_);(case qw|qx|qa=>rfl);(case qy=>first|exact (rfl:_=Value.int _ _)|exact (rfl:_=Value.slice _ _ _)|exact (rfl:_=Value.string _)|exact (rfl:_=Value.bool _));(case qm=>repeat constructor);(case qo=>exact ⟨rfl,rfl⟩);(case qi=>rfl);clear HM;intro _ HM;try simp only [List.set_cons_zero,List.set_cons_succ] at HM)|((with_reducible refine' bz HM ?qw rfl ?qa ?qc ?_);(case qw|qa|qc=>rfl);clear HM;intro _ _ HM)|(go_at_call 13;refine (HNX.out _).mono ?_;rintro e _ ⟨rfl, hb⟩;have hM:=HM.out.call hb;clear hb;clear HM;have HM:=Aside0.mk hM;clear hM)|(go_at_call 24;refine (HNU.out _ (HG.out.below HM.out.below)).mono ?_;rintro e _ ⟨rfl, hb⟩;have hM:=HM.out.call hb;clear hb;clear HM;have HM:=Aside0.mk hM;clear hM))
  rw [rounds_succ]
  go_wp2_with (first|go_skip|((with_reducible refine' lc HM ?qw rfl ?qx ?qm ?qa ?qv ?_);(case qw|qx|qa=>rfl);(case qm=>repeat constructor);(case qv=>rfl))|((with_reducible refine' la HM ?qw rfl ?qx ?qm ?qa ?_);(case qw|qx=>rfl);(case qm=>repeat constructor);(case qa=>rfl))|((with_reducible refine' pa HM ?qw rfl ?qx _ ?qy ?qm ?qa ?_);(case qw|qx|qy=>rfl);(case qm=>repeat constructor);(case qa=>rfl);clear HM;intro _ HM)|((with_reducible refine' pc HM ?qw rfl ?qx ?qa ?qy ?qm ?qo ?qi ?_);(case qw|qx|qa=>rfl);(case qy=>first|exact (rfl:_=Value.int _ _)|exact (rfl:_=Value.slice _ _ _)|exact (rfl:_=Value.string _)|exact (rfl:_=Value.bool _));(case qm=>repeat constructor);(case qo=>exact ⟨rfl,rfl⟩);(case qi=>rfl);clear HM;intro _ HM;try simp only [List.set_cons_zero,List.set_cons_succ] at HM))
  refine bodyPost_ret (ret_ct (cs := [.int .i64 6, .int .i64 (n : Int), .int .i64 0, .int .i64 0, .string p, .slice none 0 0]) HM.out rfl rfl (by repeat (first | exact .head _ | refine .tail _ ?_)) (by exact agg24)) rfl ?_
  exact ⟨rfl, HM.out.below⟩
theorem forms_m {w0 W : World} {P : Nat → Prop} {B : List Bx} {S : World → Prop} (HM : Mem w0 P W B S) : Calls Tryz.prog 14 #[] W fun e w' => ∃ g, e = .returned (.slice (some ⟨g, 0, none⟩) 11 11) ∧ Mem w0 P w' ((g, formsL, 46) :: B) S :=
  (forms_c W).mono (by rintro e w' ⟨rfl, rfl⟩; exact ⟨_, rfl, HM.new (cs := formsL) rfl (blk_new W _) (below_alloc (Below.refl _ _) _)⟩)
set_option maxHeartbeats 4000000 in
set_option maxRecDepth 100000 in
theorem decode_c (n : Nat) (p : ByteArray) (hn : n ≤ 1048576) (hp : p.size ≤ 5000) (w : World) (hG : GG w) :
    Calls Tryz.prog 4 #[.string ⟨(lineB n p).toArray⟩] w fun e w' => e = .returned (.tuple #[.agg #[.int .i64 6, .int .i64 (n : Int), .int .i64 0, .int .i64 0, .string p, .slice none 0 0], .int .i64 0]) ∧ Below w.heap.size w w' := by
  have HG := Aside0.mk hG
  have HM : Aside0 (Mem w (fun k => k < w.heap.size) w [] (fun _ => True)) := ⟨Mem.start (fun _ _ => trivial)⟩
  have HRD := Aside0.mk (read_c n p hn (by omega))
  have hl : (restB n p).length ≤ 5010 := by
    have := dd7 hn
    have := tailB_len p
    unfold restB
    rw [List.length_append]
    omega
  have hz : (⟨(lineB n p).toArray⟩ : ByteArray).size ≤ 5015 := by
    rw [size_mk]
    unfold lineB
    simp only [List.length_append, List.length_cons, List.length_nil]
    omega
  have z1 : decide ((16384 : Int) < ((⟨(lineB n p).toArray⟩ : ByteArray).size : Int)) = false := decide_eq_false (by omega)
  have HNX := Aside0.mk (next_at ⟨(lineB n p).toArray⟩ [115, 116, 97, 116] (restB n p) (by simp [lineB]) (by decide) (by omega))
  rw [show (⟨([115, 116, 97, 116] : List UInt8).toArray⟩ : ByteArray) = ⟨#[115, 116, 97, 116]⟩ from rfl] at HNX
  generalize (⟨(lineB n p).toArray⟩ : ByteArray) = L at HNX z1 ⊢
  generalize (⟨(restB n p).toArray⟩ : ByteArray) = r at HNX HRD
  clear hG hn hp hl hz
  go_enter Tryz.func4, Tryz.ntmps4
  go_wp2_with (first|go_skip|((with_reducible refine gate_dst (N := 2) rfl ?_);(with_reducible refine' bz HM ?qw rfl ?qa ?qc ?_);(case qw|qa|qc=>rfl);clear HM;intro g2 _ HM)|(go_at_call 13;refine (HNX.out _).mono ?_;rintro e _ ⟨rfl, hb⟩;have hM:=HM.out.call hb;clear hb;clear HM;have HM:=Aside0.mk hM;clear hM)|(go_at_call 14;refine (forms_m HM.out).mono ?_;rintro e _ ⟨gF, rfl, hM⟩;clear HM;have HM:=Aside0.mk hM;clear hM))
  refine wp_loop_rounds 6 ?_
  rw [rounds_succ]
  go_wp2_with (first|go_skip|((with_reducible refine' lc HM ?qw rfl ?qx ?qm ?qa ?qv ?_);(case qw|qx|qa=>rfl);(case qm=>repeat constructor);(case qv=>rfl))|((with_reducible refine' pl HM ?qw rfl ?qx ?qm (vs:=[.string ⟨#[111, 112, 101, 110]⟩, .int .i64 1, .bool true, .bool false, .bool false, .bool false, .bool false]) ?qa ?qp ?_);(case qw|qx=>rfl);(case qm=>repeat constructor);(case qa|qp=>rfl))|((with_reducible refine' pa HM ?qw rfl ?qx _ ?qy ?qm ?qa ?_);(case qw|qx|qy=>rfl);(case qm=>repeat constructor);(case qa=>rfl);clear HM;intro _ HM)|((with_reducible refine' bz HM ?qw rfl ?qa ?qc ?_);(case qw|qa|qc=>rfl);clear HM;intro _ _ HM))
  rw [rounds_succ]
  go_wp2_with (first|go_skip|((with_reducible refine' lc HM ?qw rfl ?qx ?qm ?qa ?qv ?_);(case qw|qx|qa=>rfl);(case qm=>repeat constructor);(case qv=>rfl))|((with_reducible refine' pl HM ?qw rfl ?qx ?qm (vs:=[.string ⟨#[115, 101, 110, 100]⟩, .int .i64 2, .bool true, .bool true, .bool false, .bool true, .bool false]) ?qa ?qp ?_);(case qw|qx=>rfl);(case qm=>repeat constructor);(case qa|qp=>rfl))|((with_reducible refine' pa HM ?qw rfl ?qx _ ?qy ?qm ?qa ?_);(case qw|qx|qy=>rfl);(case qm=>repeat constructor);(case qa=>rfl);clear HM;intro _ HM)|((with_reducible refine' bz HM ?qw rfl ?qa ?qc ?_);(case qw|qa|qc=>rfl);clear HM;intro _ _ HM))
  rw [rounds_succ]
  go_wp2_with (first|go_skip|((with_reducible refine' lc HM ?qw rfl ?qx ?qm ?qa ?qv ?_);(case qw|qx|qa=>rfl);(case qm=>repeat constructor);(case qv=>rfl))|((with_reducible refine' pl HM ?qw rfl ?qx ?qm (vs:=[.string ⟨#[99, 111, 109, 109, 105, 116]⟩, .int .i64 3, .bool true, .bool true, .bool false, .bool false, .bool false]) ?qa ?qp ?_);(case qw|qx=>rfl);(case qm=>repeat constructor);(case qa|qp=>rfl))|((with_reducible refine' pa HM ?qw rfl ?qx _ ?qy ?qm ?qa ?_);(case qw|qx|qy=>rfl);(case qm=>repeat constructor);(case qa=>rfl);clear HM;intro _ HM)|((with_reducible refine' bz HM ?qw rfl ?qa ?qc ?_);(case qw|qa|qc=>rfl);clear HM;intro _ _ HM))
  rw [rounds_succ]
  go_wp2_with (first|go_skip|((with_reducible refine' lc HM ?qw rfl ?qx ?qm ?qa ?qv ?_);(case qw|qx|qa=>rfl);(case qm=>repeat constructor);(case qv=>rfl))|((with_reducible refine' pl HM ?qw rfl ?qx ?qm (vs:=[.string ⟨#[97, 98, 111, 114, 116]⟩, .int .i64 4, .bool true, .bool true, .bool false, .bool false, .bool false]) ?qa ?qp ?_);(case qw|qx=>rfl);(case qm=>repeat constructor);(case qa|qp=>rfl))|((with_reducible refine' pa HM ?qw rfl ?qx _ ?qy ?qm ?qa ?_);(case qw|qx|qy=>rfl);(case qm=>repeat constructor);(case qa=>rfl);clear HM;intro _ HM)|((with_reducible refine' bz HM ?qw rfl ?qa ?qc ?_);(case qw|qa|qc=>rfl);clear HM;intro _ _ HM))
  rw [rounds_succ]
  go_wp2_with (first|go_skip|((with_reducible refine' lc HM ?qw rfl ?qx ?qm ?qa ?qv ?_);(case qw|qx|qa=>rfl);(case qm=>repeat constructor);(case qv=>rfl))|((with_reducible refine' pl HM ?qw rfl ?qx ?qm (vs:=[.string ⟨#[108, 105, 115, 116]⟩, .int .i64 5, .bool true, .bool false, .bool false, .bool false, .bool true]) ?qa ?qp ?_);(case qw|qx=>rfl);(case qm=>repeat constructor);(case qa|qp=>rfl))|((with_reducible refine' pa HM ?qw rfl ?qx _ ?qy ?qm ?qa ?_);(case qw|qx|qy=>rfl);(case qm=>repeat constructor);(case qa=>rfl);clear HM;intro _ HM)|((with_reducible refine' bz HM ?qw rfl ?qa ?qc ?_);(case qw|qa|qc=>rfl);clear HM;intro _ _ HM))
  rw [rounds_succ]
  go_wp2_with (first|go_skip|((with_reducible refine' lc HM ?qw rfl ?qx ?qm ?qa ?qv ?_);(case qw|qx|qa=>rfl);(case qm=>repeat constructor);(case qv=>rfl))|((with_reducible refine' pl HM ?qw rfl ?qx ?qm (vs:=[.string ⟨#[115, 116, 97, 116]⟩, .int .i64 6, .bool true, .bool false, .bool false, .bool false, .bool true]) ?qa ?qp ?_);(case qw|qx=>rfl);(case qm=>repeat constructor);(case qa|qp=>rfl))|((with_reducible refine' pa HM ?qw rfl ?qx _ ?qy ?qm ?qa ?_);(case qw|qx|qy=>rfl);(case qm=>repeat constructor);(case qa=>rfl);clear HM;intro _ HM)|((with_reducible refine' bz HM ?qw rfl ?qa ?qc ?_);(case qw|qa|qc=>rfl);clear HM;intro _ _ HM)|(go_at_call 15;refine (HRD.out _ (HG.out.below HM.out.below)).mono ?_;rintro e _ ⟨rfl, hb⟩;have hM:=HM.out.call hb;clear hb;clear HM;have HM:=Aside0.mk hM;clear hM))
  refine bodyPost_ret (ret_ct (cs := [.int .i64 6, .int .i64 (n : Int), .int .i64 0, .int .i64 0, .string p, .slice none 0 0]) HM.out rfl rfl (by repeat (first | exact .head _ | refine .tail _ ?_)) (by exact agg24)) rfl ?_
  exact ⟨rfl, HM.out.below⟩
end Go.Proofs.YtimbefkiledbdaaGreatDoor.R
