/- usage.Usage.Plus, walked by hand over Mem. Printed by wip/tools/gen_plus.py. -/
import Derived.Test.YtolpamojbiipaaaDoorEMemS
import Derived.Test.YtolpamojbiipaaaDoorEUsageOf
namespace Go.Proofs.YtolpamojbiipaaaDoor.XA
open Go.RowKit Go.Proofs.YtolpamojbiipaaaDoorW.PrintWords Go.Proofs.YtolpamojbiipaaaDoorW.PrintLast Go.Proofs.YtolpamojbiipaaaDoorW.PrintMore Go.Proofs.YtolpamojbiipaaaDoor.Mem Go.Proofs.YtolpamojbiipaaaDoor.Pure
attribute [local go_sem] max2_I max_two
set_option linter.unusedVariables false
set_option linter.unusedSimpArgs false

set_option maxHeartbeats 4000000 in
set_option maxRecDepth 100000 in
theorem plus_M {w0 W : World} {P : Nat → Prop} {B : List Bx} {S : World → Prop} (hM : Mem w0 P W B S) (x1 x2 x3 x4 y1 y2 y3 y4 : Int) :
    Calls Tryd.prog 17 #[.agg #[.int .i64 x1, .int .i64 x2, .int .i64 x3, .int .i64 x4], .agg #[.int .i64 y1, .int .i64 y2, .int .i64 y3, .int .i64 y4]] W fun e w' => e = .returned (.agg #[.int .i64 (wrap64 (x1 + y1)), .int .i64 (wrap64 (x2 + y2)), .int .i64 (maxI x3 y3), .int .i64 (maxI x4 y4)]) ∧ Mem w0 P w' B S := by
  have HM := Aside0.mk hM
  clear hM
  go_enter Tryd.func17, Tryd.ntmps17
  go_wp2_with (first|go_skip|((with_reducible refine gate_dst (N := 2) rfl ?_);(with_reducible refine' bn HM ?qw rfl _ ?qx ?_);(case qw|qx=>rfl);clear HM;intro g2 _ HM)|((with_reducible refine gate_dst (N := 3) rfl ?_);(with_reducible refine' bn HM ?qw rfl _ ?qx ?_);(case qw|qx=>rfl);clear HM;intro g3 _ HM)|((with_reducible refine gate_dst (N := 4) rfl ?_);(with_reducible refine' bz HM ?qw rfl ?qa ?qc ?_);(case qw|qa|qc=>rfl);clear HM;intro g4 _ HM)|((with_reducible refine' lc HM ?qw rfl ?qx ?qm ?qa ?qv ?_);(case qw|qx|qa=>rfl);(case qm=>repeat constructor);(case qv=>rfl))|((with_reducible refine' pa HM ?qw rfl ?qx _ ?qy ?qm ?qa ?_);(case qw|qx|qy=>rfl);(case qm=>repeat constructor);(case qa=>rfl);clear HM;intro _ HM))
  refine bodyPost_ret (ret_c HM.out rfl rfl (by exact m0) (by exact agg23)) rfl ?_
  exact ⟨rfl, HM.out.drop.drop.drop⟩
end Go.Proofs.YtolpamojbiipaaaDoor.XA
