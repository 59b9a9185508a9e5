/- Regions that draw their order with operations under guards: what is skipped, what is wanted. -/
import Derived.Test.YtolpamojbiipaaaDoorEMemRel
namespace Go.Proofs.YtolpamojbiipaaaDoor.XA
open Go.RowKit Go.Proofs.YtolpamojbiipaaaDoorW.PrintWords Go.Proofs.YtolpamojbiipaaaDoorW.PrintLast Go.Proofs.YtolpamojbiipaaaDoorW.PrintMore Go.Proofs.YtolpamojbiipaaaDoor.Mem Go.Proofs.YtolpamojbiipaaaDoor.Pure
set_option linter.unusedVariables false
set_option linter.unusedSimpArgs false

section
variable {W : World} {ops : Array Oper} {o o' : Oper} {a : Act} {Q : Exit → Act → World → Prop} {x : Operand} {ty : TypeId} {v : Value} {K : Act → World → Prop}
theorem slot_get {N : Nat} (h : a.eval (.tmp N) = v) : ∀ hN : N < a.tmps.size, a.tmps[N]'hN = v := by
  intro hN
  have h2 : a.tmps.getD N undef = v := h
  rw [Array.getD_eq_getD_getElem?, Array.getElem?_eq_getElem hN] at h2
  exact h2
theorem wanted_at {j N : Nat} {want b : Bool} (hg : o.guard = some (j, want)) (hj : ops[j]? = some o') (hd : o'.dst = some N) (hx : a.eval (.tmp N) = .bool b) (hN : N < a.tmps.size) : Region.wanted o (yielded ops a.tmps) = (some b == some want) := by
  unfold Region.wanted
  rw [hg]
  show (yielded ops a.tmps j == some want) = _
  unfold yielded
  rw [hj]
  show ((match (o'.dst.bind (a.tmps[·]?)) with | some (.bool b) => some b | _ => none) == some want) = _
  rw [hd]
  show ((match a.tmps[N]? with | some (.bool b) => some b | _ => none) == some want) = _
  rw [Array.getElem?_eq_getElem hN, slot_get hx hN]
theorem k_skip (hw : Region.wanted o (yielded ops a.tmps) = false) (h : K (a.put o.dst undef) W) : if Region.wanted o (yielded ops a.tmps) = true then Oper.wp Tryd.prog o a W K Q else K (a.put o.dst undef) W := by
  rw [if_neg (by rw [hw]; decide)]
  exact h
theorem k_ld {p : Addr} (hw : Region.wanted o (yielded ops a.tmps) = true) (ho : o.op = .load ty x) (hx : a.eval x = .pointer (some p)) (ha : cellB ty = true) (hv : W.cell? p = some v) (h : K (a.put o.dst v) W) :
    if Region.wanted o (yielded ops a.tmps) = true then Oper.wp Tryd.prog o a W K Q else K (a.put o.dst undef) W := by
  refine k_pure _ hw ?_ h
  unfold execOp
  simp only [ho, hx, Instr.loadAt, Instr.sureAddr, Sem.run_bind, Sem.run_pure, Result.andThen_ok, loadVar, run_agg_no (cell_of ha).1, run_load, hv, Bool.false_eq_true, if_false]
end
end Go.Proofs.YtolpamojbiipaaaDoor.XA
