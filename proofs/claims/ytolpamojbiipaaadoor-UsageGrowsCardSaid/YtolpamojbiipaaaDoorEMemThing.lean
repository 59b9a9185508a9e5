/- Things (usage's law) in rows of the call's own; slices made of parts; an append in a region that draws its order. -/
import Derived.Test.YtolpamojbiipaaaDoorEMemGen
import Derived.Test.YtolpamojbiipaaaDoorEMemS
import Derived.Test.YtolpamojbiipaaaDoorEMemRel
import Derived.Test.YtolpamojbiipaaaDoorEMemOf
namespace Go.Proofs.YtolpamojbiipaaaDoor.XA
open Go.RowKit Go.Proofs.YtolpamojbiipaaaDoorW.PrintWords Go.Proofs.YtolpamojbiipaaaDoorW.PrintLast Go.Proofs.YtolpamojbiipaaaDoorW.PrintMore Go.Proofs.YtolpamojbiipaaaDoor.Mem Go.Proofs.YtolpamojbiipaaaDoor.Pure
set_option linter.unusedVariables false
set_option linter.unusedSimpArgs false

def th49 (x : S49) : List Value := [.string x.f0, .string x.f1, .int .i64 x.f2, .int .i64 x.f3]
theorem sx49 : Sx k49 th49 := ⟨fun _ => rfl, fun x u hu => by simp [th49] at hu; rcases hu with rfl | rfl | rfl | rfl <;> rfl, fun w x => k49_mk w x, fun h => k49_open h⟩
theorem inf49 : ∃ i0 : TypeInfo, Tryd.prog.info? 49 = some i0 ∧ i0.zero = some (.agg #[.string (⟨#[]⟩ : ByteArray), .string (⟨#[]⟩ : ByteArray), .int .i64 0, .int .i64 0]) ∧ i0.size = 4 ∧ i0.bytes = 48 := by
  have h : (Tryd.prog.info? 49).map (fun i => (i.zero, i.size, i.bytes)) = some (some (.agg #[.string (⟨#[]⟩ : ByteArray), .string (⟨#[]⟩ : ByteArray), .int .i64 0, .int .i64 0]), 4, 48) := by kernel_rfl
  exact info_parts h
theorem under32 : Tryd.prog.underlying 32 = some (.slice 49) := by kernel_rfl
theorem run_bs0 (w : World) : (Instr.buildSlice 32 0 #[]).run Tryd.prog w = .ok (.slice (some ⟨w.heap.size, 0, none⟩) 0 0) (w.alloc (.cells (#[] : Array Value) 49)) := by kernel_rfl
theorem run_bs1 (w : World) (x : S49) : (Instr.buildSlice 32 1 #[(0, .agg (th49 x).toArray)]).run Tryd.prog w = .ok (.slice (some ⟨w.heap.size, 0, none⟩) 1 1) (w.alloc (.cells (th49 x).toArray 49)) := by kernel_rfl
section
variable {w0 W : World} {P : Nat → Prop} {B X : List Bx} {S : World → Prop} {ops : Array Oper} {o : Oper} {a : Act} {Q : Exit → Act → World → Prop} {x y : Operand} {K : Act → World → Prop} {v u : Value}
theorem k_run {Pr : Program} {v : Value} {W1 : World} (hw : Region.wanted o (yielded ops a.tmps) = true) (hr : (execOp a.eval o).run Pr W = .ok (.value v) W1) (h : K (a.put o.dst v) W1) :
    if Region.wanted o (yielded ops a.tmps) = true then Oper.wp Pr o a W K Q else K (a.put o.dst undef) W := by
  rw [if_pos hw]
  unfold Oper.wp
  rw [hr]
  exact h
theorem k_bs0 (HM : Mem w0 P W B S) (hw : Region.wanted o (yielded ops a.tmps) = true) (ho : o.op = .buildSlice 32 0 #[]) (h : ∀ g W1, Mem w0 P W1 ((g, [], 49) :: B) S → K (a.put o.dst (.slice (some ⟨g, 0, none⟩) 0 0)) W1) :
    if Region.wanted o (yielded ops a.tmps) = true then Oper.wp Tryd.prog o a W K Q else K (a.put o.dst undef) W := by
  refine k_run hw ?_ (h _ _ (HM.new rfl (blk_new W _) (below_alloc (Below.refl _ _) _)))
  unfold execOp
  simp only [ho, Sem.run_bind, Sem.run_pure, Result.andThen_ok, List.map_toArray, List.map_nil, run_bs0]
theorem k_bs1 {z : S49} (HM : Mem w0 P W B S) (hw : Region.wanted o (yielded ops a.tmps) = true) (ho : o.op = .buildSlice 32 1 #[(0, x)]) (hx : a.eval x = .agg (th49 z).toArray) (h : ∀ g W1, Mem w0 P W1 ((g, th49 z, 49) :: B) S → K (a.put o.dst (.slice (some ⟨g, 0, none⟩) 1 1)) W1) :
    if Region.wanted o (yielded ops a.tmps) = true then Oper.wp Tryd.prog o a W K Q else K (a.put o.dst undef) W := by
  refine k_run hw ?_ (h _ _ (HM.new rfl (blk_new W _) (below_alloc (Below.refl _ _) _)))
  unfold execOp
  simp only [ho, Sem.run_bind, Sem.run_pure, Result.andThen_ok, List.map_toArray, List.map_cons, List.map_nil, hx, run_bs1]
theorem k_app {Pr : Program} {t : TypeId} {v' : Value} {W1 : World} (hw : Region.wanted o (yielded ops a.tmps) = true) (ho : o.op = .call { callee := .builtin .append, args := #[x, y], argTypes := #[t, t] }) (hx : a.eval x = v) (hy : a.eval y = u)
    (hr : (Builtin.append_ #[t, t] o.type #[v, u]).run Pr W = .ok v' W1) (h : K (a.put o.dst v') W1) :
    if Region.wanted o (yielded ops a.tmps) = true then Oper.wp Pr o a W K Q else K (a.put o.dst undef) W := by
  refine k_run hw ?_ h
  unfold execOp
  simp only [ho, resolve, invoke, builtin, Sem.run_bind, Sem.run_pure, Result.andThen_ok, List.map_toArray, List.map_cons, List.map_nil, hx, hy, hr]
end
theorem append49 {w0 W : World} {P : Nat → Prop} {B X : List Bx} {S : World → Prop} {ty : TypeId} {v : Value} {xs ys : List S49} {A : Option Addr} {c : Nat} (HM : Mem w0 P W (B ++ X) S) (hO : OwnB 49 4 v xs.length (cellsX th49 xs) X) (hF : From W A ys.length (cellsX th49 ys)) (hn : xs.length + ys.length ≤ 100000) :
    ∃ v' X' W1, (Builtin.append_ #[32, 32] ty #[v, .slice A ys.length c]).run Tryd.prog W = .ok v' W1 ∧ OwnB 49 4 v' (xs ++ ys).length (cellsX th49 (xs ++ ys)) X' ∧ Mem w0 P W1 (B ++ X') S := by
  obtain ⟨i0, h1, h2, h3, h4⟩ := inf49
  have := append_run (Pr := Tryd.prog) (ty := ty) (c := c) HM under32 h1 h2 h3 h4 rfl (by decide) hO hF (by rw [cellsX_len sx49]; rfl) (cellsX_one sx49 ys) (by simp only [maxLen]; omega) (by omega)
  rw [List.length_append, cellsX_app]
  exact this
theorem own_cell {W : World} {g : Nat} {cs : List Value} {t : TypeId} (h : W.heap[g]? = some (.cells cs.toArray t (0, 0))) (j : Nat) : W.cell? ((⟨g, 0, none⟩ : Addr).add j) = cs[j]? := by
  have hadd : (⟨g, 0, none⟩ : Addr).add j = ⟨g, j, none⟩ := by unfold Addr.add; split <;> simp_all
  rw [hadd, blk_cell h j]
  simp
theorem Has.left {g : Nat} {cs : List Value} {t : TypeId} {B : List Bx} (X : List Bx) (h : Has g cs t B) : Has g cs t (B ++ X) := by
  induction h with
  | h => exact .h
  | t _ ih => exact .t ih
theorem perm_mid2 {α : Type} (a : α) (l1 l2 r : List α) : (a :: (l1 ++ (l2 ++ r))).Perm (l1 ++ (l2 ++ a :: r)) := by
  rw [← List.append_assoc, ← List.append_assoc]
  exact List.perm_middle.symm
end Go.Proofs.YtolpamojbiipaaaDoor.XA
