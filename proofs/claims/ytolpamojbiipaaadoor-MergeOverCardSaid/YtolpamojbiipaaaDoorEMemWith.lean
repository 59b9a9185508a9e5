/- Things of the document (struct 73) in rows of the call's own: made empty, copied onto, one more, one turned. -/
import Derived.Test.YtolpamojbiipaaaDoorEMemGen
import Derived.Test.YtolpamojbiipaaaDoorEMemS
import Derived.Test.YtolpamojbiipaaaDoorEMemRel
import Derived.Test.YtolpamojbiipaaaDoorERefAdd
namespace Go.Proofs.YtolpamojbiipaaaDoor.XA
open Go.RowKit Go.Proofs.YtolpamojbiipaaaDoorW.PrintWords Go.Proofs.YtolpamojbiipaaaDoorW.PrintLast Go.Proofs.YtolpamojbiipaaaDoorW.PrintMore Go.Proofs.YtolpamojbiipaaaDoor.Mem Go.Proofs.YtolpamojbiipaaaDoor.Pure
set_option linter.unusedVariables false
set_option linter.unusedSimpArgs false

theorem sx73 : Sx k73 thL := ⟨fun _ => rfl, fun x u hu => by simp [thL] at hu; rcases hu with rfl | rfl | rfl | rfl | rfl <;> rfl, fun w x => k73_mk w x, fun h => k73_open h⟩
theorem inf73 : ∃ i0 : TypeInfo, Tryd.prog.info? 73 = some i0 ∧ i0.zero = some (.agg #[.string (⟨#[]⟩ : ByteArray), .int .i64 0, .int .i64 0, .bool false, .int .i64 0]) ∧ i0.size = 5 ∧ i0.bytes = 48 := by
  have h : (Tryd.prog.info? 73).map (fun i => (i.zero, i.size, i.bytes)) = some (some (.agg #[.string (⟨#[]⟩ : ByteArray), .int .i64 0, .int .i64 0, .bool false, .int .i64 0]), 5, 48) := by kernel_rfl
  exact info_parts h
theorem under62 : Tryd.prog.underlying 62 = some (.slice 73) := by kernel_rfl
theorem run_bs62 (w : World) : (Instr.buildSlice 62 0 #[]).run Tryd.prog w = .ok (.slice (some ⟨w.heap.size, 0, none⟩) 0 0) (w.alloc (.cells (#[] : Array Value) 73)) := by kernel_rfl
theorem run_bs73 (w : World) (x : S73) : (Instr.buildSlice 62 1 #[(0, .agg (thL x).toArray)]).run Tryd.prog w = .ok (.slice (some ⟨w.heap.size, 0, none⟩) 1 1) (w.alloc (.cells (thL x).toArray 73)) := by kernel_rfl
theorem own_cell73 {W : World} {g : Nat} {cs : List Value} {t : TypeId} (h : W.heap[g]? = some (.cells cs.toArray t (0, 0))) (j : Nat) : W.cell? ((⟨g, 0, none⟩ : Addr).add j) = cs[j]? := by
  have hadd : (⟨g, 0, none⟩ : Addr).add j = ⟨g, j, none⟩ := by unfold Addr.add; split <;> simp_all
  rw [hadd, blk_cell h j]
  simp
theorem append73 {w0 W : World} {P : Nat → Prop} {B X : List Bx} {S : World → Prop} {ty : TypeId} {v : Value} {xs ys : List S73} {A : Option Addr} {c : Nat} (HM : Mem w0 P W (B ++ X) S) (hO : OwnB 73 5 v xs.length (cellsX thL xs) X) (hF : From W A ys.length (cellsX thL ys)) (hn : xs.length + ys.length ≤ 100000) :
    ∃ v' X' W1, (Builtin.append_ #[62, 62] ty #[v, .slice A ys.length c]).run Tryd.prog W = .ok v' W1 ∧ OwnB 73 5 v' (xs ++ ys).length (cellsX thL (xs ++ ys)) X' ∧ Mem w0 P W1 (B ++ X') S := by
  obtain ⟨i0, h1, h2, h3, h4⟩ := inf73
  have := append_run (Pr := Tryd.prog) (ty := ty) (c := c) HM under62 h1 h2 h3 h4 rfl (by decide) hO hF (by rw [cellsX_len sx73]; rfl) (cellsX_one sx73 ys) (by simp only [maxLen]; omega) (by omega)
  rw [List.length_append, cellsX_app]
  exact this
section
variable {w0 W : World} {P : Nat → Prop} {B X : List Bx} {S : World → Prop} {ops : Array Oper} {rest : List Oper} {o : Oper} {a : Act} {Q : Exit → Act → World → Prop} {x y s : Operand} {v u : Value} {g c : Nat} {A : Option Addr}
theorem run_app {Pr : Program} {t : TypeId} {v' : Value} {W1 : World} (hg : o.guard = none) (ho : o.op = .call { callee := .builtin .append, args := #[x, y], argTypes := #[t, t] }) (hx : a.eval x = v) (hy : a.eval y = u)
    (hr : (Builtin.append_ #[t, t] o.type #[v, u]).run Pr W = .ok v' W1) (h : wpList Pr ops Q rest (a.put o.dst v') W1) : wpList Pr ops Q (o :: rest) a W := by
  refine wpList_plain hg fun K hK => ?_
  unfold Oper.wp execOp
  simp only [ho, resolve, invoke, builtin, Sem.run_bind, Sem.run_pure, Result.andThen_ok, List.map_toArray, List.map_cons, List.map_nil, hx, hy, hr]
  exact hK _ _ h
/-- A new empty row; a row of one. -/
theorem bs0L (HM : Aside0 (Mem w0 P W B S)) (hg : o.guard = none) (ho : o.op = .buildSlice 62 0 #[]) (h : ∀ g W1, Aside0 (Mem w0 P W1 ((g, [], 73) :: B) S) → wpList Tryd.prog ops Q rest (a.put o.dst (.slice (some ⟨g, 0, none⟩) 0 0)) W1) : wpList Tryd.prog ops Q (o :: rest) a W := by
  refine wpList_plain hg fun K hK => ?_
  unfold Oper.wp execOp
  simp only [ho, Sem.run_bind, Sem.run_pure, Result.andThen_ok, List.map_toArray, List.map_nil, run_bs62]
  exact hK _ _ (h _ _ ⟨HM.out.new rfl (blk_new W _) (below_alloc (Below.refl _ _) _)⟩)
theorem bs1L {z : S73} (HM : Aside0 (Mem w0 P W B S)) (hg : o.guard = none) (ho : o.op = .buildSlice 62 1 #[(0, x)]) (hx : a.eval x = .agg (thL z).toArray) (h : ∀ g W1, Aside0 (Mem w0 P W1 ((g, thL z, 73) :: B) S) → wpList Tryd.prog ops Q rest (a.put o.dst (.slice (some ⟨g, 0, none⟩) 1 1)) W1) : wpList Tryd.prog ops Q (o :: rest) a W := by
  refine wpList_plain hg fun K hK => ?_
  unfold Oper.wp execOp
  simp only [ho, Sem.run_bind, Sem.run_pure, Result.andThen_ok, List.map_toArray, List.map_cons, List.map_nil, hx, run_bs73]
  exact hK _ _ (h _ _ ⟨HM.out.new rfl (blk_new W _) (below_alloc (Below.refl _ _) _)⟩)
/-- A copy of a row that is known; one thing more. -/
theorem copy73 {ys : List S73} (HM : Aside0 (Mem w0 P W ((g, [], 73) :: B) S)) (hg : o.guard = none) (ho : o.op = .call { callee := .builtin .append, args := #[s, x], argTypes := #[62, 62] }) (hs : a.eval s = .slice (some ⟨g, 0, none⟩) 0 0) (hx : a.eval x = .slice A ys.length c) (hS : ∀ w, S w → Wr A ys w) (hn : ys.length ≤ 100000)
    (h : ∀ v' X' W1, Aside0 (OwnB 73 5 v' ys.length (cellsX thL ys) X') → Aside0 (Mem w0 P W1 (B ++ X') S) → wpList Tryd.prog ops Q rest (a.put o.dst v') W1) : wpList Tryd.prog ops Q (o :: rest) a W := by
  obtain ⟨v', X', W1, hr, hO, hM⟩ := append73 (ty := o.type) (xs := []) (ys := ys) (c := c) (HM.out.perm (List.perm_append_comm (l₁ := [_]))) (.inr ⟨g, 0, [], rfl, rfl, rfl, rfl, Nat.le_refl _, Nat.zero_le _⟩) (from_C sx73 (hS _ HM.out.now)) (by simp only [List.length_nil]; omega)
  exact run_app hg ho hs hx hr (h v' X' W1 ⟨hO⟩ ⟨hM⟩)
theorem add73 {xs : List S73} {z : S73} (B : List Bx) (HM : Aside0 (Mem w0 P W ((g, thL z, 73) :: (B ++ X)) S)) (hO : Aside0 (OwnB 73 5 v xs.length (cellsX thL xs) X)) (hg : o.guard = none) (ho : o.op = .call { callee := .builtin .append, args := #[s, x], argTypes := #[62, 62] }) (hs : a.eval s = v) (hx : a.eval x = .slice (some ⟨g, 0, none⟩) 1 1) (hn : xs.length ≤ 90000)
    (h : ∀ v' X' W1, Aside0 (OwnB 73 5 v' (xs ++ [z]).length (cellsX thL (xs ++ [z])) X') → Aside0 (Mem w0 P W1 ((g, thL z, 73) :: (B ++ X')) S) → wpList Tryd.prog ops Q rest (a.put o.dst v') W1) : wpList Tryd.prog ops Q (o :: rest) a W := by
  have hb := (HM.out.box (g, thL z, 73) List.mem_cons_self).1
  obtain ⟨v', X', W1, hr, hO', hM⟩ := append73 (ty := o.type) (ys := [z]) (c := 1) (B := (g, thL z, 73) :: B) HM.out hO.out (.inl ⟨⟨g, 0, none⟩, rfl, fun j u hj => (own_cell73 hb j).trans (by simpa [cellsX] using hj)⟩) (by simp only [List.length_cons, List.length_nil]; omega)
  exact run_app hg ho hs hx hr (h v' X' W1 ⟨hO'⟩ ⟨hM⟩)
end
/-- A part of a box written. -/
theorem ppw {w0 W : World} {P : Nat → Prop} {B B' : List Bx} {S : World → Prop} {g i : Nat} {cs vs : List Value} {t ty : TypeId} {ops : Array Oper} {rest : List Oper} {o : Oper} {a : Act} {Q : Exit → Act → World → Prop} {x y : Operand} (HM : Aside0 (Mem w0 P W B S)) (hw : Region.wanted o (yielded ops a.tmps) = true) (ho : o.op = .store ty x y) (hx : a.eval x = .pointer (some ⟨g, i, none⟩)) (hy : a.eval y = .agg vs.toArray) (hm : Upd g cs t (cs.take i ++ vs ++ cs.drop (i + vs.length)) B B')
    (ha : (sizN ty == vs.length && (vs.length != 0 && vs.all (fun u => u.oneCell'))) = true) (hi : i + vs.length ≤ cs.length) (h : ∀ W1, Aside0 (Mem w0 P W1 B' S) → wpList Tryd.prog ops Q rest (a.put o.dst undef) W1) : wpList Tryd.prog ops Q (o :: rest) a W := by
  simp only [Bool.and_eq_true, beq_iff_eq, bne_iff_ne] at ha
  obtain ⟨n, h1, rfl⟩ := hm.at
  exact store_part HM.out hw ho hx h1 vs hy (siz_of ha.1 ha.2.1).2.1 (fun u hu => List.all_eq_true.1 ha.2.2 u hu) hi (fun W1 hM => h W1 ⟨hM⟩)

end Go.Proofs.YtolpamojbiipaaaDoor.XA
