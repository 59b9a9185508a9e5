/- Rows of the call's own of any kind: one thing more (a slice made of parts, an append); rows of texts. -/
import Derived.Test.YtimbefkiledbdaaGreatDoorRSteps
import Derived.Test.YtimbefkiledbdaaGreatDoorRGlob
namespace Go.Proofs.YtimbefkiledbdaaGreatDoor.R
open Go.RowKit Go.Proofs.YtimbefkiledbdaaGreatDoorW.PrintWords Go.Proofs.YtimbefkiledbdaaGreatDoorW.PrintLast Go.Proofs.YtimbefkiledbdaaGreatDoorW.PrintMore Go.Proofs.YtimbefkiledbdaaGreatDoor.Mem Go.Proofs.YtimbefkiledbdaaGreatDoor.Pure Go.Proofs.YtimbefkiledbdaaGreatDoor.XA
set_option linter.unusedVariables false
set_option linter.unusedSimpArgs false

section
variable {w0 W : World} {P : Nat → Prop} {B X : List Bx} {S : World → Prop} {ops : Array Oper} {rest : List Oper} {o : Oper} {a : Act} {Q : Exit → Act → World → Prop} {x y s : Operand} {v u val : Value} {g c n : Nat} {A : Option Addr} {t e : TypeId} {size bytes : Nat} {z : Value} {cs xs : List Value}
/-- A new row of one. -/
theorem bsG (HM : Aside0 (Mem w0 P W B S)) (hg : o.guard = none) (ho : o.op = .buildSlice t 1 #[(0, x)]) (hx : a.eval x = val) (hr : ∀ w, (Instr.buildSlice t 1 #[(0, val)]).run Tryz.prog w = .ok (.slice (some ⟨w.heap.size, 0, none⟩) 1 1) (w.alloc (.cells cs.toArray e)))
    (h : ∀ g W1, Aside0 (Mem w0 P W1 ((g, cs, e) :: B) S) → wpList Tryz.prog ops Q rest (a.put o.dst (.slice (some ⟨g, 0, none⟩) 1 1)) W1) : wpList Tryz.prog ops Q (o :: rest) a W := by
  refine wpList_plain hg fun K hK => ?_
  unfold Oper.wp execOp
  simp only [ho, Sem.run_bind, Sem.run_pure, Result.andThen_ok, List.map_toArray, List.map_cons, List.map_nil, hx, hr]
  exact hK _ _ (h _ _ ⟨HM.out.new rfl (blk_new W _) (below_alloc (Below.refl _ _) _)⟩)
/-- One thing more. -/
theorem addG (hu : Tryz.prog.underlying t = some (.slice e)) (hi : ∃ i0 : TypeInfo, Tryz.prog.info? e = some i0 ∧ i0.zero = some z ∧ i0.size = size ∧ i0.bytes = bytes) (hzs : z.cells.size = size) (hsz : 0 < size) (hby : bytes ≤ 200) (B : List Bx)
    (HM : Aside0 (Mem w0 P W ((g, cs, e) :: (B ++ X)) S)) (hO : Aside0 (OwnB e size v n xs X)) (hcs : cs.length = size) (h1 : ∀ u ∈ cs, u.oneCell' = true) (hg : o.guard = none) (ho : o.op = .call { callee := .builtin .append, args := #[s, x], argTypes := #[t, t] }) (hs : a.eval s = v) (hx : a.eval x = .slice (some ⟨g, 0, none⟩) 1 1) (hn : n ≤ 900000)
    (h : ∀ v' X' W1, Aside0 (OwnB e size v' (n + 1) (xs ++ cs) X') → Aside0 (Mem w0 P W1 ((g, cs, e) :: (B ++ X')) S) → wpList Tryz.prog ops Q rest (a.put o.dst v') W1) : wpList Tryz.prog ops Q (o :: rest) a W := by
  have hb := (HM.out.box (g, cs, e) List.mem_cons_self).1
  obtain ⟨i0, i1, i2, i3, i4⟩ := hi
  have hcell : ∀ j u, cs[j]? = some u → W.cell? ((⟨g, 0, none⟩ : Addr).add j) = some u := fun j u hj => by
    have hadd : (⟨g, 0, none⟩ : Addr).add j = ⟨g, j, none⟩ := by unfold Addr.add; split <;> simp_all
    rw [hadd, blk_cell hb j]
    simpa using hj
  have hbb : (n + 1) * bytes ≤ 140737488355328 := Nat.le_trans (Nat.mul_le_mul_left _ hby) (by omega)
  obtain ⟨v', X', W1, hr, hO', hM⟩ := append_run (Pr := Tryz.prog) (ty := o.type) (c := 1) (m := 1) (news := cs) (B := (g, cs, e) :: B) HM.out hu i1 i2 i3 i4 hzs hsz hO.out (.inl ⟨⟨g, 0, none⟩, rfl, hcell⟩) (by rw [hcs, Nat.one_mul]) h1 (by simp only [maxLen]; omega) hbb
  refine wpList_plain hg fun K hK => ?_
  unfold Oper.wp execOp
  simp only [ho, resolve, invoke, builtin, Sem.run_bind, Sem.run_pure, Result.andThen_ok, List.map_toArray, List.map_cons, List.map_nil, hs, hx, hr]
  exact hK _ _ (h v' X' W1 ⟨hO'⟩ ⟨hM⟩)
end
theorem under33 : Tryz.prog.underlying 33 = some (.slice 9) := by kernel_rfl
theorem inf9 : ∃ i0 : TypeInfo, Tryz.prog.info? 9 = some i0 ∧ i0.zero = some (.string (⟨#[]⟩ : ByteArray)) ∧ i0.size = 1 ∧ i0.bytes = 16 := by
  have h : (Tryz.prog.info? 9).map (fun i => (i.zero, i.size, i.bytes)) = some (some (.string (⟨#[]⟩ : ByteArray)), 1, 16) := by kernel_rfl
  exact info_parts h
theorem run_bs9 (w : World) (s : ByteArray) : (Instr.buildSlice 33 1 #[(0, .string s)]).run Tryz.prog w = .ok (.slice (some ⟨w.heap.size, 0, none⟩) 1 1) (w.alloc (.cells ([.string s] : List Value).toArray 9)) := by kernel_rfl
def st9 (s : ByteArray) : List Value := [.string s]
theorem sx9 : Sx Kd.string st9 := ⟨fun _ => rfl, fun x u hu => by simp [st9] at hu; subst hu; rfl, fun w x => rfl, fun h => h⟩
end Go.Proofs.YtimbefkiledbdaaGreatDoor.R
