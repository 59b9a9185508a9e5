/- The steps of Mem under short names, for any type that the laws' boxes have: arms of walks stay short. -/
import Derived.Test.YtnpdgmgabkoeiaaDoorRGen
import Derived.Test.YtnpdgmgabkoeiaaDoorEMemReg
namespace Go.Proofs.YtnpdgmgabkoeiaaDoor.R
open Go.RowKit Go.Proofs.YtnpdgmgabkoeiaaDoorW.PrintWords Go.Proofs.YtnpdgmgabkoeiaaDoorW.PrintLast Go.Proofs.YtnpdgmgabkoeiaaDoorW.PrintMore Go.Proofs.YtnpdgmgabkoeiaaDoor.Mem Go.Proofs.YtnpdgmgabkoeiaaDoor.XA
set_option linter.unusedVariables false
set_option linter.unusedSimpArgs false

/-- A box among others; a box written. -/
inductive Has (g : Nat) (cs : List Value) (t : TypeId) : List Bx → Prop
  | h {B : List Bx} : Has g cs t ((g, cs, t) :: B)
  | t {B : List Bx} {x : Bx} : Has g cs t B → Has g cs t (x :: B)
inductive Upd (g : Nat) (cs : List Value) (t : TypeId) (vs : List Value) : List Bx → List Bx → Prop
  | h {B : List Bx} : Upd g cs t vs ((g, cs, t) :: B) ((g, vs, t) :: B)
  | t {B B' : List Bx} {x : Bx} : Upd g cs t vs B B' → Upd g cs t vs (x :: B) (x :: B')
theorem Has.mem {g : Nat} {cs : List Value} {t : TypeId} {B : List Bx} (h : Has g cs t B) : (g, cs, t) ∈ B := by
  induction h with
  | h => exact .head _
  | t _ ih => exact .tail _ ih
theorem Upd.at {g : Nat} {cs vs : List Value} {t : TypeId} {B B' : List Bx} (h : Upd g cs t vs B B') : ∃ n : Nat, B[n]? = some (g, cs, t) ∧ B' = B.set n (g, vs, t) := by
  induction h with
  | h => exact ⟨0, rfl, rfl⟩
  | t _ ih =>
    obtain ⟨n, h1, h2⟩ := ih
    exact ⟨n + 1, h1, by rw [h2]; rfl⟩
/-- Types of one cell; structs with their sizes; their noughts. -/
def cellB (t : TypeId) : Bool := t == 2 || t == 3 || t == 4 || t == 5 || t == 9 || t == 22 || t == 24 || t == 25 || t == 30
def sizN (t : TypeId) : Nat := if t = 29 then 2 else 0
def zerL (t : TypeId) : List Value := if t = 29 then [.string (⟨#[]⟩ : ByteArray), .string (⟨#[]⟩ : ByteArray)] else []
theorem nag (t : TypeId) (h : t ∈ [2, 3, 4, 5, 9, 22, 24, 25, 30]) : aggB Tryd.prog t = false := by
  simp only [List.mem_cons, List.not_mem_nil, or_false] at h
  rcases h with rfl | rfl | rfl | rfl | rfl | rfl | rfl | rfl | rfl <;> kernel_rfl
theorem sz1 (t : TypeId) (h : t ∈ [2, 3, 4, 5, 9, 22, 24, 25, 30]) : (Tryd.prog.info? t).map (·.size) = some 1 := by
  simp only [List.mem_cons, List.not_mem_nil, or_false] at h
  rcases h with rfl | rfl | rfl | rfl | rfl | rfl | rfl | rfl | rfl <;> kernel_rfl
theorem agg29 : aggN Tryd.prog 29 2 = true := by kernel_rfl
theorem size29 : (Tryd.prog.info? 29).map (·.size) = some 2 := by kernel_rfl
theorem cell_of {t : TypeId} (h : cellB t = true) : aggB Tryd.prog t = false ∧ (Tryd.prog.info? t).map (·.size) = some 1 := by
  have hm : t ∈ [2, 3, 4, 5, 9, 22, 24, 25, 30] := by
    unfold cellB at h
    simp only [Bool.or_eq_true, beq_iff_eq, or_assoc] at h
    simp only [List.mem_cons, List.not_mem_nil, or_false]
    exact h
  exact ⟨nag t hm, sz1 t hm⟩
theorem siz_of {t : TypeId} {n : Nat} (h : sizN t = n) (h0 : n ≠ 0) : aggN Tryd.prog t n = true ∧ (Tryd.prog.info? t).map (·.size) = some n ∧ (Tryd.prog.info? t).map (·.zero) = some (some (.agg (zerL t).toArray)) := by
  subst h
  unfold sizN zerL at *
  repeat' split at h0
  all_goals first | (exact absurd rfl h0) | skip
  all_goals (subst_vars; simp only [if_true]; refine ⟨by kernel_rfl, by kernel_rfl, by kernel_rfl⟩)
variable {w0 W W' W1 : World} {P : Nat → Prop} {B B' : List Bx} {S S' : World → Prop} {g : Nat} {cs cs' : List Value} {t : TypeId}
section
variable {ops : Array Oper} {rest : List Oper} {o : Oper} {a : Act} {Q : Exit → Act → World → Prop} {x y : Operand} {ty : TypeId} {i n : Nat} {v : Value}
/-- A cell read. -/
theorem lc (HM : Aside0 (Mem w0 P W B S)) (hw : Region.wanted o (yielded ops a.tmps) = true) (ho : o.op = .load ty x) (hx : a.eval x = .pointer (some ⟨g, i, none⟩)) (hm : Has g cs t B) (ha : cellB ty = true) (hv : cs[i]? = some v)
    (h : wpList Tryd.prog ops Q rest (a.put o.dst v) W) : wpList Tryd.prog ops Q (o :: rest) a W := load_cell HM.out hw ho hx hm.mem (cell_of ha).1 hv h
/-- A struct read: a whole box; a part of one. -/
theorem la (HM : Aside0 (Mem w0 P W B S)) (hw : Region.wanted o (yielded ops a.tmps) = true) (ho : o.op = .load ty x) (hx : a.eval x = .pointer (some ⟨g, 0, none⟩)) (hm : Has g cs t B) (ha : (sizN ty == cs.length && cs.length != 0) = true)
    (h : wpList Tryd.prog ops Q rest (a.put o.dst (.agg cs.toArray)) W) : wpList Tryd.prog ops Q (o :: rest) a W := by
  rw [Bool.and_eq_true, beq_iff_eq, bne_iff_ne] at ha
  exact load_all HM.out hw ho hx hm.mem (siz_of ha.1 ha.2).1 rfl h
/-- A struct written over a whole box. -/
theorem pa (HM : Aside0 (Mem w0 P W B S)) (hw : Region.wanted o (yielded ops a.tmps) = true) (ho : o.op = .store ty x y) (hx : a.eval x = .pointer (some ⟨g, 0, none⟩)) (vs : List Value) (hy : a.eval y = .agg vs.toArray) (hm : Upd g cs t vs B B')
    (ha : (sizN ty == vs.length && (vs.length != 0 && (cs.length == vs.length && vs.all (fun u => u.oneCell')))) = true) (h : ∀ W1, Aside0 (Mem w0 P W1 B' S) → wpList Tryd.prog ops Q rest (a.put o.dst undef) W1) : wpList Tryd.prog ops Q (o :: rest) a W := by
  simp only [Bool.and_eq_true, beq_iff_eq, bne_iff_ne] at ha
  obtain ⟨n, h1, rfl⟩ := hm.at
  exact store_all HM.out hw ho hx h1 vs hy (siz_of ha.1 ha.2.1).2.1 (fun u hu => List.all_eq_true.1 ha.2.2.2 u hu) ha.2.2.1 (fun W1 hM => h W1 ⟨hM⟩)
/-- A cell written. -/
theorem pc (HM : Aside0 (Mem w0 P W B S)) (hw : Region.wanted o (yielded ops a.tmps) = true) (ho : o.op = .store ty x y) (hx : a.eval x = .pointer (some ⟨g, i, none⟩)) (ha : cellB ty = true) (hy : a.eval y = v) (hm : Upd g cs t (cs.set i v) B B') (h1 : v.cells = #[v] ∧ v.oneCell' = true) (hi : Nat.ble (i + 1) cs.length = true)
    (h : ∀ W1, Aside0 (Mem w0 P W1 B' S) → wpList Tryd.prog ops Q rest (a.put o.dst undef) W1) : wpList Tryd.prog ops Q (o :: rest) a W := by
  obtain ⟨n, h2, rfl⟩ := hm.at
  exact store_cell HM.out hw ho hx h2 hy (cell_of ha).2 h1 (Nat.le_of_ble_eq_true hi) (fun W1 hM => h W1 ⟨hM⟩)
/-- A new box of noughts; of a struct. -/
theorem bz (HM : Aside0 (Mem w0 P W B S)) (hw : Region.wanted o (yielded ops a.tmps) = true) (ho : o.op = .alloc ty) (ha : (sizN ty != 0) = true) (hc : zerL ty = cs) (h : ∀ g W1, Aside0 (Mem w0 P W1 ((g, cs, ty) :: B) S) → wpList Tryd.prog ops Q rest (a.put o.dst (.pointer (some ⟨g, 0, none⟩))) W1) :
    wpList Tryd.prog ops Q (o :: rest) a W := by
  subst hc
  exact box_zero HM.out hw ho (siz_of rfl (bne_iff_ne.1 ha)).2.2 (zerL ty) rfl (fun g W1 hM => h g W1 ⟨hM⟩)
theorem bn (HM : Aside0 (Mem w0 P W B S)) (hw : Region.wanted o (yielded ops a.tmps) = true) (ho : o.op = .box ty x) (cs : List Value) (hx : a.eval x = .agg cs.toArray)
    (h : ∀ g W1, Aside0 (Mem w0 P W1 ((g, cs, ty) :: B) S) → wpList Tryd.prog ops Q rest (a.put o.dst (.pointer (some ⟨g, 0, none⟩))) W1) : wpList Tryd.prog ops Q (o :: rest) a W :=
  box_new HM.out hw ho cs hx (fun g W1 hM => h g W1 ⟨hM⟩)
/-- A cell read in a region that draws its order: known by S. -/
theorem r_ld {md : Region.Mode} {ds : List Nat} {a' : Act} {SS : World → Prop} {l : Array Bool} {N : Option Tmp} {fuel : Nat} {p : Addr} {w : World} (l' : Array Bool) (hi : ops[i]? = some o) (hN : o.dst = N) (hc : takeB md ops ds l l' i = true) (hQ : ∀ c a w, Q (.panic c) (a.put o.dst v) w → Q (.panic c) a w) (hS : SS w) (hw : Region.wanted o (yielded ops a.tmps) = true)
    (ho : o.op = .load ty x) (hx : a.eval x = .pointer (some p)) (ha : cellB ty = true) (hv : ∀ w', SS w' → w'.cell? p = some v) (hp : a.put N v = a')
    (h : wpAnyLast Tryd.prog md ops Q SS ds fuel l' a' w) : wpAnyLast Tryd.prog md ops Q SS ds (fuel + 1) l a w := by
  refine take_ (S := SS) l' hi hN hc hQ (Or.inl ⟨hw, fun w' hh => ?_⟩) hS hp h
  unfold execOp
  simp only [ho, hx, Instr.loadAt, Instr.sureAddr, Sem.run_bind, Sem.run_pure, Result.andThen_ok, loadVar, run_agg_no (cell_of ha).1, run_load, hv w' hh, Bool.false_eq_true, if_false]
end
end Go.Proofs.YtnpdgmgabkoeiaaDoor.R
