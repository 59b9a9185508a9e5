/- The steps of Mem under short names, for any type that the laws' boxes have: arms of walks stay short. -/
import Derived.Test.YtimbefkiledbdaaGreatDoorRGen
import Derived.Test.YtimbefkiledbdaaGreatDoorEMemReg
namespace Go.Proofs.YtimbefkiledbdaaGreatDoor.R
open Go.RowKit Go.Proofs.YtimbefkiledbdaaGreatDoorW.PrintWords Go.Proofs.YtimbefkiledbdaaGreatDoorW.PrintLast Go.Proofs.YtimbefkiledbdaaGreatDoorW.PrintMore Go.Proofs.YtimbefkiledbdaaGreatDoor.Mem Go.Proofs.YtimbefkiledbdaaGreatDoor.XA
set_option linter.unusedVariables false
set_option linter.unusedSimpArgs false

/-- A box among others; a box written. -/
inductive Has (g : Nat) (cs : List Value) (t : TypeId) : List Bx → Prop
  | h {B : List Bx} : Has g cs t ((g, cs, t) :: B)
  | t {B : List Bx} {x : Bx} : Has g cs t B → Has g cs t (x :: B)
inductive Upd (g : Nat) (cs : List Value) (t : TypeId) (vs : List Value) : List Bx → List Bx → Prop
  | h {B : List Bx} : Upd g cs t vs ((g, cs, t) :: B) ((g, vs, t) :: B)
  | t {B B' : List Bx} {x : Bx} : Upd g cs t vs B B' → Upd g cs t vs (x :: B) (x :: B')
theorem Has.mem {g : Nat} {cs : List Value} {t : TypeId} {B : List Bx} (h : Has g cs t B) : (g, cs, t) ∈ B := by
  induction h with
  | h => exact .head _
  | t _ ih => exact .tail _ ih
theorem Upd.at {g : Nat} {cs vs : List Value} {t : TypeId} {B B' : List Bx} (h : Upd g cs t vs B B') : ∃ n : Nat, B[n]? = some (g, cs, t) ∧ B' = B.set n (g, vs, t) := by
  induction h with
  | h => exact ⟨0, rfl, rfl⟩
  | t _ ih =>
    obtain ⟨n, h1, h2⟩ := ih
    exact ⟨n + 1, h1, by rw [h2]; rfl⟩
/-- Types of one cell; structs with their sizes; their noughts. -/
def cellB (t : TypeId) : Bool := t == 2 || t == 3 || t == 4 || t == 5 || t == 9 || t == 20 || t == 22 || t == 25 || t == 30 || t == 33 || t == 43 || t == 48 || t == 61 || t == 63 || t == 74
def sizN (t : TypeId) : Nat := if t = 24 then 6 else if t = 46 then 7 else if t = 62 then 2 else if t = 50 then 2 else if t = 71 then 3 else 0
def zerL (t : TypeId) : List Value := if t = 24 then [.int .i64 0, .int .i64 0, .int .i64 0, .int .i64 0, .string (⟨#[]⟩ : ByteArray), .slice none 0 0] else if t = 46 then [.string (⟨#[]⟩ : ByteArray), .int .i64 0, .bool false, .bool false, .bool false, .bool false, .bool false] else if t = 62 then [.bool false, .pointer none] else if t = 50 then [.int .i64 0, .nilIface] else if t = 71 then [.pointer none, .pointer none, .int .u64 0] else []
theorem nag (t : TypeId) (h : t ∈ [2, 3, 4, 5, 9, 20, 22, 25, 30, 33, 43, 48, 61, 63, 74]) : aggB Tryz.prog t = false := by
  simp only [List.mem_cons, List.not_mem_nil, or_false] at h
  rcases h with rfl | rfl | rfl | rfl | rfl | rfl | rfl | rfl | rfl | rfl | rfl | rfl | rfl | rfl | rfl <;> kernel_rfl
theorem sz1 (t : TypeId) (h : t ∈ [2, 3, 4, 5, 9, 20, 22, 25, 30, 33, 43, 48, 61, 63, 74]) : (Tryz.prog.info? t).map (·.size) = some 1 := by
  simp only [List.mem_cons, List.not_mem_nil, or_false] at h
  rcases h with rfl | rfl | rfl | rfl | rfl | rfl | rfl | rfl | rfl | rfl | rfl | rfl | rfl | rfl | rfl <;> kernel_rfl
theorem agg24 : aggN Tryz.prog 24 6 = true := by kernel_rfl
theorem size24 : (Tryz.prog.info? 24).map (·.size) = some 6 := by kernel_rfl
theorem agg46 : aggN Tryz.prog 46 7 = true := by kernel_rfl
theorem size46 : (Tryz.prog.info? 46).map (·.size) = some 7 := by kernel_rfl
theorem agg62 : aggN Tryz.prog 62 2 = true := by kernel_rfl
theorem size62 : (Tryz.prog.info? 62).map (·.size) = some 2 := by kernel_rfl
theorem agg50 : aggN Tryz.prog 50 2 = true := by kernel_rfl
theorem size50 : (Tryz.prog.info? 50).map (·.size) = some 2 := by kernel_rfl
theorem agg71 : aggN Tryz.prog 71 3 = true := by kernel_rfl
theorem size71 : (Tryz.prog.info? 71).map (·.size) = some 3 := by kernel_rfl
theorem cell_of {t : TypeId} (h : cellB t = true) : aggB Tryz.prog t = false ∧ (Tryz.prog.info? t).map (·.size) = some 1 := by
  have hm : t ∈ [2, 3, 4, 5, 9, 20, 22, 25, 30, 33, 43, 48, 61, 63, 74] := by
    unfold cellB at h
    simp only [Bool.or_eq_true, beq_iff_eq, or_assoc] at h
    simp only [List.mem_cons, List.not_mem_nil, or_false]
    exact h
  exact ⟨nag t hm, sz1 t hm⟩
theorem siz_of {t : TypeId} {n : Nat} (h : sizN t = n) (h0 : n ≠ 0) : aggN Tryz.prog t n = true ∧ (Tryz.prog.info? t).map (·.size) = some n ∧ (Tryz.prog.info? t).map (·.zero) = some (some (.agg (zerL t).toArray)) := by
  subst h
  unfold sizN zerL at *
  repeat' split at h0
  all_goals first | (exact absurd rfl h0) | skip
  all_goals (subst_vars; simp only [if_true]; refine ⟨by kernel_rfl, by kernel_rfl, by kernel_rfl⟩)
variable {w0 W W' W1 : World} {P : Nat → Prop} {B B' : List Bx} {S S' : World → Prop} {g : Nat} {cs cs' : List Value} {t : TypeId}
section
variable {ops : Array Oper} {rest : List Oper} {o : Oper} {a : Act} {Q : Exit → Act → World → Prop} {x y : Operand} {ty : TypeId} {i n : Nat} {v : Value}
/-- A cell read. -/
theorem lc (HM : Aside0 (Mem w0 P W B S)) (hw : Region.wanted o (yielded ops a.tmps) = true) (ho : o.op = .load ty x) (hx : a.eval x = .pointer (some ⟨g, i, none⟩)) (hm : Has g cs t B) (ha : cellB ty = true) (hv : cs[i]? = some v)
    (h : wpList Tryz.prog ops Q rest (a.put o.dst v) W) : wpList Tryz.prog ops Q (o :: rest) a W := load_cell HM.out hw ho hx hm.mem (cell_of ha).1 hv h
/-- A struct read: a whole box; a part of one. -/
theorem la (HM : Aside0 (Mem w0 P W B S)) (hw : Region.wanted o (yielded ops a.tmps) = true) (ho : o.op = .load ty x) (hx : a.eval x = .pointer (some ⟨g, 0, none⟩)) (hm : Has g cs t B) (ha : (sizN ty == cs.length && cs.length != 0) = true)
    (h : wpList Tryz.prog ops Q rest (a.put o.dst (.agg cs.toArray)) W) : wpList Tryz.prog ops Q (o :: rest) a W := by
  rw [Bool.and_eq_true, beq_iff_eq, bne_iff_ne] at ha
  exact load_all HM.out hw ho hx hm.mem (siz_of ha.1 ha.2).1 rfl h
theorem pl {vs : List Value} (HM : Aside0 (Mem w0 P W B S)) (hw : Region.wanted o (yielded ops a.tmps) = true) (ho : o.op = .load ty x) (hx : a.eval x = .pointer (some ⟨g, i, none⟩)) (hm : Has g cs t B)
    (ha : (sizN ty == vs.length && vs.length != 0) = true) (hp : (cs.drop i).take vs.length = vs) (h : wpList Tryz.prog ops Q rest (a.put o.dst (.agg vs.toArray)) W) : wpList Tryz.prog ops Q (o :: rest) a W := by
  rw [Bool.and_eq_true, beq_iff_eq, bne_iff_ne] at ha
  exact load_part HM.out hw ho hx hm.mem (siz_of ha.1 ha.2).1 vs hp rfl h
/-- A struct written over a whole box. -/
theorem pa (HM : Aside0 (Mem w0 P W B S)) (hw : Region.wanted o (yielded ops a.tmps) = true) (ho : o.op = .store ty x y) (hx : a.eval x = .pointer (some ⟨g, 0, none⟩)) (vs : List Value) (hy : a.eval y = .agg vs.toArray) (hm : Upd g cs t vs B B')
    (ha : (sizN ty == vs.length && (vs.length != 0 && (cs.length == vs.length && vs.all (fun u => u.oneCell')))) = true) (h : ∀ W1, Aside0 (Mem w0 P W1 B' S) → wpList Tryz.prog ops Q rest (a.put o.dst undef) W1) : wpList Tryz.prog ops Q (o :: rest) a W := by
  simp only [Bool.and_eq_true, beq_iff_eq, bne_iff_ne] at ha
  obtain ⟨n, h1, rfl⟩ := hm.at
  exact store_all HM.out hw ho hx h1 vs hy (siz_of ha.1 ha.2.1).2.1 (fun u hu => List.all_eq_true.1 ha.2.2.2 u hu) ha.2.2.1 (fun W1 hM => h W1 ⟨hM⟩)
/-- A cell written. -/
theorem pc (HM : Aside0 (Mem w0 P W B S)) (hw : Region.wanted o (yielded ops a.tmps) = true) (ho : o.op = .store ty x y) (hx : a.eval x = .pointer (some ⟨g, i, none⟩)) (ha : cellB ty = true) (hy : a.eval y = v) (hm : Upd g cs t (cs.set i v) B B') (h1 : v.cells = #[v] ∧ v.oneCell' = true) (hi : Nat.ble (i + 1) cs.length = true)
    (h : ∀ W1, Aside0 (Mem w0 P W1 B' S) → wpList Tryz.prog ops Q rest (a.put o.dst undef) W1) : wpList Tryz.prog ops Q (o :: rest) a W := by
  obtain ⟨n, h2, rfl⟩ := hm.at
  exact store_cell HM.out hw ho hx h2 hy (cell_of ha).2 h1 (Nat.le_of_ble_eq_true hi) (fun W1 hM => h W1 ⟨hM⟩)
/-- A new box of noughts; of a struct. -/
theorem bz (HM : Aside0 (Mem w0 P W B S)) (hw : Region.wanted o (yielded ops a.tmps) = true) (ho : o.op = .alloc ty) (ha : (sizN ty != 0) = true) (hc : zerL ty = cs) (h : ∀ g W1, Aside0 (Mem w0 P W1 ((g, cs, ty) :: B) S) → wpList Tryz.prog ops Q rest (a.put o.dst (.pointer (some ⟨g, 0, none⟩))) W1) :
    wpList Tryz.prog ops Q (o :: rest) a W := by
  subst hc
  exact box_zero HM.out hw ho (siz_of rfl (bne_iff_ne.1 ha)).2.2 (zerL ty) rfl (fun g W1 hM => h g W1 ⟨hM⟩)
theorem bn (HM : Aside0 (Mem w0 P W B S)) (hw : Region.wanted o (yielded ops a.tmps) = true) (ho : o.op = .box ty x) (cs : List Value) (hx : a.eval x = .agg cs.toArray)
    (h : ∀ g W1, Aside0 (Mem w0 P W1 ((g, cs, ty) :: B) S) → wpList Tryz.prog ops Q rest (a.put o.dst (.pointer (some ⟨g, 0, none⟩))) W1) : wpList Tryz.prog ops Q (o :: rest) a W :=
  box_new HM.out hw ho cs hx (fun g W1 hM => h g W1 ⟨hM⟩)
/-- A cell read in a region that draws its order: known by S. -/
theorem r_ld {md : Region.Mode} {ds : List Nat} {a' : Act} {SS : World → Prop} {l : Array Bool} {N : Option Tmp} {fuel : Nat} {p : Addr} {w : World} (l' : Array Bool) (hi : ops[i]? = some o) (hN : o.dst = N) (hc : takeB md ops ds l l' i = true) (hQ : ∀ c a w, Q (.panic c) (a.put o.dst v) w → Q (.panic c) a w) (hS : SS w) (hw : Region.wanted o (yielded ops a.tmps) = true)
    (ho : o.op = .load ty x) (hx : a.eval x = .pointer (some p)) (ha : cellB ty = true) (hv : ∀ w', SS w' → w'.cell? p = some v) (hp : a.put N v = a')
    (h : wpAnyLast Tryz.prog md ops Q SS ds fuel l' a' w) : wpAnyLast Tryz.prog md ops Q SS ds (fuel + 1) l a w := by
  refine take_ (S := SS) l' hi hN hc hQ (Or.inl ⟨hw, fun w' hh => ?_⟩) hS hp h
  unfold execOp
  simp only [ho, hx, Instr.loadAt, Instr.sureAddr, Sem.run_bind, Sem.run_pure, Result.andThen_ok, loadVar, run_agg_no (cell_of ha).1, run_load, hv w' hh, Bool.false_eq_true, if_false]
end
end Go.Proofs.YtimbefkiledbdaaGreatDoor.R
