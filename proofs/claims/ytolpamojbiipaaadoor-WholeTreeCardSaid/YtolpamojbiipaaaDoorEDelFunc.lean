/- slices.IndexFunc and slices.DeleteFunc of rows, walked by hand over Mem, whatever the predicate. Printed by wip/tools/gen_cut.py. -/
import Derived.Test.YtolpamojbiipaaaDoorETreeSet
import Derived.Lib.SliceRun
namespace Go.Proofs.YtolpamojbiipaaaDoor.XA
open Go.RowKit Go.Proofs.YtolpamojbiipaaaDoorW.PrintWords Go.Proofs.YtolpamojbiipaaaDoorW.PrintLast Go.Proofs.YtolpamojbiipaaaDoorW.PrintMore Go.Proofs.YtolpamojbiipaaaDoor.Mem Go.Proofs.YtolpamojbiipaaaDoor.Pure
set_option linter.unusedVariables false
set_option linter.unusedSimpArgs false

/-- A part of a box read. -/
theorem pl {w0 W : World} {P : Nat → Prop} {B : List Bx} {S : World → Prop} {g i : Nat} {cs vs : List Value} {t ty : TypeId} {ops : Array Oper} {rest : List Oper} {o : Oper} {a : Act} {Q : Exit → Act → World → Prop} {x : Operand} (HM : Aside0 (Mem w0 P W B S)) (hw : Region.wanted o (yielded ops a.tmps) = true) (ho : o.op = .load ty x) (hx : a.eval x = .pointer (some ⟨g, i, none⟩)) (hm : Has g cs t B)
    (ha : (sizN ty == vs.length && vs.length != 0) = true) (hp : (cs.drop i).take vs.length = vs) (h : wpList Tryd.prog ops Q rest (a.put o.dst (.agg vs.toArray)) W) : wpList Tryd.prog ops Q (o :: rest) a W := by
  rw [Bool.and_eq_true, beq_iff_eq, bne_iff_ne] at ha
  exact load_part HM.out hw ho hx hm.mem (siz_of ha.1 ha.2).1 vs hp rfl h
def zerR (m : Nat) : List Value := (Builtin.zeroCells (rowL z44).toArray m).toList
theorem zerR_len (m : Nat) : (zerR m).length = m * 13 := by
  unfold zerR Builtin.zeroCells
  simp [rowL]
theorem zer_all : (List.range 13).all (fun k => ((rowL z44).toArray[k]!).oneCell') = true := by kernel_rfl
theorem zerR_one (m : Nat) : ∀ u ∈ zerR m, u.oneCell' = true := fun u hu => by
  unfold zerR Builtin.zeroCells at hu
  rw [Array.mem_toList_iff, Array.mem_map] at hu
  obtain ⟨i, _, rfl⟩ := hu
  exact List.all_eq_true.1 zer_all (i % 13) (List.mem_range.2 (Nat.mod_lt _ (by decide)))
theorem clr {w0 W : World} {P : Nat → Prop} {B B' : List Bx} {S : World → Prop} {g i m c : Nat} {cs : List Value} {ops : Array Oper} {rest : List Oper} {o : Oper} {a : Act} {Q : Exit → Act → World → Prop} {x : Operand} (HM : Aside0 (Mem w0 P W B S)) (hg : o.guard = none) (ho : o.op = .call { callee := .builtin .clear, args := #[x], argTypes := #[33] }) (hx : a.eval x = .slice (some ⟨g, i, none⟩) m c)
    (hm : Upd g cs 44 (cs.take i ++ zerR m ++ cs.drop (i + (zerR m).length)) B B') (hi : i + m * 13 ≤ cs.length ∧ 0 < m) (h : ∀ W1, Aside0 (Mem w0 P W1 B' S) → wpList Tryd.prog ops Q rest (a.put o.dst (.tuple #[])) W1) : wpList Tryd.prog ops Q (o :: rest) a W := by
  obtain ⟨n, h1, rfl⟩ := hm.at
  have hbx := (HM.out.box _ (List.mem_of_getElem? h1)).1
  have hst := run_storeCells_at (P := Tryd.prog) g i 44 (zerR m) 0 cs.toArray W hbx (by rw [zerR_len]; simpa using hi.1) (zerR_one m)
  simp only [Nat.add_zero] at hst
  have hu33 : Tryd.prog.underlying 33 = some (.slice 44) := by kernel_rfl
  have hz : ∀ w, (zeroValue 44).run Tryd.prog w = .ok (.agg (rowL z44).toArray) w := fun w => by kernel_rfl
  have hr : (Builtin.clear_ #[33] o.type #[.slice (some ⟨g, i, none⟩) m c]).run Tryd.prog W = .ok (.tuple #[]) (W.setRow g (cs.take i ++ zerR m ++ cs.drop (i + (zerR m).length)).toArray) := by
    obtain ⟨k, rfl⟩ : ∃ k, m = k + 1 := ⟨m - 1, by omega⟩
    have hz2 : (Builtin.zeroCells (Value.agg (rowL z44).toArray).cells (k + 1)).toList = zerR (k + 1) := rfl
    simp [Builtin.clear_, run_underlying hu33, hz, hz2, hst]
  refine wpList_plain hg fun K hK => ?_
  unfold Oper.wp execOp
  simp only [ho, resolve, invoke, builtin, Sem.run_bind, Sem.run_pure, Result.andThen_ok, List.map_toArray, List.map_cons, List.map_nil, hx, hr]
  exact hK _ _ (h _ ⟨HM.out.set h1 _⟩)
variable {w0 W : World} {P : Nat → Prop} {B X : List Bx} {S : World → Prop} {A : Option Addr} {c g : Nat} {lb : Array Value} {l : List S44} {pr : S44 → Bool}
set_option maxHeartbeats 8000000 in
set_option maxRecDepth 100000 in
theorem idx_M (hM : Mem w0 P W (X ++ B) S) (hO : OwnB 44 13 (.slice A l.length c) l.length (cellsL l) X) (hl : l.length ≤ 900000) (eg : ∀ args w, (callFunc g args).run Tryd.prog w = .ok (.enter g args) w) (hp : ∀ (W : World) (C : List Bx), Mem w0 P W (C ++ B) S → ∀ r ∈ l, Calls Tryd.prog g (#[.agg (rowL r).toArray] ++ lb) W fun e w' => e = .returned (.bool (pr r)) ∧ Mem w0 P w' (C ++ B) S) :
    Calls Tryd.prog 72 #[.slice A l.length c, .func (.func g) #[] lb] W fun e w' => ∃ z : Int, e = .returned (.int .i64 z) ∧ ((z = -1 ∧ ∀ r ∈ l, pr r = false) ∨ ∃ (i : Nat) (h : i < l.length), z = i ∧ pr l[i] = true ∧ ∀ (j : Nat) (hj : j < i), pr (l[j]'(by omega)) = false) ∧ Mem w0 P w' (X ++ B) S := by
  have HM := Aside0.mk hM
  have HO := Aside0.mk hO
  have HP := Aside0.mk hp
  have hlz0 : (l.length : Int) ≤ 900000 := by omega
  clear hM hO hp hl
  go_enter Tryd.func72, Tryd.ntmps72
  go_wp2_with (first|go_skip|((with_reducible refine' lc HM ?qw rfl ?qx ?qm ?qa ?qv ?_);(case qw|qx|qa=>rfl);(case qm=>repeat constructor);(case qv=>rfl))|((with_reducible refine' la HM ?qw rfl ?qx ?qm ?qa ?_);(case qw|qx=>rfl);(case qm=>repeat constructor);(case qa=>rfl))|((with_reducible refine' pa HM ?qw rfl ?qx _ ?qy ?qm ?qa ?_);(case qw|qx|qy=>rfl);(case qm=>repeat constructor);(case qa=>rfl);clear HM;intro _ HM)|((with_reducible refine' pc HM ?qw rfl ?qx ?qa ?qy ?qm ?qo ?qi ?_);(case qw|qx|qa=>rfl);(case qy=>first|exact (rfl:_=Value.int _ _)|exact (rfl:_=Value.slice _ _ _)|exact (rfl:_=Value.string _)|exact (rfl:_=Value.bool _));(case qm=>repeat constructor);(case qo=>exact ⟨rfl,rfl⟩);(case qi=>rfl);clear HM;intro _ HM;try simp only [List.set_cons_zero,List.set_cons_succ] at HM))
  go_loopw [8] (fun v8 wr => ∃ (i : Nat), v8 = .int .i64 i ∧ Aside0 (i ≤ l.length) ∧ Aside0 (∀ (j : Nat) (hj : j < i) (h : j < l.length), pr l[j] = false) ∧ Aside0 (Mem w0 P wr (X ++ B) S)) (fun v8 _ => l.length - (intOf v8).toNat)
  case atStart => exact ⟨0, rfl, ⟨Nat.zero_le _⟩, ⟨fun j hj => absurd hj (Nat.not_lt_zero _)⟩, HM⟩
  case round =>
    clear HM
    obtain ⟨i, rfl, HIX, HNO, HM⟩ := hrel
    have hib : (i : Int) ≤ 900000 := by have := HIX.out; omega
    by_cases hlt : i < l.length
    · have hlz : (i : Int) < (l.length : Int) := by omega
      obtain ⟨gA, sp, h1, h2, h3⟩ : ∃ gA sp, A = some ⟨gA, 0, none⟩ ∧ X = [(gA, cellsL l ++ sp, 44)] ∧ l.length ≤ c := by
        rcases HO.out with ⟨_, hn, _⟩ | ⟨gA, cap, sp, e, hX, hr⟩
        · omega
        · injection e with e1 e2 e3
          exact ⟨gA, sp, e1, hX, e3 ▸ hr.2.2.1⟩
      subst h1 h2
      clear h3
      have HPL := Aside0.mk (show ((cellsL l ++ sp).drop (i * 13)).take (rowL l[i]).length = rowL l[i] by
        have := cellsL_mid l i hlt
        have hle := cellsL_len l
        show ((cellsL l ++ sp).drop (i * 13)).take 13 = _
        rw [List.drop_append_of_le_length (by omega), List.take_append_of_le_length (by rw [List.length_drop]; omega), this]
        rfl)
      have HYM := Aside0.mk (List.getElem_mem hlt)
      obtain ⟨y, hy⟩ : ∃ y, l[i] = y := ⟨_, rfl⟩
      have HY := Aside0.mk hy
      rw [hy] at HPL HYM
      clear hy
      have HM2 := HM.out
      simp only [List.cons_append, List.nil_append] at HM2
      clear HM
      have HM := Aside0.mk HM2
      clear HM2
      cases hpy : pr y with
      | true =>
        go_wp2_with (first|go_skip|((with_reducible refine' pl HM ?qw rfl ?qx ?qm (vs:=rowL y) ?qa ?qp ?_);(case qw|qx=>rfl);(case qm=>repeat constructor);(case qa=>rfl);(case qp=>exact HPL.out))|(go_at_fn g; go_loud (refine (HP.out _ [(gA, cellsL l ++ sp, 44)] HM.out y HYM.out).mono ?_; rintro e _ ⟨rfl, hM⟩; rw [hpy]; simp only [List.cons_append, List.nil_append] at hM; clear HM;have HM:=Aside0.mk hM;clear hM))|((with_reducible refine' lc HM ?qw rfl ?qx ?qm ?qa ?qv ?_);(case qw|qx|qa=>rfl);(case qm=>repeat constructor);(case qv=>rfl))|((with_reducible refine' la HM ?qw rfl ?qx ?qm ?qa ?_);(case qw|qx=>rfl);(case qm=>repeat constructor);(case qa=>rfl))|((with_reducible refine' pa HM ?qw rfl ?qx _ ?qy ?qm ?qa ?_);(case qw|qx|qy=>rfl);(case qm=>repeat constructor);(case qa=>rfl);clear HM;intro _ HM)|((with_reducible refine' pc HM ?qw rfl ?qx ?qa ?qy ?qm ?qo ?qi ?_);(case qw|qx|qa=>rfl);(case qy=>first|exact (rfl:_=Value.int _ _)|exact (rfl:_=Value.slice _ _ _)|exact (rfl:_=Value.string _)|exact (rfl:_=Value.bool _));(case qm=>repeat constructor);(case qo=>exact ⟨rfl,rfl⟩);(case qi=>rfl);clear HM;intro _ HM;try simp only [List.set_cons_zero,List.set_cons_succ] at HM))
        go_ret
        exact ⟨i, rfl, .inr ⟨i, hlt, rfl, by rw [HY.out]; exact hpy, fun j hj => HNO.out j hj _⟩, HM.out⟩
      | false =>
        go_wp2_with (first|go_skip|((with_reducible refine' pl HM ?qw rfl ?qx ?qm (vs:=rowL y) ?qa ?qp ?_);(case qw|qx=>rfl);(case qm=>repeat constructor);(case qa=>rfl);(case qp=>exact HPL.out))|(go_at_fn g; go_loud (refine (HP.out _ [(gA, cellsL l ++ sp, 44)] HM.out y HYM.out).mono ?_; rintro e _ ⟨rfl, hM⟩; rw [hpy]; simp only [List.cons_append, List.nil_append] at hM; clear HM;have HM:=Aside0.mk hM;clear hM))|((with_reducible refine' lc HM ?qw rfl ?qx ?qm ?qa ?qv ?_);(case qw|qx|qa=>rfl);(case qm=>repeat constructor);(case qv=>rfl))|((with_reducible refine' la HM ?qw rfl ?qx ?qm ?qa ?_);(case qw|qx=>rfl);(case qm=>repeat constructor);(case qa=>rfl))|((with_reducible refine' pa HM ?qw rfl ?qx _ ?qy ?qm ?qa ?_);(case qw|qx|qy=>rfl);(case qm=>repeat constructor);(case qa=>rfl);clear HM;intro _ HM)|((with_reducible refine' pc HM ?qw rfl ?qx ?qa ?qy ?qm ?qo ?qi ?_);(case qw|qx|qa=>rfl);(case qy=>first|exact (rfl:_=Value.int _ _)|exact (rfl:_=Value.slice _ _ _)|exact (rfl:_=Value.string _)|exact (rfl:_=Value.bool _));(case qm=>repeat constructor);(case qo=>exact ⟨rfl,rfl⟩);(case qi=>rfl);clear HM;intro _ HM;try simp only [List.set_cons_zero,List.set_cons_succ] at HM))
        go_roundw
        case rel =>
          refine ⟨i + 1, by go_num, ⟨by omega⟩, ⟨fun j hj h => ?_⟩, HM⟩
          by_cases e : j = i
          · subst e; rw [HY.out]; exact hpy
          · exact HNO.out j (by omega) h
        case measure => simp [intOf]; omega
    · have hil : i = l.length := by have := HIX.out; omega
      have hlz : ¬ ((i : Int) < (l.length : Int)) := by omega
      go_wp2_with (first|go_skip|((with_reducible refine' lc HM ?qw rfl ?qx ?qm ?qa ?qv ?_);(case qw|qx|qa=>rfl);(case qm=>repeat constructor);(case qv=>rfl))|((with_reducible refine' la HM ?qw rfl ?qx ?qm ?qa ?_);(case qw|qx=>rfl);(case qm=>repeat constructor);(case qa=>rfl))|((with_reducible refine' pa HM ?qw rfl ?qx _ ?qy ?qm ?qa ?_);(case qw|qx|qy=>rfl);(case qm=>repeat constructor);(case qa=>rfl);clear HM;intro _ HM)|((with_reducible refine' pc HM ?qw rfl ?qx ?qa ?qy ?qm ?qo ?qi ?_);(case qw|qx|qa=>rfl);(case qy=>first|exact (rfl:_=Value.int _ _)|exact (rfl:_=Value.slice _ _ _)|exact (rfl:_=Value.string _)|exact (rfl:_=Value.bool _));(case qm=>repeat constructor);(case qo=>exact ⟨rfl,rfl⟩);(case qi=>rfl);clear HM;intro _ HM;try simp only [List.set_cons_zero,List.set_cons_succ] at HM))
      go_ret
      refine ⟨-1, rfl, .inl ⟨rfl, fun r hr => ?_⟩, HM.out⟩
      obtain ⟨j, hj, rfl⟩ := List.getElem_of_mem hr
      exact HNO.out j (by omega) hj
theorem keep_set (K l : List S44) (i : Nat) (y : S44) (hK : K.length = i) (hi : i < l.length) : (K ++ l.drop i).set i y = (K ++ [y]) ++ l.drop (i + 1) := by
  subst hK
  rw [List.drop_eq_getElem_cons hi, List.set_append_right _ _ (Nat.le_refl _), Nat.sub_self, List.set_cons_zero, List.append_assoc]
  rfl
theorem keep_at (K l : List S44) (i j : Nat) (hK : K.length = i) (hi : i ≤ j) (hj : j < l.length) (h : j < (K ++ l.drop i).length) : (K ++ l.drop i)[j] = l[j] := by
  subst hK
  rw [List.getElem_append_right (by omega), List.getElem_drop]
  congr 1
  omega
theorem keep_len (K l : List S44) (i : Nat) (hK : K.length = i) (hi : i ≤ l.length) : (K ++ l.drop i).length = l.length := by rw [List.length_append, List.length_drop]; omega
theorem filter_next (p : S44 → Bool) (l : List S44) (j : Nat) (hj : j < l.length) : (l.take (j + 1)).filter p = (l.take j).filter p ++ (if p l[j] = true then [l[j]] else []) := by
  rw [List.take_succ_eq_append_getElem hj, List.filter_append]
  congr 1
  cases h : p l[j] <;> simp [h]
theorem clear_cells (K D : List S44) (sp : List Value) (i m : Nat) (hK : K.length = i) (hD : D.length = m) : (cellsL (K ++ D) ++ sp).take (i * 13) ++ zerR m ++ (cellsL (K ++ D) ++ sp).drop (i * 13 + (zerR m).length) = cellsL K ++ (zerR m ++ sp) := by
  have h1 : i * 13 = (cellsL K).length := by rw [cellsL_len, hK]
  have h2 : m * 13 = (cellsL D).length := by rw [cellsL_len, hD]
  have e : cellsL (K ++ D) ++ sp = cellsL K ++ (cellsL D ++ sp) := by rw [cellsL_append, List.append_assoc]
  rw [e, zerR_len, ← List.drop_drop, h1, List.take_left, List.drop_left, h2, List.drop_left, List.append_assoc]
set_option maxHeartbeats 8000000 in
set_option maxRecDepth 100000 in
/-- DeleteFunc: what is kept, in the same row of the call's own. -/
theorem delf_M (hM : Mem w0 P W (X ++ B) S) (hO : OwnB 44 13 (.slice A l.length c) l.length (cellsL l) X) (hl : l.length ≤ 900000) (eg : ∀ args w, (callFunc g args).run Tryd.prog w = .ok (.enter g args) w) (hp : ∀ (W : World) (C : List Bx), Mem w0 P W (C ++ B) S → ∀ r ∈ l, Calls Tryd.prog g (#[.agg (rowL r).toArray] ++ lb) W fun e w' => e = .returned (.bool (pr r)) ∧ Mem w0 P w' (C ++ B) S) :
    Calls Tryd.prog 57 #[.slice A l.length c, .func (.func g) #[] lb] W fun e w' => ∃ A' c' X', e = .returned (.slice A' (l.filter (fun r => !pr r)).length c') ∧ OwnB 44 13 (.slice A' (l.filter (fun r => !pr r)).length c') (l.filter (fun r => !pr r)).length (cellsL (l.filter (fun r => !pr r))) X' ∧ Mem w0 P w' (X' ++ B) S := by
  have HM := Aside0.mk hM
  have HO := Aside0.mk hO
  have HP := Aside0.mk hp
  have HL := Aside0.mk hl
  have hlz0 : (l.length : Int) ≤ 900000 := by omega
  clear hM hO hp hl
  go_enter Tryd.func57, Tryd.ntmps57
  go_upto_region 2 with (first|go_skip|((with_reducible refine' lc HM ?qw rfl ?qx ?qm ?qa ?qv ?_);(case qw|qx|qa=>rfl);(case qm=>repeat constructor);(case qv=>rfl))|((with_reducible refine' la HM ?qw rfl ?qx ?qm ?qa ?_);(case qw|qx=>rfl);(case qm=>repeat constructor);(case qa=>rfl))|((with_reducible refine' pa HM ?qw rfl ?qx _ ?qy ?qm ?qa ?_);(case qw|qx|qy=>rfl);(case qm=>repeat constructor);(case qa=>rfl);clear HM;intro _ HM)|((with_reducible refine' pc HM ?qw rfl ?qx ?qa ?qy ?qm ?qo ?qi ?_);(case qw|qx|qa=>rfl);(case qy=>first|exact (rfl:_=Value.int _ _)|exact (rfl:_=Value.slice _ _ _)|exact (rfl:_=Value.string _)|exact (rfl:_=Value.bool _));(case qm=>repeat constructor);(case qo=>exact ⟨rfl,rfl⟩);(case qi=>rfl);clear HM;intro _ HM;try simp only [List.set_cons_zero,List.set_cons_succ] at HM)|(go_at_call 72; refine (idx_M HM.out HO.out HL.out eg HP.out).mono ?_; rintro e _ ⟨z, rfl, hz, hM⟩; have HZ := Aside0.mk hz; clear hz; clear HM;have HM:=Aside0.mk hM;clear hM))
  rcases HZ.out with ⟨rfl, hno⟩ | ⟨i0, hi0, rfl, hi1, hi2⟩
  · have hf : l.filter (fun r => !pr r) = l := List.filter_eq_self.2 (fun r hr => by rw [hno r hr]; rfl)
    have HF := Aside0.mk hf
    clear hno hf HZ
    go_wp2_with (first|go_skip|((with_reducible refine' lc HM ?qw rfl ?qx ?qm ?qa ?qv ?_);(case qw|qx|qa=>rfl);(case qm=>repeat constructor);(case qv=>rfl))|((with_reducible refine' la HM ?qw rfl ?qx ?qm ?qa ?_);(case qw|qx=>rfl);(case qm=>repeat constructor);(case qa=>rfl))|((with_reducible refine' pa HM ?qw rfl ?qx _ ?qy ?qm ?qa ?_);(case qw|qx|qy=>rfl);(case qm=>repeat constructor);(case qa=>rfl);clear HM;intro _ HM)|((with_reducible refine' pc HM ?qw rfl ?qx ?qa ?qy ?qm ?qo ?qi ?_);(case qw|qx|qa=>rfl);(case qy=>first|exact (rfl:_=Value.int _ _)|exact (rfl:_=Value.slice _ _ _)|exact (rfl:_=Value.string _)|exact (rfl:_=Value.bool _));(case qm=>repeat constructor);(case qo=>exact ⟨rfl,rfl⟩);(case qi=>rfl);clear HM;intro _ HM;try simp only [List.set_cons_zero,List.set_cons_succ] at HM))
    go_ret
    rw [HF.out]
    exact ⟨A, c, X, rfl, HO.out, HM.out⟩
  obtain ⟨gA, sp, h1, h2, h3, h4, h5⟩ : ∃ gA sp, A = some ⟨gA, 0, none⟩ ∧ X = [(gA, cellsL l ++ sp, 44)] ∧ l.length ≤ c ∧ c ≤ maxLen ∧ (cellsL l ++ sp).length = c * 13 := by
    rcases HO.out with ⟨_, hn, _⟩ | ⟨gA, cap, sp, e, hX, hr⟩
    · omega
    · injection e with e1 e2 e3
      exact ⟨gA, sp, e1, hX, e3 ▸ hr.2.2.1, e3 ▸ hr.2.2.2, e3 ▸ hr.2.1⟩
  subst h1 h2
  have k0 : ((i0 : Int) == -1) = false := beq_eq_false_iff_ne.2 (by omega)
  have hcb : ∀ i, i < l.length → ∀ W, (Instr.slice 33 (.slice (some ⟨gA, 0, none⟩) l.length c) (some (.int .i64 (i : Int))) none none).run Tryd.prog W = .ok (.slice (some ⟨gA, i * 13, none⟩) (l.length - i) (c - i)) W := fun i hi W => by
    rw [cut33 W _ l.length c i (by omega)]; simp only [sliced, if_neg (show ¬ c = i by omega), Option.map_some, Addr.add_lit, Nat.zero_add]
  have hhd : ∀ i, i < l.length → ∀ W, (Instr.slice 33 (.slice (some ⟨gA, 0, none⟩) l.length c) none (some (.int .i64 (i : Int))) none).run Tryd.prog W = .ok (.slice (some ⟨gA, 0, none⟩) i c) W := fun i hi W => head33 W _ l.length c i (by omega)
  have HCB := Aside0.mk hcb
  have HHD := Aside0.mk hhd
  have HC := Aside0.mk (show l.length ≤ c ∧ c ≤ maxLen ∧ (cellsL l ++ sp).length = c * 13 from ⟨h3, h4, h5⟩)
  have HK0 : Aside0 ((l.take (i0 + 1)).filter (fun r => !pr r) = l.take i0) := ⟨by
    rw [filter_next _ _ _ hi0, hi1]
    simp only [Bool.not_true, Bool.false_eq_true, if_false, List.append_nil]
    refine List.filter_eq_self.2 (fun r hr => ?_)
    obtain ⟨j, hj, rfl⟩ := List.getElem_of_mem hr
    rw [List.length_take] at hj
    rw [List.getElem_take, hi2 j (by omega)]; rfl⟩
  have hi3 : i0 + 1 ≤ l.length := hi0
  clear hi0 hi1 hi2 hcb hhd h3 h4 h5 HZ HO
  have HI3 := Aside0.mk hi3
  have hi4 : (i0 : Int) + 1 ≤ 900000 := by omega
  clear hi3
  have HM2 := HM.out
  simp only [List.cons_append, List.nil_append] at HM2
  clear HM
  have HM := Aside0.mk HM2
  clear HM2
  go_wp2_with (first|go_skip|((with_reducible refine' lc HM ?qw rfl ?qx ?qm ?qa ?qv ?_);(case qw|qx|qa=>rfl);(case qm=>repeat constructor);(case qv=>rfl))|((with_reducible refine' la HM ?qw rfl ?qx ?qm ?qa ?_);(case qw|qx=>rfl);(case qm=>repeat constructor);(case qa=>rfl))|((with_reducible refine' pa HM ?qw rfl ?qx _ ?qy ?qm ?qa ?_);(case qw|qx|qy=>rfl);(case qm=>repeat constructor);(case qa=>rfl);clear HM;intro _ HM)|((with_reducible refine' pc HM ?qw rfl ?qx ?qa ?qy ?qm ?qo ?qi ?_);(case qw|qx|qa=>rfl);(case qy=>first|exact (rfl:_=Value.int _ _)|exact (rfl:_=Value.slice _ _ _)|exact (rfl:_=Value.string _)|exact (rfl:_=Value.bool _));(case qm=>repeat constructor);(case qo=>exact ⟨rfl,rfl⟩);(case qi=>rfl);clear HM;intro _ HM;try simp only [List.set_cons_zero,List.set_cons_succ] at HM))
  go_loopw [5, 6] (fun v5 v6 wr => ∃ (i j : Nat) (K : List S44), v5 = .int .i64 i ∧ v6 = .int .i64 j ∧ Aside0 (i < j ∧ j ≤ l.length) ∧ Aside0 ((l.take j).filter (fun r => !pr r) = K ∧ K.length = i) ∧ Aside0 (Mem w0 P wr ((gA, cellsL (K ++ l.drop i) ++ sp, 44) :: B) S)) (fun _ v6 _ => l.length - (intOf v6).toNat)
  case atStart => exact ⟨i0, i0 + 1, l.take i0, rfl, by go_num, ⟨Nat.lt_succ_self _, HI3.out⟩, ⟨HK0.out, by have := HI3.out; rw [List.length_take]; omega⟩, by rw [List.take_append_drop]; exact HM⟩
  case round =>
    clear HM HK0
    obtain ⟨i, j, K, rfl, rfl, HIJ, HK, HM⟩ := hrel
    have hjb : (j : Int) ≤ 900000 := by have := HIJ.out; have := HL.out; omega
    have hib : (i : Int) ≤ 900000 := by have := HIJ.out; have := HL.out; omega
    by_cases hlt : j < l.length
    · have hlz : (j : Int) < (l.length : Int) := by omega
      have hiz : (i : Int) < (l.length : Int) := by have := HIJ.out; omega
      have hil : i < l.length := by omega
      have hLl := keep_len K l i HK.out.2 (by omega)
      have hLj := keep_at K l i j HK.out.2 (by have := HIJ.out; omega) hlt (by omega)
      have HPL := Aside0.mk (show ((cellsL (K ++ l.drop i) ++ sp).drop (j * 13)).take (rowL l[j]).length = rowL l[j] by
        have := cellsL_mid (K ++ l.drop i) j (by omega)
        have hle := cellsL_len (K ++ l.drop i)
        show ((cellsL (K ++ l.drop i) ++ sp).drop (j * 13)).take 13 = _
        rw [List.drop_append_of_le_length (by omega), List.take_append_of_le_length (by rw [List.length_drop]; omega), this, hLj]
        rfl)
      have HLN := Aside0.mk (show i * 13 + (rowL l[j]).length ≤ (cellsL (K ++ l.drop i) ++ sp).length by
        have hle := cellsL_len (K ++ l.drop i)
        show i * 13 + 13 ≤ _
        rw [List.length_append]; omega)
      have hst := cells_put (K ++ l.drop i) sp (rowL l[j]) i 0 l[j] (by omega) (Nat.le_refl 13) rfl
      rw [Nat.add_zero] at hst
      have HST := Aside0.mk hst
      clear hst
      have HKS := Aside0.mk (keep_set K l i l[j] HK.out.2 hil)
      have HFN := Aside0.mk (filter_next (fun r => !pr r) l j hlt)
      have HYM := Aside0.mk (List.getElem_mem hlt)
      generalize l[j] = y at HPL HLN HST HKS HFN HYM
      clear hLl hLj hil
      cases hpy : pr y with
      | true =>
        go_wp2_with (first|go_skip|((with_reducible refine' pl HM ?qw rfl ?qx ?qm (vs:=rowL y) ?qa ?qp ?_);(case qw|qx=>rfl);(case qm=>repeat constructor);(case qa=>rfl);(case qp=>exact HPL.out))|(go_at_fn g; go_loud (refine (HP.out _ [(g7, rowL y, 44), (gA, cellsL (K ++ l.drop i) ++ sp, 44)] HM.out y HYM.out).mono ?_; rintro e _ ⟨rfl, hM⟩; rw [hpy]; simp only [List.cons_append, List.nil_append] at hM; clear HM;have HM:=Aside0.mk hM;clear hM))|((with_reducible refine gate_dst (N := 7) rfl ?_);(with_reducible refine' bz HM ?qw rfl ?qa ?qc ?_);(case qw|qa|qc=>rfl);clear HM;intro g7 _ HM)|((with_reducible refine' lc HM ?qw rfl ?qx ?qm ?qa ?qv ?_);(case qw|qx|qa=>rfl);(case qm=>repeat constructor);(case qv=>rfl))|((with_reducible refine' la HM ?qw rfl ?qx ?qm ?qa ?_);(case qw|qx=>rfl);(case qm=>repeat constructor);(case qa=>rfl))|((with_reducible refine' pa HM ?qw rfl ?qx _ ?qy ?qm ?qa ?_);(case qw|qx|qy=>rfl);(case qm=>repeat constructor);(case qa=>rfl);clear HM;intro _ HM)|((with_reducible refine' pc HM ?qw rfl ?qx ?qa ?qy ?qm ?qo ?qi ?_);(case qw|qx|qa=>rfl);(case qy=>first|exact (rfl:_=Value.int _ _)|exact (rfl:_=Value.slice _ _ _)|exact (rfl:_=Value.string _)|exact (rfl:_=Value.bool _));(case qm=>repeat constructor);(case qo=>exact ⟨rfl,rfl⟩);(case qi=>rfl);clear HM;intro _ HM;try simp only [List.set_cons_zero,List.set_cons_succ] at HM))
        go_roundw
        case rel => exact ⟨i, j + 1, K, rfl, by go_num, ⟨by have := HIJ.out; omega⟩, ⟨by rw [HFN.out, hpy, HK.out.1]; simp, HK.out.2⟩, ⟨HM.out.drop⟩⟩
        case measure => simp [intOf]; omega
      | false =>
        go_wp2_with (first|go_skip|((with_reducible refine' pl HM ?qw rfl ?qx ?qm (vs:=rowL y) ?qa ?qp ?_);(case qw|qx=>rfl);(case qm=>repeat constructor);(case qa=>rfl);(case qp=>exact HPL.out))|(go_at_fn g; go_loud (refine (HP.out _ [(g7, rowL y, 44), (gA, cellsL (K ++ l.drop i) ++ sp, 44)] HM.out y HYM.out).mono ?_; rintro e _ ⟨rfl, hM⟩; rw [hpy]; simp only [List.cons_append, List.nil_append] at hM; clear HM;have HM:=Aside0.mk hM;clear hM))|((with_reducible refine' ppt HM ?qw rfl ?qx ?qy ?qm ?qa ?qi ?_);(case qw|qx|qy=>rfl);(case qm=>repeat constructor);(case qa=>rfl);(case qi=>exact HLN.out);clear HM;intro _ HM)|((with_reducible refine gate_dst (N := 7) rfl ?_);(with_reducible refine' bz HM ?qw rfl ?qa ?qc ?_);(case qw|qa|qc=>rfl);clear HM;intro g7 _ HM)|((with_reducible refine' lc HM ?qw rfl ?qx ?qm ?qa ?qv ?_);(case qw|qx|qa=>rfl);(case qm=>repeat constructor);(case qv=>rfl))|((with_reducible refine' la HM ?qw rfl ?qx ?qm ?qa ?_);(case qw|qx=>rfl);(case qm=>repeat constructor);(case qa=>rfl))|((with_reducible refine' pa HM ?qw rfl ?qx _ ?qy ?qm ?qa ?_);(case qw|qx|qy=>rfl);(case qm=>repeat constructor);(case qa=>rfl);clear HM;intro _ HM)|((with_reducible refine' pc HM ?qw rfl ?qx ?qa ?qy ?qm ?qo ?qi ?_);(case qw|qx|qa=>rfl);(case qy=>first|exact (rfl:_=Value.int _ _)|exact (rfl:_=Value.slice _ _ _)|exact (rfl:_=Value.string _)|exact (rfl:_=Value.bool _));(case qm=>repeat constructor);(case qo=>exact ⟨rfl,rfl⟩);(case qi=>rfl);clear HM;intro _ HM;try simp only [List.set_cons_zero,List.set_cons_succ] at HM))
        have HM2 := HM.out.drop
        rw [HST.out, HKS.out] at HM2
        go_roundw
        case rel => exact ⟨i + 1, j + 1, K ++ [y], by go_num, by go_num, ⟨by have := HIJ.out; omega⟩, ⟨by rw [HFN.out, hpy, HK.out.1]; simp, by rw [List.length_append, HK.out.2]; rfl⟩, ⟨HM2⟩⟩
        case measure => simp [intOf]; omega
    · have hjl : j = l.length := by have := HIJ.out; omega
      subst hjl
      have hlz : ¬ ((l.length : Int) < (l.length : Int)) := by omega
      have hil : i < l.length := HIJ.out.1
      have hcb := HCB.out i hil
      have hhd := HHD.out i hil
      have HLI := Aside0.mk (show i * 13 + (l.length - i) * 13 ≤ (cellsL (K ++ l.drop i) ++ sp).length ∧ 0 < l.length - i by
        have hle := cellsL_len (K ++ l.drop i)
        have hLl := keep_len K l i HK.out.2 (by omega)
        rw [List.length_append]; omega)
      have HCC := Aside0.mk (clear_cells K (l.drop i) sp i (l.length - i) HK.out.2 List.length_drop)
      have HF : Aside0 (l.filter (fun r => !pr r) = K) := ⟨by have := HK.out.1; rwa [List.take_length] at this⟩
      have hiz : (i : Int) < (l.length : Int) := by omega
      go_wp2_with (first|go_skip|((with_reducible refine gate_builtin (b:=.clear) rfl ?_);(with_reducible refine' clr HM rfl rfl ?qx ?qm ?qi ?_);(case qx=>rfl);(case qm=>repeat constructor);(case qi=>exact HLI.out);clear HM;intro _ HM)|((with_reducible refine' lc HM ?qw rfl ?qx ?qm ?qa ?qv ?_);(case qw|qx|qa=>rfl);(case qm=>repeat constructor);(case qv=>rfl))|((with_reducible refine' la HM ?qw rfl ?qx ?qm ?qa ?_);(case qw|qx=>rfl);(case qm=>repeat constructor);(case qa=>rfl))|((with_reducible refine' pa HM ?qw rfl ?qx _ ?qy ?qm ?qa ?_);(case qw|qx|qy=>rfl);(case qm=>repeat constructor);(case qa=>rfl);clear HM;intro _ HM)|((with_reducible refine' pc HM ?qw rfl ?qx ?qa ?qy ?qm ?qo ?qi ?_);(case qw|qx|qa=>rfl);(case qy=>first|exact (rfl:_=Value.int _ _)|exact (rfl:_=Value.slice _ _ _)|exact (rfl:_=Value.string _)|exact (rfl:_=Value.bool _));(case qm=>repeat constructor);(case qo=>exact ⟨rfl,rfl⟩);(case qi=>rfl);clear HM;intro _ HM;try simp only [List.set_cons_zero,List.set_cons_succ] at HM))
      go_ret
      have HM2 := HM.out
      rw [HCC.out] at HM2
      rw [HF.out, HK.out.2]
      refine ⟨_, c, rfl, [(gA, cellsL K ++ (zerR (l.length - i) ++ sp), 44)], .inr ⟨gA, c, _, rfl, rfl, by rw [cellsL_len, HK.out.2], ?_, by have := HC.out; omega, HC.out.2.1⟩, HM2⟩
      have hc := HC.out.2.2
      rw [List.length_append, cellsL_len] at hc
      rw [List.length_append, cellsL_len, HK.out.2, List.length_append, zerR_len]
      omega
end Go.Proofs.YtolpamojbiipaaaDoor.XA
