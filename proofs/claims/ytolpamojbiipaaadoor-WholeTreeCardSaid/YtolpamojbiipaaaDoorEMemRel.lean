/- Regions that draw their order with operations that float: one relation over what has been done (r_rel), one obligation an operation. -/
import Derived.Test.YtolpamojbiipaaaDoorEMemS
import Derived.Test.YtolpamojbiipaaaDoorEMemInv
namespace Go.Proofs.YtolpamojbiipaaaDoor.Mem
open Go.RowKit Go.Proofs.YtolpamojbiipaaaDoorW.PrintWords Go.Proofs.YtolpamojbiipaaaDoorW.PrintLast Go.Proofs.YtolpamojbiipaaaDoorW.PrintMore
set_option linter.unusedVariables false
set_option linter.unusedSimpArgs false

theorem r_rel {Pr : Program} {ops : Array Oper} {Q : Exit → Act → World → Prop} {T : Bool × List (List Nat × List Nat)} {n id : Nat} {a : Act} {w : World} (I : List Bool → Act → World → Prop) (hm : Pr.follows .mixedOrders = true) (hT : rtab .any ops = T) (hlow : lowB T.2 = true) (hn : T.2.length = n) (hno : ops.size = n)
    (h0 : I (List.replicate n false) a w.drew)
    (hend : ∀ a w, I (List.replicate n true) a w → Q .normal a w)
    (hstep : ∀ (l : List Bool) (a : Act) (w : World) (i : Nat) (o : Oper), l.length = n → i < n → ops[i]? = some o → readyAt T.2 l i = true → I l a w → ∀ K : Act → World → Prop, (∀ a' w', I (l.set i true) a' w' → K a' w') →
      if Region.wanted o (yielded ops a.tmps) = true then Oper.wp Pr o a w K Q else K (a.put o.dst undef) w) : (Code.region id ops true).wp Pr Q a w := by
  have fin : ∀ (L : Array Bool) (a : Act) (w : World), L.toList.length = n → Region.ready .any ops L = [] → I L.toList a w → Q .normal a w := by
    intro L a w hL hr hI
    rw [ready_eq, hT] at hr
    have hd := all_done hlow (hL.trans hn.symm) hr
    have e : L.toList = List.replicate n true := by
      refine List.ext_getElem (by simp [hL]) (fun i h1 h2 => ?_)
      have := hd i (by omega)
      rw [List.getD_eq_getElem?_getD, List.getElem?_eq_getElem h1] at this
      simpa using this
    rw [e] at hI
    exact hend a w hI
  have key : ∀ (fuel : Nat) (L : Array Bool) (a : Act) (w : World), L.toList.length = n → L.toList.count false ≤ fuel → I L.toList a w → wpAnyLast Pr .any ops Q (fun _ => True) [] fuel L a w := by
    intro fuel
    induction fuel with
    | zero =>
      intro L a w hL hc hI
      have hr : Region.ready .any ops L = [] := by
        rw [ready_eq, hT]
        unfold readyT
        rw [List.filter_eq_nil_iff]
        intro i hi
        rw [List.mem_range] at hi
        have : L.toList.getD i true = true := by
          rcases Bool.eq_false_or_eq_true (L.toList.getD i true) with h | h
          · exact h
          · have := count_set _ _ h; omega
        unfold readyAt
        rw [this]; simp
      exact ⟨hr, fin L a w hL hr hI⟩
    | succ fuel ih =>
      intro L a w hL hc hI
      refine ⟨fun hr => fin L a w hL hr hI, fun i hi => ?_⟩
      have hi' := hi
      rw [ready_eq, hT] at hi'
      unfold readyT at hi'
      rw [List.mem_filter, List.mem_range] at hi'
      have hin : i < n := by omega
      have hfalse : L.toList.getD i true = false := by
        have := hi'.2
        unfold readyAt at this
        rw [Bool.and_eq_true, Bool.not_eq_true'] at this
        exact this.1
      have hcs := count_set _ _ hfalse
      have hset : (L.setIfInBounds i true).toList = L.toList.set i true := by simp
      refine wpOp_step (o := ops[i]'(by omega)) (Array.getElem?_eq_getElem (by omega)) (fun K hK => ?_)
      refine hstep L.toList a w i _ hL hin (Array.getElem?_eq_getElem (by omega)) hi'.2 hI K (fun a' w' hI' => hK _ _ ⟨fun _ _ => trivial, ?_⟩)
      have := ih (L.setIfInBounds i true) a' w' (by rw [hset]; simpa using hL) (by rw [hset]; omega) (by rw [hset]; exact hI')
      exact this
  refine start_ (S := fun _ => True) (ds := []) (Array.replicate n false) hm hno rfl trivial (fun _ => key n _ a w.drew (by simp) (by simp [List.count_replicate]) (by simpa using h0))
theorem r_relA {Pr : Program} {ops : Array Oper} {Q : Exit → Act → World → Prop} {T : Bool × List (List Nat × List Nat)} {n id : Nat} {a : Act} {w : World} (J : Act → List Bool → Act → World → Prop) (hm : Pr.follows .mixedOrders = true) (hT : rtab .any ops = T) (hlow : lowB T.2 = true) (hn : T.2.length = n) (hno : ops.size = n)
    (h0 : J a (List.replicate n false) a w.drew)
    (hend : ∀ a' w, J a (List.replicate n true) a' w → Q .normal a' w)
    (hstep : ∀ (l : List Bool) (a' : Act) (w : World) (i : Nat) (o : Oper), l.length = n → i < n → ops[i]? = some o → readyAt T.2 l i = true → J a l a' w → ∀ K : Act → World → Prop, (∀ a'' w', J a (l.set i true) a'' w' → K a'' w') →
      if Region.wanted o (yielded ops a'.tmps) = true then Oper.wp Pr o a' w K Q else K (a'.put o.dst undef) w) : (Code.region id ops true).wp Pr Q a w := r_rel (J a) hm hT hlow hn hno h0 hend hstep
theorem ready_dep {T : List (List Nat × List Nat)} {l : List Bool} {i j : Nat} {r : List Nat × List Nat} (h : readyAt T l i = true) (hr : T[i]? = some r) (hj : j ∈ r.1) : l.getD j false = true := by
  unfold readyAt at h
  rw [hr, Bool.and_eq_true] at h
  exact List.all_eq_true.1 h.2 j hj
theorem ready_self {T : List (List Nat × List Nat)} {l : List Bool} {i : Nat} (h : readyAt T l i = true) : l.getD i true = false := by
  unfold readyAt at h
  rw [Bool.and_eq_true, Bool.not_eq_true'] at h
  exact h.1
/-- Boxes that are there behind operation i; their cells. -/
def bxL (l : List Bool) (i : Nat) (x : Bx) : List Bx := if l.getD i false = true then [x] else []
def ccL (l : List Bool) (i : Nat) (new old : List Value) : List Value := if l.getD i false = true then new else old
/-- What is known behind operation i. -/
def ck (l : List Bool) (i : Nat) (p : Prop) : Prop := l.getD i false = true → p
theorem set_get_eq {l : List Bool} {i : Nat} (h : i < l.length) : (l.set i true).getD i false = true := by
  rw [List.getD_eq_getElem?_getD, List.getElem?_set_self h]; rfl
theorem set_get_ne {l : List Bool} {i j : Nat} (h : i ≠ j) : (l.set i true).getD j false = l.getD j false := by
  rw [List.getD_eq_getElem?_getD, List.getElem?_set_ne h, ← List.getD_eq_getElem?_getD]
theorem rep_get {n i : Nat} (h : i < n) : (List.replicate n true).getD i false = true := by
  rw [List.getD_eq_getElem?_getD, List.getElem?_replicate, if_pos h]; rfl
theorem rep_get0 {n i : Nat} : (List.replicate n false).getD i false = false := by
  rw [List.getD_eq_getElem?_getD, List.getElem?_replicate]
  split <;> rfl
theorem get_tf {l : List Bool} {i : Nat} (hi : i < l.length) (h : l.getD i true = false) : l.getD i false = false := by
  rw [List.getD_eq_getElem?_getD, List.getElem?_eq_getElem hi] at h ⊢
  exact h
/-- The act is a0 but for the slots ks. -/
structure Frm (a0 a : Act) (ks : List Tmp) : Prop where
  d : a.defers = a0.defers
  z : a.tmps.size = a0.tmps.size
  s : ∀ N, N ∉ ks → a.tmps[N]? = a0.tmps[N]?
theorem Frm.refl (a0 : Act) (ks : List Tmp) : Frm a0 a0 ks := ⟨rfl, rfl, fun _ _ => rfl⟩
theorem Frm.put {a0 a : Act} {ks : List Tmp} (h : Frm a0 a ks) {N : Tmp} (v : Value) (hN : N ∈ ks) : Frm a0 (a.put (some N) v) ks :=
  ⟨h.d, by show (a.tmps.setIfInBounds N v).size = _; rw [Array.size_setIfInBounds]; exact h.z, fun M hM => by
    show (a.tmps.setIfInBounds N v)[M]? = _
    rw [Array.getElem?_setIfInBounds_ne (show N ≠ M from fun e => hM (e ▸ hN))]
    exact h.s M hM⟩
theorem Frm.get {a0 a : Act} {ks : List Tmp} (h : Frm a0 a ks) {N : Tmp} {v : Value} (hN : N ∉ ks) (hv : a0.tmps.getD N undef = v) : a.eval (.tmp N) = v := by
  show a.tmps.getD N undef = v
  rw [← hv, Array.getD_eq_getD_getElem?, Array.getD_eq_getD_getElem?, h.s N hN]
/-- Slots that are known behind their operations. -/
def Slots (a : Act) (l : List Bool) (E : List (Nat × Tmp × Value)) : Prop := ∀ e ∈ E, l.getD e.1 false = true → a.eval (.tmp e.2.1) = e.2.2
theorem Slots.at {a : Act} {l : List Bool} {E : List (Nat × Tmp × Value)} (h : Slots a l E) {i : Nat} {N : Tmp} {v : Value} (hm : (i, N, v) ∈ E) (hl : l.getD i false = true) : a.eval (.tmp N) = v := h _ hm hl
theorem Slots.start {a : Act} {n : Nat} {E : List (Nat × Tmp × Value)} : Slots a (List.replicate n false) E := fun e _ h => by rw [rep_get0] at h; cases h
theorem Slots.step {a : Act} {l : List Bool} {E E' : List (Nat × Tmp × Value)} {i : Nat} {N : Tmp} {v : Value} (h : Slots a l E) (hi : i < l.length) (hN : N < a.tmps.size) (hne : ∀ e ∈ E', e.1 = i → e.2 = (N, v)) (hs : ∀ e ∈ E', e.1 ≠ i → e ∈ E ∧ e.2.1 ≠ N) : Slots (a.put (some N) v) (l.set i true) E' := by
  intro e he hl
  by_cases ei : e.1 = i
  · have := hne e he ei
    show (a.tmps.setIfInBounds N v).getD e.2.1 undef = e.2.2
    rw [this, Array.getD_eq_getD_getElem?, Array.getElem?_setIfInBounds_self_of_lt hN]
    rfl
  · rw [set_get_ne (fun x => ei x.symm)] at hl
    have := hs e he ei
    show (a.tmps.setIfInBounds N v).getD e.2.1 undef = e.2.2
    rw [Array.getD_eq_getD_getElem?, Array.getElem?_setIfInBounds_ne (fun x => this.2 x.symm), ← Array.getD_eq_getD_getElem?]
    exact h e this.1 hl
theorem Slots.keep {a : Act} {l : List Bool} {E : List (Nat × Tmp × Value)} {i : Nat} (h : Slots a l E) (hs : ∀ e ∈ E, e.1 ≠ i) : Slots a (l.set i true) E := fun e he hl => by
  rw [set_get_ne (fun x => hs e he x.symm)] at hl
  exact h e he hl
theorem Slots.all {a0 a : Act} {n : Nat} {E : List (Nat × Tmp × Value)} (h : Slots a (List.replicate n true) E) (hf : Frm a0 a (E.map (·.2.1))) (hn : ∀ e ∈ E, e.1 < n) (hz : ∀ e ∈ E, e.2.1 < a0.tmps.size) (hd : (E.map (·.2.1)).Nodup) : a = fillAll a0 (E.map (·.2)) := by
  have gen : ∀ (E : List (Nat × Tmp × Value)) (a0 : Act), (∀ e ∈ E, a.eval (.tmp e.2.1) = e.2.2) → Frm a0 a (E.map (·.2.1)) → (∀ e ∈ E, e.2.1 < a0.tmps.size) → (E.map (·.2.1)).Nodup → a = fillAll a0 (E.map (·.2)) := by
    intro E
    induction E with
    | nil =>
      intro a0 _ hf _ _
      show a = a0
      have ht : a.tmps = a0.tmps := by
        apply Array.ext_getElem?
        intro N
        exact hf.s N (by simp)
      cases a; cases a0
      simp only at ht
      have := hf.d
      simp only at this
      rw [ht, this]
    | cons e E ih =>
      intro a0 hv hf hz hd
      have hd' := List.nodup_cons.1 hd
      have hl : e.2.1 < a0.tmps.size := hz e List.mem_cons_self
      show a = fillAll (a0.put (some e.2.1) e.2.2) (E.map (·.2))
      refine ih (a0.put (some e.2.1) e.2.2) (fun x hx => hv x (List.mem_cons_of_mem _ hx)) ⟨hf.d, by show _ = (a0.tmps.setIfInBounds e.2.1 e.2.2).size; rw [Array.size_setIfInBounds]; exact hf.z, fun N hN => ?_⟩ (fun x hx => by show _ < (a0.tmps.setIfInBounds e.2.1 e.2.2).size; rw [Array.size_setIfInBounds]; exact hz x (List.mem_cons_of_mem _ hx)) hd'.2
      show _ = (a0.tmps.setIfInBounds e.2.1 e.2.2)[N]?
      by_cases eN : N = e.2.1
      · subst eN
        rw [Array.getElem?_setIfInBounds_self_of_lt hl]
        have := hv e List.mem_cons_self
        have h2 : a.tmps.getD e.2.1 undef = e.2.2 := this
        have hla : e.2.1 < a.tmps.size := by rw [hf.z]; exact hl
        rw [Array.getD_eq_getD_getElem?, Array.getElem?_eq_getElem hla] at h2
        rw [Array.getElem?_eq_getElem hla]
        exact congrArg some h2
      · rw [Array.getElem?_setIfInBounds_ne (fun x => eN x.symm)]
        exact hf.s N (by simp only [List.map_cons, List.mem_cons, not_or]; exact ⟨eN, hN⟩)
  exact gen E a0 (fun e he => h e he (rep_get (hn e he))) hf hz hd
theorem Slots.nth {a : Act} {l : List Bool} {E : List (Nat × Tmp × Value)} (h : Slots a l E) (k : Nat) {i : Nat} {N : Tmp} {v : Value} (hk : E[k]? = some (i, N, v)) (hl : l.getD i false = true) : a.eval (.tmp N) = v := h _ (List.mem_of_getElem? hk) hl
theorem ck_ne {l : List Bool} {i j : Nat} {p : Prop} (h : i ≠ j) : ck (l.set i true) j p = ck l j p := by unfold ck; rw [set_get_ne h]
theorem ck_start {n i : Nat} {p : Prop} : ck (List.replicate n false) i p := fun h => by rw [rep_get0] at h; cases h
/-- Values of what waits for operation i may be others. -/
theorem Slots.turn {a : Act} {l : List Bool} {E E' : List (Nat × Tmp × Value)} {i : Nat} {N : Tmp} {v : Value} (h : Slots a l E) (hi : i < l.length) (hN : N < a.tmps.size) (hne : ∀ e ∈ E', e.1 = i → e.2 = (N, v)) (hs : ∀ e ∈ E', e.1 ≠ i → (e ∈ E ∧ e.2.1 ≠ N) ∨ l.getD e.1 false = false) : Slots (a.put (some N) v) (l.set i true) E' := by
  intro e he hl
  by_cases ei : e.1 = i
  · have := hne e he ei
    show (a.tmps.setIfInBounds N v).getD e.2.1 undef = e.2.2
    rw [this, Array.getD_eq_getD_getElem?, Array.getElem?_setIfInBounds_self_of_lt hN]
    rfl
  · rw [set_get_ne (fun x => ei x.symm)] at hl
    rcases hs e he ei with this | this
    · show (a.tmps.setIfInBounds N v).getD e.2.1 undef = e.2.2
      rw [Array.getD_eq_getD_getElem?, Array.getElem?_setIfInBounds_ne (fun x => this.2 x.symm), ← Array.getD_eq_getD_getElem?]
      exact h e this.1 hl
    · rw [this] at hl; cases hl
theorem nodup_same {α : Type} {f : α → Nat} : ∀ {E : List α} {x y : α}, (E.map f).Nodup → x ∈ E → y ∈ E → f x = f y → x = y
  | z :: E, x, y, h, hx, hy, e => by
    rw [List.map_cons, List.nodup_cons] at h
    rcases List.mem_cons.1 hx with rfl | hx2 <;> rcases List.mem_cons.1 hy with rfl | hy2
    · rfl
    · exact absurd (List.mem_map.2 ⟨y, hy2, e.symm⟩) h.1
    · exact absurd (List.mem_map.2 ⟨x, hx2, e⟩) h.1
    · exact nodup_same h.2 hx2 hy2 e
theorem Slots.set {a : Act} {l : List Bool} {E : List (Nat × Tmp × Value)} (h : Slots a l E) (k : Nat) {i : Nat} {N : Tmp} {v : Value} (hk : E[k]? = some (i, N, v)) (hi : i < l.length) (hN : N < a.tmps.size) (h1 : (E.map (·.1)).Nodup) (h2 : (E.map (·.2.1)).Nodup) : Slots (a.put (some N) v) (l.set i true) E :=
  h.step hi hN (fun e he e1 => by have := nodup_same h1 he (List.mem_of_getElem? hk) e1; rw [this]) (fun e he e1 => ⟨he, fun e2 => e1 (by have := nodup_same h2 he (List.mem_of_getElem? hk) e2; rw [this])⟩)
/-- What was done ahead of what. -/
def Side (ps : List (Nat × Nat)) (l : List Bool) : Prop := ∀ p ∈ ps, l.getD p.1 false = true → l.getD p.2 false = true
theorem Side.start {ps : List (Nat × Nat)} {n : Nat} : Side ps (List.replicate n false) := fun p _ h => by rw [rep_get0] at h; cases h
theorem Side.step {ps : List (Nat × Nat)} {l : List Bool} {i : Nat} (h : Side ps l) (hi : i < l.length) (hd : ∀ p ∈ ps, p.1 = i → l.getD p.2 false = true) : Side ps (l.set i true) := fun p hp hl => by
  by_cases e2 : i = p.2
  · rw [← e2]; exact set_get_eq hi
  · rw [set_get_ne e2]
    by_cases e1 : p.1 = i
    · exact hd p hp e1
    · rw [set_get_ne (fun x => e1 x.symm)] at hl
      exact h p hp hl
theorem Side.skip {ps : List (Nat × Nat)} {l : List Bool} {i : Nat} (h : Side ps l) (hi : i < l.length) (hd : (ps.all (fun p => p.1 != i)) = true) : Side ps (l.set i true) := h.step hi (fun p hp e => by
  have := List.all_eq_true.1 hd p hp
  rw [bne_iff_ne] at this
  exact absurd e this)
theorem bxL_ne {l : List Bool} {i j : Nat} {x : Bx} (h : i ≠ j) : bxL (l.set i true) j x = bxL l j x := by unfold bxL; rw [set_get_ne h]
theorem ccL_ne {l : List Bool} {i j : Nat} {x y : List Value} (h : i ≠ j) : ccL (l.set i true) j x y = ccL l j x y := by unfold ccL; rw [set_get_ne h]
theorem bxL_true {l : List Bool} {i : Nat} {x : Bx} (h : l.getD i false = true) : bxL l i x = [x] := if_pos h
theorem bxL_false {l : List Bool} {i : Nat} {x : Bx} (h : l.getD i false = false) : bxL l i x = [] := if_neg (by rw [h]; simp)
theorem ccL_true {l : List Bool} {i : Nat} {x y : List Value} (h : l.getD i false = true) : ccL l i x y = x := if_pos h
theorem ccL_false {l : List Bool} {i : Nat} {x y : List Value} (h : l.getD i false = false) : ccL l i x y = y := if_neg (by rw [h]; simp)
theorem Side.no {ps : List (Nat × Nat)} {l : List Bool} {i j : Nat} (h : Side ps l) (hm : (i, j) ∈ ps) (hj : l.getD j false = false) : l.getD i false = false := by
  cases e : l.getD i false with
  | false => rfl
  | true => have := h _ hm e; simp only at this; rw [hj] at this; cases this
theorem wanted_none {o : Oper} {y : Nat → Option Bool} (h : o.guard = none) : Region.wanted o y = true := by simp [Region.wanted, h]
theorem k_pure {Pr : Program} {ops : Array Oper} {Q : Exit → Act → World → Prop} {o : Oper} {a : Act} {w : World} {K : Act → World → Prop} (v : Value) (hw : Region.wanted o (yielded ops a.tmps) = true) (hr : (execOp a.eval o).run Pr w = .ok (.value v) w) (h : K (a.put o.dst v) w) :
    if Region.wanted o (yielded ops a.tmps) = true then Oper.wp Pr o a w K Q else K (a.put o.dst undef) w := by
  rw [if_pos hw]
  unfold Oper.wp
  rw [hr]
  exact h
theorem k_mv {Pr : Program} {ops : Array Oper} {Q : Exit → Act → World → Prop} {o : Oper} {a : Act} {w : World} {K : Act → World → Prop} {x : Operand} (v : Value) (hw : Region.wanted o (yielded ops a.tmps) = true) (ho : o.op = .move x ∨ o.op = .assign x) (hx : a.eval x = v) (h : K (a.put o.dst v) w) :
    if Region.wanted o (yielded ops a.tmps) = true then Oper.wp Pr o a w K Q else K (a.put o.dst undef) w := by
  refine k_pure v hw ?_ h
  unfold execOp
  rcases ho with ho | ho <;> simp only [ho, hx, Sem.run_bind, Sem.run_pure, Result.andThen_ok]
theorem k_ex {Pr : Program} {ops : Array Oper} {Q : Exit → Act → World → Prop} {o : Oper} {a : Act} {w : World} {K : Act → World → Prop} {x : Operand} {vs : Array Value} {i : Nat} (v : Value) (hw : Region.wanted o (yielded ops a.tmps) = true) (ho : o.op = .extract x i) (hx : a.eval x = .tuple vs) (hv : vs[i]? = some v) (h : K (a.put o.dst v) w) :
    if Region.wanted o (yielded ops a.tmps) = true then Oper.wp Pr o a w K Q else K (a.put o.dst undef) w := by
  refine k_pure v hw ?_ h
  unfold execOp
  simp [ho, hx, Instr.extract, hv]
theorem k_fa {Pr : Program} {ops : Array Oper} {Q : Exit → Act → World → Prop} {o : Oper} {a : Act} {w : World} {K : Act → World → Prop} {x : Operand} {ty : TypeId} {j : Nat} {u : Value} (v : Value) (hw : Region.wanted o (yielded ops a.tmps) = true) (ho : o.op = .fieldAddr ty x j) (hx : a.eval x = u) (hr : ∀ w, (Instr.fieldAt ty u j).run Pr w = .ok v w) (h : K (a.put o.dst v) w) :
    if Region.wanted o (yielded ops a.tmps) = true then Oper.wp Pr o a w K Q else K (a.put o.dst undef) w := by
  refine k_pure v hw ?_ h
  unfold execOp
  simp only [ho, hx, Sem.run_bind, Sem.run_pure, Result.andThen_ok, hr]
end Go.Proofs.YtolpamojbiipaaaDoor.Mem
namespace Go.Proofs.YtolpamojbiipaaaDoor.XA
open Go.RowKit Go.Proofs.YtolpamojbiipaaaDoorW.PrintWords Go.Proofs.YtolpamojbiipaaaDoorW.PrintLast Go.Proofs.YtolpamojbiipaaaDoorW.PrintMore Go.Proofs.YtolpamojbiipaaaDoor.Mem Go.Proofs.YtolpamojbiipaaaDoor.Pure
theorem Has.app {g : Nat} {cs : List Value} {t : TypeId} {B : List Bx} (X : List Bx) (h : Has g cs t B) : Has g cs t (X ++ B) := by
  induction X with
  | nil => exact h
  | cons x X ih => exact .t ih
section
variable {w0 W : World} {P : Nat → Prop} {B : List Bx} {S : World → Prop} {g : Nat} {cs : List Value} {t : TypeId} {ops : Array Oper} {o : Oper} {a : Act} {Q : Exit → Act → World → Prop} {x y : Operand} {ty : TypeId} {i n : Nat} {v : Value} {K : Act → World → Prop}
theorem k_all (HM : Mem w0 P W B S) (hw : Region.wanted o (yielded ops a.tmps) = true) (ho : o.op = .load ty x) (hx : a.eval x = .pointer (some ⟨g, 0, none⟩)) (hm : Has g cs t B) (ha : (sizN ty == cs.length && cs.length != 0) = true) (h : K (a.put o.dst (.agg cs.toArray)) W) :
    if Region.wanted o (yielded ops a.tmps) = true then Oper.wp Tryd.prog o a W K Q else K (a.put o.dst undef) W := by
  rw [Bool.and_eq_true, beq_iff_eq, bne_iff_ne] at ha
  have hr := run_agg_yes (W := W) (siz_of ha.1 ha.2).1
  have hcs : (loadCells ⟨g, 0, none⟩ cs.length).run Tryd.prog W = .ok cs.toArray W := run_loadCells_list (P := Tryd.prog) W ⟨g, 0, none⟩ cs (fun j u hu => by
    have hadd : (⟨g, 0, none⟩ : Addr).add j = ⟨g, j, none⟩ := by unfold Addr.add; split <;> simp_all
    rw [hadd, blk_cell (HM.box _ hm.mem).1 j]
    simpa using hu)
  refine k_pure _ hw ?_ h
  unfold execOp
  simp only [ho, hx, Instr.loadAt, Instr.sureAddr, Sem.run_bind, Sem.run_pure, Result.andThen_ok, loadVar, hr.1, hr.2, hcs, if_true]
theorem k_cell (HM : Mem w0 P W B S) (hw : Region.wanted o (yielded ops a.tmps) = true) (ho : o.op = .load ty x) (hx : a.eval x = .pointer (some ⟨g, i, none⟩)) (hm : Has g cs t B) (ha : cellB ty = true) (hv : cs[i]? = some v) (h : K (a.put o.dst v) W) :
    if Region.wanted o (yielded ops a.tmps) = true then Oper.wp Tryd.prog o a W K Q else K (a.put o.dst undef) W := by
  have hc : W.cell? ⟨g, i, none⟩ = some v := (blk_cell (HM.box _ hm.mem).1 i).trans (by simpa using hv)
  refine k_pure _ hw ?_ h
  unfold execOp
  simp only [ho, hx, Instr.loadAt, Instr.sureAddr, Sem.run_bind, Sem.run_pure, Result.andThen_ok, loadVar, run_agg_no (cell_of ha).1, run_load, hc, Bool.false_eq_true, if_false]
theorem k_zero (HM : Mem w0 P W B S) (hw : Region.wanted o (yielded ops a.tmps) = true) (ho : o.op = .alloc ty) (ha : (sizN ty != 0) = true) (hc : zerL ty = cs) (h : ∀ g W1, Mem w0 P W1 ((g, cs, ty) :: B) S → K (a.put o.dst (.pointer (some ⟨g, 0, none⟩))) W1) :
    if Region.wanted o (yielded ops a.tmps) = true then Oper.wp Tryd.prog o a W K Q else K (a.put o.dst undef) W := by
  subst hc
  exact r_zero HM hw ho (siz_of rfl (bne_iff_ne.1 ha)).2.2 rfl h
theorem k_put {B' : List Bx} (HM : Mem w0 P W B S) (hw : Region.wanted o (yielded ops a.tmps) = true) (hN : o.dst = none) (ho : o.op = .store ty x y) (hx : a.eval x = .pointer (some ⟨g, 0, none⟩)) (vs : List Value) (hy : a.eval y = .agg vs.toArray) (hm : Upd g cs t vs B B')
    (ha : (sizN ty == vs.length && (vs.length != 0 && (cs.length == vs.length && vs.all (fun u => u.oneCell')))) = true) (h : ∀ W1, Mem w0 P W1 B' S → K a W1) : if Region.wanted o (yielded ops a.tmps) = true then Oper.wp Tryd.prog o a W K Q else K (a.put o.dst undef) W := by
  simp only [Bool.and_eq_true, beq_iff_eq, bne_iff_ne] at ha
  obtain ⟨n, h1, rfl⟩ := hm.at
  rw [hN]
  exact r_put HM hw hN ho hx h1 hy (siz_of ha.1 ha.2.1).2.1 (fun u hu => List.all_eq_true.1 ha.2.2.2 u hu) ha.2.2.1 h
end
end Go.Proofs.YtolpamojbiipaaaDoor.XA
