/- The program's rows and the document's things, side by side: what lies at each path. -/
import Derived.Test.YtolpamojbiipaaaDoorURef13
import Derived.Test.YtolpamojbiipaaaDoorEPlanted17
namespace Go.Proofs.YtolpamojbiipaaaDoor.Pure
open Go.RowKit Go.Proofs.YtolpamojbiipaaaDoor.XA Go.Proofs.YtolpamojbiipaaaDoorW.PrintWords Go.Proofs.YtolpamojbiipaaaDoorW.PrintLast Go.Proofs.YtolpamojbiipaaaDoorW.PrintMore
set_option linter.unusedSimpArgs false
set_option linter.unusedVariables false

def lookW : List S73 → ByteArray → Option S73
  | [], _ => none
  | x :: t, s => if x.f0.toList = s.toList then some x else lookW t s
theorem look_ix : ∀ (ws : List S73) (s : ByteArray), lookW ws s = (ixW ws s).map (fun i => ws.getD i z73)
  | [], s => rfl
  | x :: t, s => by
    rw [lookW, ixW, look_ix t s]
    split
    · rfl
    · cases ixW t s <;> rfl
theorem ix_none {ws : List S73} {s : ByteArray} : ixW ws s = none ↔ lookW ws s = none := by
  rw [look_ix]; cases ixW ws s <;> simp
theorem ix_some {ws : List S73} {s : ByteArray} {i : Nat} (h : ixW ws s = some i) : lookW ws s = some (ws.getD i z73) := by rw [look_ix, h]; rfl
theorem wR_cons (y : S73) (t : List S73) (x : S73) : wR (y :: t) x = if y.f0.toList = x.f0.toList then x :: t else y :: wR t x := by
  unfold wR
  rw [ixW]
  by_cases e : y.f0.toList = x.f0.toList
  · rw [if_pos e, if_pos e]; rfl
  · rw [if_neg e, if_neg e]
    cases ixW t x.f0 <;> rfl
theorem look_wR : ∀ (ws : List S73) (x : S73) (s : ByteArray), lookW (wR ws x) s = if x.f0.toList = s.toList then some x else lookW ws s
  | [], x, s => rfl
  | y :: t, x, s => by
    rw [wR_cons]
    by_cases e : y.f0.toList = x.f0.toList
    · rw [if_pos e, lookW, lookW, e]
      split <;> rfl
    · rw [if_neg e, lookW, lookW, look_wR t x s]
      by_cases e2 : y.f0.toList = s.toList
      · rw [if_pos e2, if_pos e2, if_neg (fun h => e (e2.trans h.symm))]
      · rw [if_neg e2, if_neg e2]
theorem mem_wR : ∀ {ws : List S73} {x y : S73}, y ∈ wR ws x → y = x ∨ y ∈ ws
  | [], x, y, h => by
    have : y ∈ [x] := h
    exact .inl (by simpa using this)
  | z :: t, x, y, h => by
    rw [wR_cons] at h
    split at h
    · rcases List.mem_cons.1 h with h | h
      · exact .inl h
      · exact .inr (List.mem_cons_of_mem _ h)
    · rcases List.mem_cons.1 h with h | h
      · exact .inr (h ▸ List.mem_cons_self)
      · rcases mem_wR h with h | h
        · exact .inl h
        · exact .inr (List.mem_cons_of_mem _ h)
theorem lookW_mem : ∀ {ws : List S73} {s : ByteArray} {y : S73}, lookW ws s = some y → y ∈ ws ∧ y.f0.toList = s.toList
  | x :: t, s, y, h => by
    rw [lookW] at h
    split at h
    · rename_i e; cases h; exact ⟨List.mem_cons_self, e⟩
    · have := lookW_mem h; exact ⟨List.mem_cons_of_mem _ this.1, this.2⟩
theorem lookW_none : ∀ {ws : List S73} {s : ByteArray}, lookW ws s = none ↔ ∀ y ∈ ws, y.f0.toList ≠ s.toList
  | [], s => by simp [lookW]
  | x :: t, s => by
    rw [lookW]
    by_cases e : x.f0.toList = s.toList
    · simp [e]
    · rw [if_neg e, lookW_none]; simp [e]
def pathsW (ws : List S73) : List (List UInt8) := ws.map (fun y => y.f0.toList)
theorem lookW_of : ∀ {ws : List S73} {y : S73}, (pathsW ws).Nodup → y ∈ ws → lookW ws y.f0 = some y
  | x :: t, y, hn, h => by
    have hn' := List.nodup_cons.1 (show ((x.f0.toList) :: pathsW t).Nodup from hn)
    rw [lookW]
    rcases List.mem_cons.1 h with rfl | h
    · rw [if_pos rfl]
    · rw [if_neg (fun e => hn'.1 (List.mem_map.2 ⟨y, h, e.symm⟩))]
      exact lookW_of hn'.2 h
theorem nodup_wR : ∀ {ws : List S73} (x : S73), (pathsW ws).Nodup → (pathsW (wR ws x)).Nodup
  | [], x, _ => by
    show [x.f0.toList].Nodup
    simp
  | z :: t, x, hn => by
    have hn' := List.nodup_cons.1 (show ((z.f0.toList) :: pathsW t).Nodup from hn)
    rw [wR_cons]
    split
    · rename_i e
      show ((x.f0.toList) :: pathsW t).Nodup
      rw [← e]; exact hn
    · rename_i e
      show ((z.f0.toList) :: pathsW (wR t x)).Nodup
      refine List.nodup_cons.2 ⟨fun h => ?_, nodup_wR x hn'.2⟩
      obtain ⟨y, hy, e2⟩ := List.mem_map.1 h
      rcases mem_wR hy with rfl | hy
      · exact e e2.symm
      · exact hn'.1 (List.mem_map.2 ⟨y, hy, e2⟩)
theorem nodup_len {α : Type} [DecidableEq α] : ∀ {l m : List α}, l.Nodup → (∀ x ∈ l, x ∈ m) → l.length ≤ m.length
  | [], m, _, _ => Nat.zero_le _
  | x :: t, m, hn, h => by
    have hn' := List.nodup_cons.1 hn
    have hx := h x List.mem_cons_self
    have ih := nodup_len (m := m.erase x) hn'.2 (fun y hy => (List.mem_erase_of_ne (fun e => hn'.1 (by rw [← e]; exact hy))).2 (h y (List.mem_cons_of_mem _ hy)))
    rw [List.length_erase_of_mem hx] at ih
    have : 0 < m.length := List.length_pos_of_mem hx
    simp only [List.length_cons]
    omega
/-- A row and a thing that are one. -/
def Cor (more : Int) (r : S44) (y : S73) : Prop := y.f1 = r.f2.f0 ∧ y.f3 = r.f2.f9 ∧ y.f4 = r.f1 ∧ (r.f2.f9 = false → r.f2.f1 = y.f2 + more)
inductive RelO (more : Int) : Option S44 → Option S73 → Prop
  | n : RelO more none none
  | s {r : S44} {y : S73} : Cor more r y → RelO more (some r) (some y)
structure Rel (l : List S44) (ws : List S73) (more M : Int) : Prop where
  look : ∀ ps, Cl ps → RelO more (lookR l ps) (lookW ws (mkS (joinS ps)))
  nodup : (pathsW ws).Nodup
  clean : ∀ y ∈ ws, (∃ ps, Cl ps ∧ y.f0 = mkS (joinS ps)) ∧ 0 ≤ y.f2 ∧ y.f2 ≤ M
section
variable {l : List S44} {ws : List S73} {n more M : Int}
theorem rel_nil (more M : Int) : Rel [] [] more M := ⟨fun _ _ => .n, List.nodup_nil, by simp⟩
theorem join_eq {ps qs : Pth} (hp : ∀ p ∈ ps, Good p) (hq : ∀ p ∈ qs, Good p) (h : (mkS (joinS ps)).toList = (mkS (joinS qs)).toList) : ps = qs := by
  rw [mk_toList, mk_toList] at h
  exact join_inj hp hq h
theorem Rel.at (h : Rel l ws more M) (hl : ∀ r ∈ l, Cl (pp r)) {qs : Pth} (hq : ∀ p ∈ qs, Good p) : RelO more (lookR l qs) (lookW ws (mkS (joinS qs))) := by
  cases e : lookW ws (mkS (joinS qs)) with
  | some y =>
    have hy := lookW_mem e
    obtain ⟨⟨ps, hc, hp⟩, _⟩ := h.clean y hy.1
    have : ps = qs := join_eq hc.good hq (by rw [← hp]; exact hy.2)
    subst this
    rw [← e]
    exact h.look ps hc
  | none =>
    cases e2 : lookR l qs with
    | none => exact .n
    | some r =>
      have hr := look_mem e2
      have hc := hl r hr.1
      rw [hr.2] at hc
      have := h.look qs hc
      rw [e, e2] at this
      cases this
theorem Rel.ins (h : Rel l ws more M) {r : S44} {x : S73} (hc : Cl (pp r)) (hx : x.f0 = mkS (joinS (pp r))) (hco : Cor more r x) (hm : 0 ≤ x.f2 ∧ x.f2 ≤ M) : Rel (insR l r) (wR ws x) more M := by
  refine ⟨fun ps hp => ?_, nodup_wR x h.nodup, fun y hy => ?_⟩
  · rw [look_ins, look_wR, hx]
    by_cases e : ps = pp r
    · subst e
      rw [if_pos rfl, if_pos rfl]
      exact .s hco
    · rw [if_neg e, if_neg (fun e2 => e (join_eq hc.good hp.good e2).symm)]
      exact h.look ps hp
  · rcases mem_wR hy with rfl | hy
    · exact ⟨⟨_, hc, hx⟩, hm⟩
    · exact h.clean y hy
theorem Rel.len (h : Rel l ws more M) (hs : Sorted l) (hl : ∀ r ∈ l, Cl (pp r) ∧ r.f0 = mkS (joinS (pp r))) : l.length = ws.length := by
  have e1 : ∀ r ∈ l, r.f0.toList = joinS (pp r) := fun r hr => by conv => lhs; rw [(hl r hr).2, mk_toList]
  have hn : (l.map (fun r => r.f0.toList)).Nodup := by
    unfold List.Nodup
    rw [List.pairwise_map]
    refine List.Pairwise.imp_of_mem (R := fun a b => cmpP (pp a) (pp b) < 0) (fun {a b} ha hb hab e => ?_) hs
    rw [e1 a ha, e1 b hb] at e
    exact cmp_ne hab (join_inj (hl a ha).1.good (hl b hb).1.good e)
  have h1 := nodup_len (m := pathsW ws) hn (fun x hx => by
    obtain ⟨r, hr, rfl⟩ := List.mem_map.1 hx
    have := h.look (pp r) (hl r hr).1
    rw [look_of hs hr] at this
    generalize e : lookW ws (mkS (joinS (pp r))) = o at this
    cases this with
    | s hc =>
      have hy := lookW_mem e
      exact List.mem_map.2 ⟨_, hy.1, by rw [hy.2, ← (hl r hr).2]⟩)
  have h2 := nodup_len (m := l.map (fun r => r.f0.toList)) h.nodup (fun x hx => by
    obtain ⟨y, hy, rfl⟩ := List.mem_map.1 hx
    obtain ⟨⟨ps, hc, hp⟩, _⟩ := h.clean y hy
    have := h.look ps hc
    rw [← hp, lookW_of h.nodup hy] at this
    generalize e : lookR l ps = o at this
    cases this with
    | s _ =>
      have hr := look_mem e
      exact List.mem_map.2 ⟨_, hr.1, by rw [e1 _ hr.1, hr.2, hp, mk_toList]⟩)
  rw [List.length_map] at h1 h2
  unfold pathsW at h1 h2
  rw [List.length_map] at h1 h2
  omega
theorem parW_app : ∀ (us vs : List Pth) (ws : List S73) (n : Int), parW (us ++ vs) ws n = if (parW us ws n).2.2 = 0 then parW vs (parW us ws n).1 (parW us ws n).2.1 else parW us ws n
  | [], vs, ws, n => by simp [parW]
  | q :: us, vs, ws, n => by
    rw [List.cons_append, parW, parW]
    cases ixW ws (mkS (joinS q)) with
    | none => exact parW_app us vs _ _
    | some i =>
      simp only
      split
      · exact parW_app us vs _ _
      · simp
theorem parW_there : ∀ (us : List Pth) (ws : List S73) (n : Int), (∀ q ∈ us, ∃ y, lookW ws (mkS (joinS q)) = some y ∧ y.f1 = 4) → parW us ws n = (ws, n, 0)
  | [], ws, n, _ => rfl
  | q :: us, ws, n, h => by
    obtain ⟨y, hy, h4⟩ := h q List.mem_cons_self
    rw [parW]
    cases e : ixW ws (mkS (joinS q)) with
    | none => rw [ix_none.1 e] at hy; cases hy
    | some i =>
      rw [ix_some e] at hy
      cases hy
      simp only
      rw [if_pos h4]
      exact parW_there us ws n (fun q hq => h q (List.mem_cons_of_mem _ hq))
theorem ups_none {ps : Pth} (h : ps.dropLast = []) : ups ps = [] := by
  have : ps.length - 1 = 0 := by rw [← List.length_dropLast, h]; rfl
  unfold ups
  rw [this]; rfl
theorem ups_more {ps : Pth} (h : ps.dropLast ≠ []) : ups ps = ups ps.dropLast ++ [ps.dropLast] := by
  have h1 : 0 < ps.dropLast.length := List.length_pos_iff.2 h
  have h2 : ps.dropLast.length = ps.length - 1 := List.length_dropLast
  unfold ups
  rw [h2]
  obtain ⟨m, hm⟩ : ∃ m, ps.length - 1 = m + 1 := ⟨ps.length - 1 - 1, by omega⟩
  rw [hm, Nat.add_sub_cancel, List.range'_1_concat, List.map_append]
  congr 1
  · refine List.map_congr_left (fun i hi => ?_)
    have := List.mem_range'_1.1 hi
    rw [List.dropLast_eq_take, List.take_take, hm, Nat.min_eq_left (by omega)]
  · show [ps.take (1 + m)] = _
    rw [List.dropLast_eq_take, hm, Nat.add_comm]
theorem ups_pref {ps q : Pth} (h : q ∈ ups ps) : Pref q ps := by
  unfold ups at h
  obtain ⟨i, hi, rfl⟩ := List.mem_map.1 h
  have := List.mem_range'_1.1 hi
  refine ⟨fun e => ?_, ps.drop i, fun e => ?_, (List.take_append_drop i ps).symm⟩
  · have := congrArg List.length e
    rw [List.length_take] at this
    simp only [List.length_nil] at this
    omega
  · have := congrArg List.length e
    rw [List.length_drop] at this
    simp only [List.length_nil] at this
    omega
theorem par_rel (hM : 0 ≤ M) (hI : Inv l n) (h : Rel l ws more M) : ∀ (k : Nat) (ps : Pth), ps.length ≤ k → (∀ q, Pref q ps → Cl q) →
    ((parP l n k ps).2.2 = 0 ∧ (parW (ups ps) ws n).2.2 = 0 ∧ Rel (parP l n k ps).1 (parW (ups ps) ws n).1 more M ∧ (parW (ups ps) ws n).2.1 = (parP l n k ps).2.1) ∨ ((parP l n k ps).2.2 = 130 ∧ (parW (ups ps) ws n).2.2 = 130)
  | 0, ps, hk, _ => by
    have : ps = [] := List.eq_nil_of_length_eq_zero (by omega)
    subst this
    exact .inl ⟨rfl, rfl, h, rfl⟩
  | k + 1, ps, hk, hcl => by
    rw [parP]
    by_cases h0 : ps.dropLast = []
    · rw [if_pos h0, ups_none h0]
      exact .inl ⟨rfl, rfl, h, rfl⟩
    rw [if_neg h0, ups_more h0, parW_app]
    have hdl := pref_dl h0
    have hcd : Cl ps.dropLast := hcl _ hdl
    have hl : ps.dropLast.length + 1 = ps.length := by rw [List.length_dropLast]; have : ps ≠ [] := fun e => h0 (by rw [e]; rfl); have : 0 < ps.length := List.length_pos_iff.2 this; omega
    have hlk := h.look ps.dropLast hcd
    have one : ∀ ws n, parW [ps.dropLast] ws n = match ixW ws (mkS (joinS ps.dropLast)) with
      | some i => if (ws.getD i z73).f1 = 4 then (ws, n, 0) else (ws, n, 130)
      | none => (wR ws ⟨mkS (joinS ps.dropLast), 4, 0, true, n⟩, n + 1, 0) := fun ws n => by
      rw [parW]
      rfl
    cases hd : lookR l ps.dropLast with
    | some d =>
      simp only
      rw [hd] at hlk
      have hth : parW (ups ps.dropLast) ws n = (ws, n, 0) := parW_there _ _ _ (fun q hq => by
        have hpq := ups_pref hq
        obtain ⟨d', hd', h4'⟩ := hI.pre hd hpq
        have := h.look q (hcl q (pref_iff.2 ⟨h0, .inr hpq⟩))
        rw [hd'] at this
        generalize e : lookW ws (mkS (joinS q)) = o at this
        cases this with
        | s hc => exact ⟨_, rfl, by rw [hc.1]; exact h4'⟩)
      rw [hth]
      simp only [if_true]
      rw [one]
      generalize e : lookW ws (mkS (joinS ps.dropLast)) = o at hlk
      cases hlk with
      | s hc =>
        cases e2 : ixW ws (mkS (joinS ps.dropLast)) with
        | none => rw [ix_none.1 e2] at e; cases e
        | some i =>
          rw [ix_some e2] at e
          have e3 := Option.some.inj e
          simp only
          rw [e3, hc.1]
          by_cases h4 : d.f2.f0 = 4
          · rw [if_pos h4, if_pos h4]
            exact .inl ⟨rfl, rfl, h, rfl⟩
          · rw [if_neg h4, if_neg h4]
            exact .inr ⟨rfl, rfl⟩
    | none =>
      simp only
      have ih := par_rel hM hI h k ps.dropLast (by omega) (fun q hq => hcl q (pref_iff.2 ⟨h0, .inr hq⟩))
      have ok := parP_ok hI k ps.dropLast (by omega) (fun q hq => hcl q (pref_iff.2 ⟨h0, .inr hq⟩))
      generalize parP l n k ps.dropLast = r at ih ok ⊢
      generalize parW (ups ps.dropLast) ws n = w at ih ⊢
      rcases ih with ⟨e1, e2, hR, e3⟩ | ⟨e1, e2⟩
      · rw [if_pos e1, if_pos e2, one]
        have hno : lookR r.1 ps.dropLast = none := by
          cases hh : lookR r.1 ps.dropLast with
          | none => rfl
          | some d =>
            rcases ok.new _ d hh with h1 | ⟨_, h2, _⟩
            · rw [hd] at h1; cases h1
            · exact absurd rfl (pref_ne h2)
        have hlk2 := hR.look ps.dropLast hcd
        rw [hno] at hlk2
        generalize e : lookW w.1 (mkS (joinS ps.dropLast)) = o at hlk2
        cases hlk2
        rw [ix_none.2 e]
        simp only
        refine .inl ⟨trivial, trivial, ?_, by rw [e3]⟩
        have epp := pp_dir hcd.good r.2.1
        refine hR.ins (by rw [epp]; exact hcd) (by rw [epp]) ⟨rfl, rfl, ?_, fun h => ?_⟩ ⟨Int.le_refl _, hM⟩
        · exact e3
        · cases h
      · rw [if_neg (by rw [e1]; decide), if_neg (by rw [e2]; decide)]
        exact .inr ⟨e1, e2⟩
theorem add_rel (hM : 0 ≤ M) (hI : Inv l n) (h : Rel l ws more M) {ps : Pth} (hc : ps = [] ∨ Cl ps) {nd : S42} {mark : Int} (hm : nd.f9 = false) (hk : nd.f1 = mark + more) (hmk : 0 ≤ mark ∧ mark ≤ M) :
    Rel (addP l n ps nd).1 (addW ws n ps nd.f0 mark).1 more M ∧ (addW ws n ps nd.f0 mark).2.1 = (addP l n ps nd).2.1 := by
  unfold addP addW
  rcases hc with rfl | hc
  · rw [if_pos rfl, if_pos rfl]; exact ⟨h, rfl⟩
  rw [if_neg hc.ne, if_neg hc.ne]
  have hp := par_rel hM hI h ps.length ps (Nat.le_refl _) (pref_cl hc)
  have hlk := h.look ps hc
  generalize parP l n ps.length ps = r at hp ⊢
  generalize parW (ups ps) ws n = w at hp ⊢
  have fin : ∀ i : Int, ∀ hR : Rel r.1 w.1 more M, Rel (insR r.1 (rowOf ps i nd)) (wR w.1 ⟨mkS (joinS ps), nd.f0, mark, false, i⟩) more M := fun i hR => by
    have epp := pp_row hc i nd
    exact hR.ins (by rw [epp]; exact hc) (by rw [epp]) ⟨rfl, hm.symm, rfl, fun _ => hk⟩ hmk
  unfold clashP idP upP
  cases hd : lookR l ps with
  | none =>
    rw [hd] at hlk
    generalize e : lookW ws (mkS (joinS ps)) = o at hlk
    cases hlk
    rw [ix_none.2 e]
    simp only [Bool.false_eq_true, if_false]
    rcases hp with ⟨e1, e2, hR, e3⟩ | ⟨e1, e2⟩
    · rw [if_pos e1, if_pos e2, e3]
      refine ⟨?_, ?_⟩
      · have := fin r.2.1 hR
        split <;> exact this
      · simp only
        split <;> rfl
    · rw [if_neg (by rw [e1]; decide), if_neg (by rw [e2]; decide)]
      exact ⟨h, rfl⟩
  | some d =>
    rw [hd] at hlk
    generalize e : lookW ws (mkS (joinS ps)) = o at hlk
    cases hlk with
    | s hco =>
      cases e2 : ixW ws (mkS (joinS ps)) with
      | none => rw [ix_none.1 e2] at e; cases e
      | some i =>
        rw [ix_some e2] at e
        have e3 := Option.some.inj e
        simp only
        rw [e3, hco.1]
        by_cases hb : ((d.f2.f0 == 4) != (nd.f0 == 4)) = true
        · rw [if_pos hb, if_pos hb]; exact ⟨h, rfl⟩
        rw [if_neg hb, if_neg hb]
        rcases hp with ⟨e1, e2, hR, e4⟩ | ⟨e1, e2⟩
        · rw [if_pos e1, if_pos e2]
          by_cases h4 : nd.f0 = 4
          · rw [if_pos h4, if_pos h4, if_pos h4, hco.2.2.1]
            exact ⟨fin d.f1 hR, e4⟩
          · rw [if_neg h4, if_neg h4, if_neg h4, e4]
            exact ⟨fin r.2.1 hR, rfl⟩
        · rw [if_neg (by rw [e1]; decide), if_neg (by rw [e2]; decide)]
          exact ⟨h, rfl⟩
theorem link_rel (hM : 0 ≤ M) (hI : Inv l n) (h : Rel l ws more M) {ps qs : Pth} (hc : ps = [] ∨ Cl ps) (hq : ∀ p ∈ qs, Good p) :
    Rel (linkP l n ps qs).1 (linkW ws n ps qs).1 more M ∧ (linkW ws n ps qs).2.1 = (linkP l n ps qs).2.1 := by
  unfold linkP linkW
  rcases hc with rfl | hc
  · rw [if_pos rfl, if_pos rfl]; exact ⟨h, rfl⟩
  rw [if_neg hc.ne, if_neg hc.ne]
  have hlq := h.at (fun r hr => (hI.clean r hr).1) hq
  cases hd : lookR l qs with
  | none =>
    rw [hd] at hlq
    generalize e : lookW ws (mkS (joinS qs)) = o at hlq
    cases hlq
    rw [ix_none.2 e]
    exact ⟨h, rfl⟩
  | some d =>
    rw [hd] at hlq
    generalize e : lookW ws (mkS (joinS qs)) = o at hlq
    cases hlq with
    | @s _ y hco =>
      cases e2 : ixW ws (mkS (joinS qs)) with
      | none => rw [ix_none.1 e2] at e; cases e
      | some i =>
        have hmk := (h.clean y (lookW_mem e).1).2
        rw [ix_some e2] at e
        have e3 := Option.some.inj e
        simp only
        rw [e3, hco.1]
        by_cases h1 : d.f2.f0 = 1
        case neg => rw [if_neg h1, if_neg h1]; exact ⟨h, rfl⟩
        rw [if_pos h1, if_pos h1]
        have hdir : dirW ws (mkS (joinS ps)) = true ↔ dirAt l ps := by
          have hlk := h.look ps hc
          unfold dirW dirAt
          cases hd2 : lookR l ps with
          | none =>
            rw [hd2] at hlk
            generalize e : lookW ws (mkS (joinS ps)) = o at hlk
            cases hlk
            rw [ix_none.2 e]
            simp
          | some d2 =>
            rw [hd2] at hlk
            generalize e : lookW ws (mkS (joinS ps)) = o at hlk
            cases hlk with
            | s hco2 =>
              cases e4 : ixW ws (mkS (joinS ps)) with
              | none => rw [ix_none.1 e4] at e; cases e
              | some j =>
                rw [ix_some e4] at e
                have e5 := Option.some.inj e
                simp only
                rw [e5, hco2.1]
                simp
        by_cases h2 : dirAt l ps
        · rw [if_pos h2, if_pos (hdir.2 h2)]; exact ⟨h, rfl⟩
        rw [if_neg h2, if_neg (fun e => h2 (hdir.1 e))]
        have hp := par_rel hM hI h ps.length ps (Nat.le_refl _) (pref_cl hc)
        generalize parP l n ps.length ps = r at hp ⊢
        generalize parW (ups ps) ws n = w at hp ⊢
        rcases hp with ⟨e1, e2, hR, e4⟩ | ⟨e1, e2⟩
        · rw [if_pos e1, if_pos e2]
          have epp := pp_row hc d.f1 d.f2
          exact ⟨hR.ins (by rw [epp]; exact hc) (by rw [epp]) ⟨h1.symm ▸ rfl, hco.2.1, hco.2.2.1, hco.2.2.2⟩ hmk, e4⟩
        · rw [if_neg (by rw [e1]; decide), if_neg (by rw [e2]; decide)]
          exact ⟨h, rfl⟩
end
theorem put17_rel {t : T17} {more : Int} (hI : Inv t.1.1 t.1.2) (h : Rel t.1.1 t.2.1 more 1000) (hn : t.2.2 = t.1.2) (x : S104) : Rel (put17 more t x).1.1 (put17 more t x).2.1 more 1000 ∧ (put17 more t x).2.2 = (put17 more t x).1.2 := by
  unfold put17
  by_cases hs : skip17 x
  · rw [if_pos hs]; exact ⟨h, hn⟩
  rw [if_neg hs]
  have hs' := hs
  unfold skip17 at hs'
  simp only [not_or] at hs'
  have he : (cleanS x.f2.data.toList).2 = 0 := by simpa using hs'.1
  have hcl := clean_cl he (by omega)
  by_cases ht : x.f3.data.toList = []
  · rw [if_pos ht]
    by_cases h1 : x.f0 = 1
    · rw [if_pos h1]
      simp only
      rw [hn]
      exact add_rel (by omega) hI h hcl (nd := nd17 1 (x.f1 + more) x.f1) rfl rfl (by omega)
    rw [if_neg h1]
    by_cases h2 : x.f0 = 3 ∨ x.f0 = 4
    · rw [if_pos h2]
      simp only
      rw [hn]
      exact add_rel (by omega) hI h hcl (nd := nd17 x.f0 (x.f1 + more) 0) rfl rfl (by omega)
    · rw [if_neg h2]; exact ⟨h, hn⟩
  · rw [if_neg ht]
    by_cases h1 : (cleanS x.f3.data.toList).2 = 0
    · rw [if_pos h1]
      simp only
      rw [hn]
      exact link_rel (by omega) hI h hcl (clean_gd h1).good
    · rw [if_neg h1]; exact ⟨h, hn⟩
theorem planted17_rel (more : Int) (xs : List S104) : Rel (planted17 more xs).1.1 (planted17 more xs).2.1 more 1000 ∧ (planted17 more xs).2.2 = (planted17 more xs).1.2 := by
  have gen : ∀ (xs : List S104) (t : T17), Inv t.1.1 t.1.2 → Rel t.1.1 t.2.1 more 1000 → t.2.2 = t.1.2 → Rel (xs.foldl (put17 more) t).1.1 (xs.foldl (put17 more) t).2.1 more 1000 ∧ (xs.foldl (put17 more) t).2.2 = (xs.foldl (put17 more) t).1.2 := by
    intro xs
    induction xs with
    | nil => intro t _ h hn; exact ⟨h, hn⟩
    | cons x r ih =>
      intro t hI h hn
      have h1 := put17_rel hI h hn x
      exact ih _ (put17_ok hI more x).inv h1.1 h1.2
  exact gen xs (([], 0), ([], 0)) inv_nil (rel_nil more 1000) rfl
end Go.Proofs.YtolpamojbiipaaaDoor.Pure
