/- The document's merge, side by side with the program's. -/
import Derived.Test.YtolpamojbiipaaaDoorURel
import Derived.Test.YtolpamojbiipaaaDoorUMerge
namespace Go.Proofs.YtolpamojbiipaaaDoor.Pure
open Go.RowKit Go.Proofs.YtolpamojbiipaaaDoor.XA Go.Proofs.YtolpamojbiipaaaDoorW.PrintWords Go.Proofs.YtolpamojbiipaaaDoorW.PrintLast Go.Proofs.YtolpamojbiipaaaDoorW.PrintMore
set_option linter.unusedSimpArgs false
set_option linter.unusedVariables false

def mgW (o : Option S73) (x : S73) (nw more : Int) : S73 := match o with
  | some y => if x.f3 = true then y else ⟨x.f0, x.f1, x.f2 + more, x.f3, if x.f1 = 4 then y.f4 else x.f4 + nw⟩
  | none => ⟨x.f0, x.f1, x.f2 + more, x.f3, x.f4 + nw⟩
def badW (ws : List S73) (x : S73) : Bool := match ixW ws x.f0 with | some i => ((ws.getD i z73).f1 == 4) != (x.f1 == 4) | none => false
def stW (base : List S73) (nw more : Int) (out : List S73) (x : S73) : List S73 := match ixW base x.f0 with
  | some i => if x.f3 = true then out else out.set i (mgW (some (base.getD i z73)) x nw more)
  | none => out ++ [mgW none x nw more]
def ovW (ws : List S73) (nw : Int) (xs : List S73) (nx more : Int) : List S73 × Int × Int :=
  if xs.any (badW ws) = true then (ws, nw, 130) else (xs.foldl (stW ws nw more) ws, nw + nx, 0)
theorem ix_wR : ∀ {ws : List S73} {x : S73} {s : ByteArray} {i : Nat}, ixW ws s = some i → ixW (wR ws x) s = some i
  | y :: t, x, s, i, h => by
    rw [wR_cons]
    rw [ixW] at h
    by_cases e : y.f0.toList = x.f0.toList
    · rw [if_pos e, ixW, ← e]; exact h
    · rw [if_neg e, ixW]
      by_cases e2 : y.f0.toList = s.toList
      · rw [if_pos e2] at h ⊢; exact h
      · rw [if_neg e2] at h ⊢
        cases h3 : ixW t s with
        | none => rw [h3] at h; cases h
        | some j => rw [h3] at h; rw [ix_wR h3]; exact h
theorem st_is {base out : List S73} {x : S73} {nw more : Int} (h1 : ∀ s i, ixW base s = some i → ixW out s = some i) (h2 : lookW out x.f0 = lookW base x.f0) :
    stW base nw more out x = if (lookW base x.f0).isSome = true ∧ x.f3 = true then out else wR out (mgW (lookW base x.f0) x nw more) := by
  unfold stW
  cases e : ixW base x.f0 with
  | none =>
    have h3 : ixW out x.f0 = none := ix_none.2 (h2.trans (ix_none.1 e))
    rw [ix_none.1 e]
    simp only [Option.isSome_none, Bool.false_eq_true, false_and, if_false]
    unfold wR mgW
    simp only
    rw [h3]
  | some i =>
    rw [ix_some e]
    simp only [Option.isSome_some, true_and]
    by_cases hm : x.f3 = true
    · rw [if_pos hm, if_pos hm]
    · rw [if_neg hm, if_neg hm]
      have hf : (mgW (some (base.getD i z73)) x nw more).f0 = x.f0 := by unfold mgW; simp only; rw [if_neg hm]
      unfold wR
      rw [hf, h1 _ _ e]
theorem fold_look {base : List S73} {nw more : Int} : ∀ (xs out : List S73), (pathsW xs).Nodup → (pathsW out).Nodup → (∀ s i, ixW base s = some i → ixW out s = some i) → (∀ x ∈ xs, lookW out x.f0 = lookW base x.f0) →
    (∀ s, lookW (xs.foldl (stW base nw more) out) s = match lookW xs s with | none => lookW out s | some x => some (mgW (lookW base s) x nw more)) ∧ (pathsW (xs.foldl (stW base nw more) out)).Nodup ∧
    (∀ y ∈ xs.foldl (stW base nw more) out, y ∈ out ∨ ∃ x ∈ xs, ¬ ((lookW base x.f0).isSome = true ∧ x.f3 = true) ∧ y = mgW (lookW base x.f0) x nw more)
  | [], out, _, h2, _, _ => ⟨fun s => rfl, h2, fun y hy => .inl hy⟩
  | x :: r, out, h1, h2, h3, h4 => by
    have h1' := List.nodup_cons.1 (show ((x.f0.toList) :: pathsW r).Nodup from h1)
    have hx := h4 x List.mem_cons_self
    rw [List.foldl_cons, st_is h3 hx]
    have ne : ∀ z ∈ r, ¬ x.f0.toList = z.f0.toList := fun z hz e => h1'.1 (List.mem_map.2 ⟨z, hz, e.symm⟩)
    by_cases hc : (lookW base x.f0).isSome = true ∧ x.f3 = true
    · rw [if_pos hc]
      obtain ⟨i1, i2, i3⟩ := fold_look r out h1'.2 h2 h3 (fun z hz => h4 z (List.mem_cons_of_mem _ hz))
      refine ⟨fun s => ?_, i2, fun y hy => ?_⟩
      · rw [i1, lookW]
        by_cases e : x.f0.toList = s.toList
        · rw [if_pos e]
          have hn : lookW r s = none := lookW_none.2 (fun z hz e2 => ne z hz (e.trans e2.symm))
          rw [hn]
          simp only
          have es : s = x.f0 := by
            have h5 : s.data.toList = x.f0.data.toList := by rw [← toList_data, ← toList_data]; exact e.symm
            cases s with | mk d => cases hxx : x.f0 with | mk d2 => rw [hxx] at h5; simp only at h5; exact congrArg ByteArray.mk (Array.toList_inj.1 h5)
          rw [es, hx]
          obtain ⟨y, hy⟩ := Option.isSome_iff_exists.1 hc.1
          rw [hy]
          unfold mgW
          simp only
          rw [if_pos hc.2]
        · rw [if_neg e]
      · rcases i3 y hy with h | ⟨z, hz, h⟩
        · exact .inl h
        · exact .inr ⟨z, List.mem_cons_of_mem _ hz, h⟩
    · rw [if_neg hc]
      have hf : (mgW (lookW base x.f0) x nw more).f0 = x.f0 := by
        unfold mgW
        cases hb : lookW base x.f0 with
        | none => rfl
        | some y =>
          simp only
          rw [if_neg (fun hm => hc ⟨by rw [hb]; rfl, hm⟩)]
      have hlk := look_wR out (mgW (lookW base x.f0) x nw more)
      rw [hf] at hlk
      obtain ⟨i1, i2, i3⟩ := fold_look r (wR out (mgW (lookW base x.f0) x nw more)) h1'.2 (nodup_wR _ h2) (fun s i h => ix_wR (h3 s i h)) (fun z hz => by
        rw [hlk, if_neg (ne z hz)]
        exact h4 z (List.mem_cons_of_mem _ hz))
      refine ⟨fun s => ?_, i2, fun y hy => ?_⟩
      · rw [i1, lookW, hlk]
        by_cases e : x.f0.toList = s.toList
        · rw [if_pos e, if_pos e]
          have hn : lookW r s = none := lookW_none.2 (fun z hz e2 => ne z hz (e.trans e2.symm))
          rw [hn]
          simp only
          have es : s = x.f0 := by
            have h5 : s.data.toList = x.f0.data.toList := by rw [← toList_data, ← toList_data]; exact e.symm
            cases s with | mk d => cases hxx : x.f0 with | mk d2 => rw [hxx] at h5; simp only at h5; exact congrArg ByteArray.mk (Array.toList_inj.1 h5)
          rw [es]
        · rw [if_neg e, if_neg e]
      · rcases i3 y hy with h | ⟨z, hz, h⟩
        · rcases mem_wR h with rfl | h
          · exact .inr ⟨x, List.mem_cons_self, hc, rfl⟩
          · exact .inl h
        · exact .inr ⟨z, List.mem_cons_of_mem _ hz, h⟩
section
variable {a b t : List S44} {na nb : Int} {ws xs : List S73}
theorem Rel.row {l : List S44} {more M : Int} (h : Rel l ws more M) {y : S73} (hy : y ∈ ws) : ∃ r ∈ l, Cl (pp r) ∧ y.f0 = mkS (joinS (pp r)) ∧ Cor more r y := by
  obtain ⟨⟨ps, hc, hp⟩, _⟩ := h.clean y hy
  have := h.look ps hc
  rw [← hp, lookW_of h.nodup hy] at this
  generalize e : lookR l ps = o at this
  cases this with
  | @s r _ hco =>
    have hr := look_mem e
    refine ⟨r, hr.1, ?_, ?_, hco⟩
    · rw [hr.2]; exact hc
    · rw [hr.2]; exact hp
theorem Rel.thing {l : List S44} {n more M : Int} (hI : Inv l n) (h : Rel l ws more M) {r : S44} (hr : r ∈ l) : ∃ y, lookW ws r.f0 = some y ∧ Cor more r y := by
  have hc := hI.clean r hr
  have := h.look (pp r) hc.1
  rw [look_of hI.sorted hr, ← hc.2] at this
  generalize e : lookW ws r.f0 = o at this
  cases this with
  | s hco => exact ⟨_, rfl, hco⟩
theorem bad_is (ha : Inv a na) (hb : Inv b nb) {ma mb Ma Mb : Int} (hra : Rel a ws ma Ma) (hrb : Rel b xs mb Mb) : xs.any (badW ws) = clB a b := by
  have key : ∀ (r : S44) (x : S73), r ∈ b → Cor mb r x → x.f0 = r.f0 → badW ws x = badb (lookR a (pp r)) r := fun r x hr hco hf => by
    have hc := hb.clean r hr
    have := hra.look (pp r) hc.1
    rw [← hc.2, ← hf] at this
    unfold badW badb
    generalize e1 : lookR a (pp r) = o1 at this
    generalize e2 : lookW ws x.f0 = o2 at this
    cases this with
    | n => rw [ix_none.2 e2]
    | s hco2 =>
      cases e3 : ixW ws x.f0 with
      | none => rw [ix_none.1 e3] at e2; cases e2
      | some i =>
        rw [ix_some e3] at e2
        simp only
        rw [Option.some.inj e2, hco2.1, hco.1]
  rw [Bool.eq_iff_iff, List.any_eq_true]
  unfold clB
  rw [List.any_eq_true]
  constructor
  · rintro ⟨x, hx, h⟩
    obtain ⟨r, hr, hc, hf, hco⟩ := hrb.row hx
    exact ⟨r, hr, by rw [← key r x hr hco (hf.trans (hb.clean r hr).2.symm)]; exact h⟩
  · rintro ⟨r, hr, h⟩
    obtain ⟨x, hx, hco⟩ := hrb.thing hb hr
    have hm := lookW_mem hx
    have hf : x.f0 = r.f0 := by
      obtain ⟨r', hr', hc', hf', _⟩ := hrb.row hm.1
      have hc := hb.clean r hr
      rw [hf', hc.2]
      have : pp r' = pp r := join_eq hc'.good hc.1.good (by rw [← hf', ← hc.2]; exact hm.2)
      rw [this]
    exact ⟨x, hm.1, by rw [key r x hr hco hf]; exact h⟩
theorem over_rel (ha : Inv a na) (hb : Inv b nb) (hra : Rel a ws 0 1000) (hrb : Rel b xs 5000 1000) : Rel (overT a b na nb).1 (ovW ws na xs nb 5000).1 0 6000 ∧ (ovW ws na xs nb 5000).2.1 = (overT a b na nb).2.1 ∧ (ovW ws na xs nb 5000).2.2 = (overT a b na nb).2.2 := by
  have hbad := bad_is ha hb hra hrb
  unfold ovW
  rw [hbad]
  rcases over_split ha hb with ⟨t, ht, ok, hcl⟩ | ⟨ht, hcl⟩
  · rw [ht, hcl]
    simp only [Bool.false_eq_true, if_false]
    refine ⟨?_, trivial, trivial⟩
    obtain ⟨f1, f2, f3⟩ := fold_look (base := ws) (nw := na) (more := 5000) xs ws hrb.nodup hra.nodup (fun _ _ h => h) (fun _ _ => rfl)
    refine ⟨fun ps hp => ?_, f2, fun y hy => ?_⟩
    · rw [f1, ok.look]
      have h1 := hra.look ps hp
      have h2 := hrb.look ps hp
      generalize lookW xs (mkS (joinS ps)) = ox at h2
      generalize hob : lookR b ps = ob at h2
      cases h2 with
      | n => exact h1
      | @s r x hco =>
        unfold mgL
        simp only
        generalize lookW ws (mkS (joinS ps)) = ow at h1
        generalize hoa : lookR a ps = oa at h1
        refine .s ?_
        cases h1 with
        | n =>
          unfold mgR mgW Cor
          simp only
          exact ⟨hco.1, hco.2.1, by rw [hco.2.2.1], fun h => by have := hco.2.2.2 h; omega⟩
        | @s o y hco1 =>
          unfold mgR mgW
          simp only
          rw [hco.2.1]
          by_cases hm : r.f2.f9 = true
          · rw [if_pos hm, if_pos hm]; exact hco1
          · rw [if_neg hm, if_neg hm]
            unfold Cor
            simp only
            refine ⟨hco.1, trivial, ?_, fun h => by have := hco.2.2.2 h; omega⟩
            rw [hco.1, hco.2.2.1, hco1.2.2.1]
    · rcases f3 y hy with h | ⟨x, hx, hc, rfl⟩
      · have := hra.clean y h
        exact ⟨this.1, by omega, by omega⟩
      · have := hrb.clean x hx
        unfold mgW
        cases hl : lookW ws x.f0 with
        | none => exact ⟨this.1, by simp only; omega, by simp only; omega⟩
        | some o =>
          simp only
          rw [if_neg (fun hm => hc ⟨by rw [hl]; rfl, hm⟩)]
          exact ⟨this.1, by simp only; omega, by simp only; omega⟩
  · rw [ht, hcl]
    simp only [if_true]
    refine ⟨⟨hra.look, hra.nodup, fun y hy => ?_⟩, trivial, trivial⟩
    have := hra.clean y hy
    exact ⟨this.1, this.2.1, by omega⟩
end
end Go.Proofs.YtolpamojbiipaaaDoor.Pure
