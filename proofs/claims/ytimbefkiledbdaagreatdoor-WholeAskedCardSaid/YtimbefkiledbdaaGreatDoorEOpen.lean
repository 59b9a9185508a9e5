/- What a reading of an argument says of the value: each kind opened (whole numbers, bools, strings, slices of whatever opens; structs and arrays of such are opened in their rows). -/
import Derived.Test.YtimbefkiledbdaaGreatDoorXA0
import Derived.ChangeArms
import Derived.OpenShut
namespace Go.Proofs.YtimbefkiledbdaaGreatDoor.Open
open Go.RowKit Go.Proofs.YtimbefkiledbdaaGreatDoorW.PrintWords Go.Proofs.YtimbefkiledbdaaGreatDoorW.PrintLast Go.Proofs.YtimbefkiledbdaaGreatDoorW.PrintMore
set_option linter.unusedVariables false
set_option linter.unusedSimpArgs false

/-- Whatever reads as data of this type is a value of this kind. -/
structure Opens (P : Program) (t : TypeId) {α : Type} (d : Kd α) (wf : α → Prop) : Prop where
  size : P.cellsOf t = d.sz
  out : ∀ (H : Type) (enc : TypeId × Value → H) (w : World) (fuel : Nat) (cs : List Value) (y : DataW H × List MemPlace), DataW.trod enc P w 0 (fun _ => true) true fuel t cs = some y → ∃ x, d.K w x cs ∧ wf x

theorem opens_int {P : Program} {t : TypeId} {k : IntKind} (hu : P.underlying t = some (.int k)) (hc : P.cellsOf t = 1) : Opens P t (Kd.int k) (fun x => (Lit.int k x).wf = true) :=
  ⟨hc, fun H enc w fuel cs y h => by
    obtain ⟨n, rfl, _, hw⟩ := DataW.trod_int hu h
    exact ⟨n, rfl, hw⟩⟩
theorem opens_bool {P : Program} {t : TypeId} (hu : P.underlying t = some .bool) (hc : P.cellsOf t = 1) : Opens P t Kd.bool (fun _ => True) :=
  ⟨hc, fun H enc w fuel cs y h => by
    obtain ⟨b, rfl, _⟩ := DataW.trod_bool hu h
    exact ⟨b, rfl, trivial⟩⟩
theorem opens_string {P : Program} {t : TypeId} (hu : P.underlying t = some .string) (hc : P.cellsOf t = 1) : Opens P t Kd.string (fun s => s.size ≤ 9223372036854775807) :=
  ⟨hc, fun H enc w fuel cs y h => by
    obtain ⟨s, rfl, _, hs⟩ := DataW.trod_string hu h
    exact ⟨s, rfl, hs⟩⟩

theorem mapM_some_map {α β : Type} {f : α → Option β} : ∀ {l : List α} {r : List β}, l.mapM f = some r → ∀ (i : Nat) (x : α), l[i]? = some x → ∃ y, f x = some y ∧ r[i]? = some y := by
  intro l
  induction l with
  | nil => intro r _ i x hx; simp at hx
  | cons a l ih =>
    intro r hr i x hx
    rw [List.mapM_cons] at hr
    simp only [Option.bind_eq_bind, Option.bind_eq_some_iff, Option.pure_def, Option.some.injEq] at hr
    obtain ⟨b, hb, bs, hbs, rfl⟩ := hr
    cases i with
    | zero => simp at hx; subst hx; exact ⟨b, hb, rfl⟩
    | succ i => simp at hx; obtain ⟨y, h1, h2⟩ := ih hbs i x hx; exact ⟨y, h1, by simpa using h2⟩
theorem cells_read {w : World} {base : Nat} {a : Addr} {n : Nat} {cs : List Value} (h : w.cells? base a n = some cs) : ∀ (i : Nat) (u : Value), cs[i]? = some u → i < n → w.cell? (a.add i) = some u := by
  unfold World.cells? at h
  split at h
  · intro i u hu hi
    obtain ⟨y, h1, h2⟩ := mapM_some_map h i i (by simp [hi])
    rw [hu] at h2
    injection h2 with h2
    subst h2
    exact h1
  · cases h
theorem add_add (a : Addr) (i j : Nat) : (a.add i).add j = a.add (i + j) := by
  by_cases hi : i = 0 <;> by_cases hj : j = 0 <;> simp [Addr.add, hi, hj, Nat.add_assoc]

/-- Many, one behind the other. -/
theorem choose_list {α β : Type} {R : β → α → Prop} : ∀ (l : List β), (∀ (i : Nat) (y : β), l[i]? = some y → ∃ x, R y x) → ∃ xs : List α, xs.length = l.length ∧ ∀ (i : Nat) (y : β) (x : α), l[i]? = some y → xs[i]? = some x → R y x
  | [], _ => ⟨[], rfl, fun i y x h => by simp at h⟩
  | b :: l, h => by
    obtain ⟨x, hx⟩ := h 0 b rfl
    obtain ⟨xs, hl, hxs⟩ := choose_list l (fun i y hy => h (i + 1) y (by simpa using hy))
    refine ⟨x :: xs, by simp [hl], fun i y z hy hz => ?_⟩
    cases i with
    | zero => simp at hy hz; subst hy; subst hz; exact hx
    | succ i => exact hxs i y z (by simpa using hy) (by simpa using hz)

theorem opens_slice {P : Program} {t e : TypeId} {α : Type} {d : Kd α} {wf : α → Prop} (hu : P.underlying t = some (.slice e)) (hc : P.cellsOf t = 1) (he : Opens P e d wf) :
    Opens P t (Kd.slice e d) (fun xs => xs.length ≤ 9223372036854775807 ∧ ∀ x ∈ xs, wf x) :=
  ⟨hc, fun H enc w fuel cs y h => by
    rcases DataW.trod_slice hu h with ⟨rfl, _⟩ | ⟨a, len, cap, elems, rest, n, _, rfl, _, _, hl, hm, hlen, hel, _, _⟩
    · exact ⟨[], ⟨none, 0, rfl, Nat.le_refl _, rfl, Nat.zero_le _, fun h => absurd h (Nat.lt_irrefl _)⟩, Nat.zero_le _, fun x hx => by cases hx⟩
    · have hmax : maxLen = 9223372036854775807 := rfl
      have each : ∀ (i y : Nat), (List.range len)[i]? = some y → ∃ x : α, y = i ∧ ∃ c, c.length = d.sz ∧ d.K w x c ∧ wf x ∧ ∀ (j : Nat) (u : Value), c[j]? = some u → w.cell? (a.add (i * d.sz + j)) = some u := by
        intro i y hy
        have hi : i < len := by
          have := (List.getElem?_eq_some_iff.1 hy).1
          simpa using this
        have hyi : y = i := by simpa [hi] using hy.symm
        have h1 := hel i hi
        have h2 : ∃ z, elems[i]? = some z := ⟨_, List.getElem?_eq_getElem (by omega)⟩
        obtain ⟨z, hz⟩ := h2
        rw [hz, Option.bind_eq_some_iff] at h1
        obtain ⟨c, hc1, hc2⟩ := h1
        obtain ⟨x, hK, hw⟩ := he.out H enc w n c z hc2
        have hcl := d.K_len hK
        refine ⟨x, hyi, c, hcl, hK, hw, fun j u hu => ?_⟩
        have hj : j < d.sz := by
          have := (List.getElem?_eq_some_iff.1 hu).1
          omega
        have := cells_read hc1 j u hu (by rw [he.size]; exact hj)
        rw [add_add, he.size] at this
        exact this
      have each' : ∀ (i y : Nat), (List.range len)[i]? = some y → ∃ x : α, ∃ c, c.length = d.sz ∧ d.K w x c ∧ wf x ∧ ∀ (j : Nat) (u : Value), c[j]? = some u → w.cell? (a.add (y * d.sz + j)) = some u := fun i y hy => by
        obtain ⟨x, e, h⟩ := each i y hy
        subst e
        exact ⟨x, h⟩
      obtain ⟨xs, hxl, hxs⟩ := choose_list (R := fun y x => ∃ c, c.length = d.sz ∧ d.K w x c ∧ wf x ∧ ∀ (j : Nat) (u : Value), c[j]? = some u → w.cell? (a.add (y * d.sz + j)) = some u) (List.range len) each'
      have hxl' : xs.length = len := by simpa using hxl
      have at_ : ∀ (i : Nat) (x : α), xs[i]? = some x → ∃ c, c.length = d.sz ∧ d.K w x c ∧ wf x ∧ ∀ (j : Nat) (u : Value), c[j]? = some u → w.cell? (a.add (i * d.sz + j)) = some u := fun i x hx => by
        have hi : i < len := by
          have := (List.getElem?_eq_some_iff.1 hx).1
          omega
        exact hxs i i x (by simp [hi]) hx
      subst hxl'
      refine ⟨xs, ⟨some a, cap, rfl, hl, rfl, by omega, fun _ => ⟨a, rfl, fun j p hj => ?_⟩⟩, by omega, fun x hx => ?_⟩
      · obtain ⟨c, h1, h2, _, h3⟩ := at_ j p hj
        exact ⟨c, h1, h2, h3⟩
      · obtain ⟨i, hi⟩ := List.getElem?_of_mem hx
        obtain ⟨c, _, _, h3, _⟩ := at_ i x hi
        exact h3⟩

/-- A field of one cell out of a struct's reading. -/
theorem field_one {H : Type} {enc : TypeId × Value → H} {P : Program} {w : World} {n : Nat} {t : TypeId} {cs : List Value} {ys : List (DataW H × List MemPlace)} {o i m : Nat} {u : Value}
    (h : DataW.trod enc P w 0 (fun _ => true) true n t ((cs.drop o).take (P.cellsOf t)) = ys[i]?) (hl : ys.length = m) (hi : i < m) (hc : P.cellsOf t = 1) (hu : cs[o]? = some u) : ∃ y, DataW.trod enc P w 0 (fun _ => true) true n t [u] = some y := by
  rw [hc] at h
  have e : (cs.drop o).take 1 = [u] := by
    have : (cs.drop o)[0]? = some u := by rw [List.getElem?_drop]; simpa using hu
    cases hd : cs.drop o with
    | nil => rw [hd] at this; simp at this
    | cons c l => rw [hd] at this; simp at this; rw [this]; rfl
  rw [e] at h
  exact ⟨_, h.trans (List.getElem?_eq_getElem (by omega))⟩

/-- A slice argument, opened. -/
theorem open_rows {H : Type} {enc : TypeId × Value → H} {P : Program} {w : World} {t e : TypeId} {α : Type} {d : Kd α} {wf : α → Prop} {a : Option Addr} {len cap : Nat} {x : DataW H} {p : List MemPlace} (hu : P.underlying t = some (.slice e)) (hc : P.cellsOf t = 1) (he : Opens P e d wf)
    (h : DataW.Trod enc P w 0 (fun _ => true) true t (.slice a len cap) x p) : ∃ l : List α, l.length = len ∧ len ≤ cap ∧ d.C w a l.length l ∧ l.length ≤ 9223372036854775807 ∧ ∀ x ∈ l, wf x := by
  obtain ⟨fuel, hf⟩ := h
  obtain ⟨l, ⟨A, c, hcs, hl, hC⟩, hm, hw⟩ := (opens_slice hu hc he).out H enc w fuel _ _ hf
  simp only [Value.cells, List.cons.injEq, and_true] at hcs
  injection hcs with h1 h2 h3
  subst h1 h2 h3
  exact ⟨l, rfl, hl, hC, hm, hw⟩
/-- A struct argument, or an array, opened. -/
theorem open_whole {H : Type} {enc : TypeId × Value → H} {P : Program} {w : World} {t : TypeId} {α : Type} {d : Kd α} {wf : α → Prop} {cs : Array Value} {x : DataW H} {p : List MemPlace} (he : Opens P t d wf)
    (h : DataW.Trod enc P w 0 (fun _ => true) true t (.agg cs) x p) : ∃ z : α, d.K w z cs.toList ∧ wf z := by
  obtain ⟨fuel, hf⟩ := h
  exact he.out H enc w fuel _ _ hf
theorem okWide_array {P : Program} {w : World} {r : Reach} {base : Nat} {t : TypeId} {n : Nat} {e : TypeId} {v : Value} (ht : P.underlying t = some (.array n e)) (h : Value.okWide P w r base t v) : ∃ cs, v = .agg cs ∧ cs.size = P.cellsOf t := by
  simp only [Value.okWide, ht] at h
  obtain ⟨cs, h1, h2, _⟩ := h
  exact ⟨cs, h1, h2⟩
end Go.Proofs.YtimbefkiledbdaaGreatDoor.Open
