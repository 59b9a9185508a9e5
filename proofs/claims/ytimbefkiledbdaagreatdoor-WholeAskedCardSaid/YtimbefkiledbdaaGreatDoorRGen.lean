/- Rows of structs of whatever kind, of the call's own, among own boxes: their cells, appended to, handed on. -/
import Derived.Test.YtimbefkiledbdaaGreatDoorEMemRow
namespace Go.Proofs.YtimbefkiledbdaaGreatDoor.Mem
open Go.RowKit Go.Proofs.YtimbefkiledbdaaGreatDoorW.PrintWords Go.Proofs.YtimbefkiledbdaaGreatDoorW.PrintLast Go.Proofs.YtimbefkiledbdaaGreatDoorW.PrintMore
set_option linter.unusedVariables false
set_option linter.unusedSimpArgs false

theorem Mem.perm {w0 W : World} {P : Nat → Prop} {B B' : List Bx} {S : World → Prop} (h : Mem w0 P W B S) (hp : B.Perm B') : Mem w0 P W B' S :=
  ⟨h.below, fun x hx => h.box x (hp.mem_iff.2 hx), (hp.map _).nodup_iff.1 h.apart, fun W' hW => h.keep W' (fun k hk hn hq => hW k hk (fun hm => hn ((hp.map _).mem_iff.2 hm)) hq)⟩
/-- A kind of structs whose cells are told. -/
structure Sx {α : Type} (d : Kd α) (f : α → List Value) : Prop where
  len : ∀ x, (f x).length = d.sz
  one : ∀ x, ∀ u ∈ f x, u.oneCell' = true
  mkK : ∀ w x, d.K w x (f x)
  opn : ∀ {w x cs}, d.K w x cs → cs = f x
def cellsX {α : Type} (f : α → List Value) (l : List α) : List Value := l.flatMap f
section
variable {α : Type} {d : Kd α} {f : α → List Value}
theorem cellsX_cons (x : α) (l : List α) : cellsX f (x :: l) = f x ++ cellsX f l := rfl
theorem cellsX_len (h : Sx d f) : ∀ l : List α, (cellsX f l).length = l.length * d.sz
  | [] => by simp [cellsX]
  | r :: l => by rw [cellsX_cons, List.length_append, cellsX_len h l, h.len, List.length_cons, Nat.add_mul, Nat.one_mul, Nat.add_comm]
theorem cellsX_app (a b : List α) : cellsX f (a ++ b) = cellsX f a ++ cellsX f b := by simp [cellsX]
theorem cellsX_one (h : Sx d f) : ∀ l : List α, ∀ u ∈ cellsX f l, u.oneCell' = true
  | [], u, hu => by simp [cellsX] at hu
  | r :: l, u, hu => by
    rw [cellsX_cons] at hu
    rcases List.mem_append.1 hu with hu | hu
    · exact h.one r u hu
    · exact cellsX_one h l u hu
theorem reps_X (h : Sx d f) {R : α → List Value → Prop} (hR : ∀ x, R x (f x)) (l : List α) : Reps R d.sz l (cellsX f l) := by
  have gen : ∀ (b a : List α), Reps R d.sz a (cellsX f a) → Reps R d.sz (a ++ b) (cellsX f (a ++ b)) := by
    intro b
    induction b with
    | nil => intro a ha; rw [List.append_nil]; exact ha
    | cons x t ih =>
      intro a ha
      have h1 : Reps R d.sz (a ++ [x]) (cellsX f (a ++ [x])) := by
        rw [cellsX_app]
        have := ha.snoc (hR x) (h.len x)
        simpa [cellsX] using this
      have := ih (a ++ [x]) h1
      simpa using this
  exact gen l [] (Reps.none _ _)
theorem reps_X_eq (h : Sx d f) {w : World} : ∀ {l : List α} {cs : List Value}, Reps (d.K w) d.sz l cs → cs = cellsX f l
  | [], cs, hr => List.eq_nil_of_length_eq_zero (by have := hr.1; simpa using this)
  | x :: l, cs, hr => by
    have h0 := h.opn (hr.2 0 x rfl)
    rw [Nat.zero_mul, List.drop_zero] at h0
    have hl : Reps (d.K w) d.sz l (cs.drop d.sz) := ⟨by rw [List.length_drop, hr.1, List.length_cons, Nat.add_mul, Nat.one_mul, Nat.add_sub_cancel], fun j p hj => by
      have := hr.2 (j + 1) p (by simpa using hj)
      rw [List.drop_drop]
      rwa [Nat.add_mul, Nat.one_mul, Nat.add_comm] at this⟩
    rw [cellsX_cons, ← reps_X_eq h hl, ← h0, List.take_append_drop]
theorem reads_X (h : Sx d f) {w : World} {ad : Addr} {l : List α} (hc : Kd.C d w (some ad) l.length l) : ∀ j u, (cellsX f l)[j]? = some u → w.cell? (ad.add j) = some u := by
  obtain ⟨inner, hr, hcc⟩ := ReadsRow.inner_ hc
  have e : inner = cellsX f l := reps_X_eq h hr
  subst e
  exact hcc
theorem cellsX_put (h : Sx d f) (l : List α) (sp : List Value) (i : Nat) (x : α) (hi : i < l.length) : (cellsX f l ++ sp).take (i * d.sz) ++ f x ++ (cellsX f l ++ sp).drop (i * d.sz + (f x).length) = cellsX f (l.set i x) ++ sp := by
  have e1 : cellsX f l = cellsX f (l.take i) ++ (f (l[i]) ++ cellsX f (l.drop (i + 1))) := by
    conv => lhs; rw [← List.take_append_drop i l, List.drop_eq_getElem_cons hi]
    rw [cellsX_app, cellsX_cons]
  have e2 : cellsX f (l.set i x) = cellsX f (l.take i) ++ (f x ++ cellsX f (l.drop (i + 1))) := by
    rw [List.set_eq_take_append_cons_drop, if_pos hi, cellsX_app, cellsX_cons]
  have hl : i * d.sz = (cellsX f (l.take i)).length := by rw [cellsX_len h, List.length_take, Nat.min_eq_left (by omega)]
  have e3 : cellsX f l ++ sp = cellsX f (l.take i) ++ (f (l[i]) ++ (cellsX f (l.drop (i + 1)) ++ sp)) := by rw [e1, List.append_assoc, List.append_assoc]
  have dl : ∀ (a r : List Value) (m : Nat), (a ++ r).drop (a.length + m) = r.drop m := fun a r m => by rw [← List.drop_drop, List.drop_left]
  rw [e3, e2, hl, dl, List.take_left, show (f x).length = (f l[i]).length by rw [h.len, h.len], List.drop_left]
  simp only [List.append_assoc]
variable {w0 W W' W1 w : World} {P : Nat → Prop} {B X : List Bx} {S : World → Prop} {l : List α} {e t : TypeId} {v : Value} {n m c size bytes : Nat} {xs news : List Value} {A : Option Addr}
theorem OwnB.row {base : Nat} (hO : OwnB e size v n xs X) (hb : ∀ x ∈ X, W.heap[x.1]? = some (.cells x.2.1.toArray x.2.2 (0, 0)) ∧ base ≤ x.1) : W.ownsRow base e size v n xs := by
  rcases hO with ⟨rfl, h0, hc, _⟩ | ⟨g, cap, sp, rfl, rfl, h1, h2, h3, h4⟩
  · rw [h0, hc]; exact World.ownsRow_nil _ _ _ _
  · have := hb _ (List.mem_singleton.2 rfl)
    exact ⟨h1, .inr ⟨g, cap, _, rfl, this.2, this.1, h3, h4, by simpa using h2, by rw [← h1]; simp⟩⟩
theorem own_trX (h : Sx d f) (hO : OwnB e d.sz v l.length (cellsX f l) X) (hb : ∀ x ∈ X, W.heap[x.1]? = some (.cells x.2.1.toArray x.2.2 (0, 0))) : ∃ A c, v = .slice A l.length c ∧ l.length ≤ c ∧ Kd.C d W A l.length l := by
  have hown := hO.row (W := W) (base := 0) (fun x hx => ⟨hb x hx, Nat.zero_le _⟩)
  obtain ⟨A, c, rfl, hrow⟩ := own_reads_row hown (reps_X h (fun x => h.mkK W x) l) rfl
  exact ⟨A, c, rfl, own_le hown, hrow⟩
/-- The own row, handed on: nobody writes it any more. -/
theorem handX (h : Sx d f) (HM : Mem w0 P W (B ++ X) S) (hO : OwnB e d.sz v l.length (cellsX f l) X) : ∃ A c, v = .slice A l.length c ∧ l.length ≤ c ∧ Mem w0 P W B (fun w => S w ∧ Kd.C d w A l.length l) := by
  have hb := fun x (hx : x ∈ X) => HM.box x (List.mem_append_right _ hx)
  obtain ⟨A, c, rfl, hc, _⟩ := own_trX h hO (fun x hx => (hb x hx).1)
  have hap := HM.apart
  rw [List.map_append, List.nodup_append] at hap
  refine ⟨A, c, rfl, hc, HM.below, fun x hx => HM.box x (List.mem_append_left _ hx), hap.1, fun W' hW => ⟨HM.keep W' (fun k hk hn hp => hW k hk (fun h => hn (by rw [List.map_append]; exact List.mem_append_left _ h)) hp), ?_⟩⟩
  obtain ⟨A2, c2, e, _, h2⟩ := own_trX (W := W') h hO (fun x hx => (hW x.1 (blk_lt (hb x hx).1) (fun h => hap.2.2 _ h _ (List.mem_map.2 ⟨x, hx, rfl⟩) rfl) (.inr (hb x hx).2)).trans (hb x hx).1)
  injection e with e1 e2 e3
  subst e1
  exact h2
/-- Where an append's second operand is read. -/
def From (W : World) (A : Option Addr) (m : Nat) (news : List Value) : Prop := (∃ ad, A = some ad ∧ ∀ j u, news[j]? = some u → W.cell? (ad.add j) = some u) ∨ (A = none ∧ m = 0)
theorem from_C (h : Sx d f) {ys : List α} (hc : Kd.C d W A ys.length ys) : From W A ys.length (cellsX f ys) := by
  cases A with
  | some ad => exact .inl ⟨ad, rfl, reads_X h hc⟩
  | none =>
    refine .inr ⟨rfl, ?_⟩
    rcases Nat.eq_zero_or_pos ys.length with h0 | h0
    · exact h0
    · obtain ⟨ad, h, _⟩ := hc.2.2 h0
      cases h
theorem append_run {Pr : Program} {ty : TypeId} {i0 : TypeInfo} {z : Value} (HM : Mem w0 P W (B ++ X) S) (ht : Pr.underlying t = some (.slice e)) (hi : Pr.info? e = some i0) (hz : i0.zero = some z)
    (hsize : i0.size = size) (hby : i0.bytes = bytes) (hzs : z.cells.size = size) (hsz : 0 < size) (hO : OwnB e size v n xs X)
    (hF : From W A m news) (hl : news.length = m * size) (h1 : ∀ u ∈ news, u.oneCell' = true)
    (h63 : n + m ≤ maxLen) (hbytes : (n + m) * bytes ≤ 140737488355328) :
    ∃ v' X' W1, (Builtin.append_ #[t, t] ty #[v, .slice A m c]).run Pr W = .ok v' W1 ∧ OwnB e size v' (n + m) (xs ++ news) X' ∧ Mem w0 P W1 (B ++ X') S := by
  have hown : W.ownsRow w0.heap.size e size v n xs := hO.row (fun x hx => HM.box x (List.mem_append_right _ hx))
  rcases hF with ⟨ad, rfl, hnews⟩ | ⟨rfl, rfl⟩
  · obtain ⟨v1, w1, hr, h2, h3, h4, h5⟩ := run_append_own_at (P := Pr) W w0.heap.size t ty e i0 z size bytes ht hi hz hsize hby hzs hsz v n xs hown ad m c news hl hnews h1 h63 hbytes HM.below.size
    refine ⟨v1, ?_⟩
    have hrow : ∀ k, v.ownBlock = some k → k ∈ X.map (·.1) := fun k hk => by
      rcases hO with ⟨rfl, _⟩ | ⟨g, cap, sp, rfl, rfl, _⟩
      · simp [Value.ownBlock] at hk
      · simp only [Value.ownBlock, Option.some.injEq] at hk
        simp [hk]
    rcases h2 with ⟨hlen, ⟨rfl, hn⟩ | ⟨g, cap, cur, rfl, hg, hh, hn, hc, hcs, htk⟩⟩
    · have hv := (h4.1 rfl)
      obtain ⟨rfl, rfl⟩ := hv
      have hn0 : n = 0 := by omega
      subst hn0
      have e1 : news = [] := List.eq_nil_of_length_eq_zero (by simpa using hl)
      have e2 : xs = [] := by
        rcases hO with ⟨_, _, h, _⟩ | ⟨g, cap, sp, h, _⟩
        · exact h
        · cases h
      have e3 : X = [] := by
        rcases hO with ⟨_, _, _, h⟩ | ⟨g, cap, sp, h, _⟩
        · exact h
        · cases h
      subst e1 e2 e3
      refine ⟨[], w1, hr, .inl ⟨rfl, rfl, rfl, rfl⟩, ?_⟩
      rw [List.append_nil] at HM ⊢
      exact HM.call ⟨h3.os, h3.tape, h3.output, h3.size, fun k hk => h3.block k hk (by simp [Value.ownBlock])⟩
    · have e1 : cur = (xs ++ news ++ cur.toList.drop ((n + m) * size)).toArray := by
        rw [← htk, List.take_append_drop]
      refine ⟨[(g, xs ++ news ++ cur.toList.drop ((n + m) * size), e)], w1, hr, .inr ⟨g, cap, cur.toList.drop ((n + m) * size), rfl, rfl, hlen, ?_, hn, hc⟩, HM.tail h3 hrow (hh.trans (congrArg (fun q => some (Obj.cells q e (0, 0))) e1)) ?_⟩
      · rw [← htk, List.take_append_drop]; simpa using hcs
      · rcases h5 with h5 | h5
        · exact .inl (hrow g (by rw [← h5]; rfl))
        · simp only [Value.ownBlock, Option.some.injEq] at h5
          exact .inr (by omega)
  · have e1 : news = [] := List.eq_nil_of_length_eq_zero (by simpa using hl)
    subst e1
    refine ⟨v, X, W, ?_, by rw [List.append_nil]; exact hO, HM⟩
    rcases hown.2 with ⟨rfl, hn⟩ | ⟨g, cap, cur, rfl, _, _, hnc, _⟩
    · simp [Builtin.append_, run_underlying ht, sizeOf, typeInfo, hi, Builtin.lenOf, Builtin.firstCells]
    · simp [Builtin.append_, run_underlying ht, sizeOf, typeInfo, hi, Builtin.lenOf, Builtin.firstCells, hnc, storeCells]
end
end Go.Proofs.YtimbefkiledbdaaGreatDoor.Mem
