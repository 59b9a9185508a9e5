/- A row of the call's own among own boxes: none yet, or a box; appended to. -/
import Derived.Test.YtimbefkiledbdaaGreatDoorEMem
import Derived.Maps.AppendAt
namespace Go.Proofs.YtimbefkiledbdaaGreatDoor.Mem
open Go.RowKit Go.Proofs.YtimbefkiledbdaaGreatDoorW.PrintWords Go.Proofs.YtimbefkiledbdaaGreatDoorW.PrintLast Go.Proofs.YtimbefkiledbdaaGreatDoorW.PrintMore
set_option linter.unusedVariables false
set_option linter.unusedSimpArgs false

/-- v is a row of n elements whose cells are xs; its box is X. -/
def OwnB (e : TypeId) (size : Nat) (v : Value) (n : Nat) (xs : List Value) (X : List Bx) : Prop :=
  (v = .slice none 0 0 ∧ n = 0 ∧ xs = [] ∧ X = []) ∨ ∃ g cap sp, v = .slice (some ⟨g, 0, none⟩) n cap ∧ X = [(g, xs ++ sp, e)] ∧ xs.length = n * size ∧ (xs ++ sp).length = cap * size ∧ n ≤ cap ∧ cap ≤ maxLen
theorem OwnB.nil (e : TypeId) (size : Nat) : OwnB e size (.slice none 0 0) 0 [] [] := .inl ⟨rfl, rfl, rfl, rfl⟩
variable {w0 W W' W1 w : World} {P : Nat → Prop} {B X L : List Bx} {S : World → Prop} {g n m c : Nat} {cs cs' xs news : List Value} {t e : TypeId} {size : Nat} {v : Value}
theorem OwnB.slice (h : OwnB e size v n xs X) : ∃ A c, v = .slice A n c := by
  rcases h with ⟨rfl, rfl, _⟩ | ⟨g, cap, sp, rfl, _⟩
  · exact ⟨none, 0, rfl⟩
  · exact ⟨_, cap, rfl⟩
theorem Mem.tail (h : Mem w0 P W (B ++ X) S) {row : Option Nat} (hg : W.grownBy W1 row) (hr : ∀ k, row = some k → k ∈ X.map (·.1)) (hc : W1.heap[g]? = some (.cells cs'.toArray t (0, 0))) (hat : g ∈ X.map (·.1) ∨ W.heap.size ≤ g) :
    Mem w0 P W1 (B ++ [(g, cs', t)]) S := by
  have hap := h.apart
  rw [List.map_append, List.nodup_append] at hap
  have hX : ∀ k, k ∈ X.map (·.1) → w0.heap.size ≤ k ∧ k < W.heap.size := fun k hk => by
    obtain ⟨x, hx, rfl⟩ := List.mem_map.1 hk
    have := h.box x (List.mem_append_right _ hx)
    exact ⟨this.2, blk_lt this.1⟩
  have hB : ∀ x ∈ B, x.1 < W.heap.size ∧ some x.1 ≠ row ∧ x.1 ≠ g := fun x hx => by
    have h1 := blk_lt (h.box x (List.mem_append_left _ hx)).1
    have hn : x.1 ∉ X.map (·.1) := fun hk => hap.2.2 _ (List.mem_map.2 ⟨x, hx, rfl⟩) _ hk rfl
    refine ⟨h1, fun e => hn (hr _ e.symm), fun e => ?_⟩
    rcases hat with hat | hat
    · exact hn (e ▸ hat)
    · omega
  refine ⟨h.below.grown hg h.below.size (fun k hk => (hX k (hr k hk)).1), fun x hx => ?_, ?_, fun W' hW => ?_⟩
  · rcases List.mem_append.1 hx with hx | hx
    · have h1 := h.box x (List.mem_append_left _ hx)
      exact ⟨(hg.block _ (hB x hx).1 (hB x hx).2.1).trans h1.1, h1.2⟩
    · rw [List.mem_singleton.1 hx]
      exact ⟨hc, by rcases hat with hat | hat; exact (hX _ hat).1; exact Nat.le_trans h.below.size hat⟩
  · rw [List.map_append, List.nodup_append]
    refine ⟨hap.1, by simp, fun a ha b hb e => ?_⟩
    obtain ⟨x, hx, rfl⟩ := List.mem_map.1 ha
    simp only [List.map_cons, List.map_nil, List.mem_singleton] at hb
    exact (hB x hx).2.2 (e.trans hb)
  · refine h.keep W' (fun k hk hn hp => ?_)
    rw [List.map_append, List.mem_append, not_or] at hn
    have hkg : k ≠ g := fun e => by
      rcases hat with hat | hat
      · exact hn.2 (e ▸ hat)
      · omega
    refine (hW k (Nat.lt_of_lt_of_le hk hg.size) ?_ hp).trans (hg.block k hk (fun e => hn.2 (hr k e.symm)))
    rw [List.map_append, List.mem_append, not_or]
    exact ⟨hn.1, by simpa using hkg⟩
section
variable {Pr : Program} {ops : Array Oper} {rest : List Oper} {o : Oper} {a : Act} {Q : Exit → Act → World → Prop} {s x : Operand} {i0 : TypeInfo} {z : Value} {bytes : Nat}
/-- An append to an own row that is the last of the boxes. -/
theorem append_tail (HM : Mem w0 P W L S) (hL : L = B ++ X) (hgd : o.guard = none)
    (ho : o.op = .call { callee := .builtin .append, args := #[s, x], argTypes := #[t, t] }) (ht : Pr.underlying t = some (.slice e)) (hi : Pr.info? e = some i0) (hz : i0.zero = some z)
    (hsize : i0.size = size) (hby : i0.bytes = bytes) (hzs : z.cells.size = size) (hsz : 0 < size) (hO : OwnB e size v n xs X) (hs : a.eval s = v)
    (ad : Addr) (hx : a.eval x = .slice (some ad) m c) (hl : news.length = m * size) (hnews : ∀ j u, news[j]? = some u → W.cell? (ad.add j) = some u) (h1 : ∀ u ∈ news, u.oneCell' = true) (hm : 0 < m)
    (h63 : n + m ≤ maxLen) (hbytes : (n + m) * bytes ≤ 140737488355328)
    (h : ∀ v' X' W1, OwnB e size v' (n + m) (xs ++ news) X' → Mem w0 P W1 (B ++ X') S → wpList Pr ops Q rest (a.put o.dst v') W1) : wpList Pr ops Q (o :: rest) a W := by
  subst hL
  have hown : W.ownsRow w0.heap.size e size v n xs := by
    rcases hO with ⟨rfl, rfl, rfl, _⟩ | ⟨g, cap, sp, rfl, rfl, h1, h2, h3, h4⟩
    · exact World.ownsRow_nil _ _ _ _
    · have hb := HM.box (g, xs ++ sp, e) (List.mem_append_right _ (List.mem_singleton.2 rfl))
      exact ⟨h1, .inr ⟨g, cap, _, rfl, hb.2, hb.1, h3, h4, by simpa using h2, by rw [← h1]; simp⟩⟩
  obtain ⟨v1, w1, hr, h2, h3, _, h5⟩ := run_append_own_at (P := Pr) W w0.heap.size t o.type e i0 z size bytes ht hi hz hsize hby hzs hsz v n xs hown ad m c news hl hnews h1 h63 hbytes HM.below.size
  refine wpList_plain hgd fun K hK => ?_
  unfold Oper.wp execOp
  simp only [ho, resolve, invoke, builtin, Sem.run_bind, Sem.run_pure, Result.andThen_ok, List.map_toArray, List.map_cons, List.map_nil, hs, hx, hr]
  have hrow : ∀ k, v.ownBlock = some k → k ∈ X.map (·.1) := fun k hk => by
    rcases hO with ⟨rfl, _⟩ | ⟨g, cap, sp, rfl, rfl, _⟩
    · simp [Value.ownBlock] at hk
    · simp only [Value.ownBlock, Option.some.injEq] at hk
      simp [hk]
  rcases h2 with ⟨hlen, ⟨_, hn⟩ | ⟨g, cap, cur, rfl, hg, hh, hn, hc, hcs, htk⟩⟩
  · omega
  have e1 : cur = (xs ++ news ++ cur.toList.drop ((n + m) * size)).toArray := by
    rw [← htk, List.take_append_drop]
  refine hK _ _ (h _ _ _ (.inr ⟨g, cap, cur.toList.drop ((n + m) * size), rfl, rfl, hlen, ?_, hn, hc⟩) (HM.tail h3 hrow (hh.trans (congrArg (fun q => some (Obj.cells q e (0, 0))) e1)) ?_))
  · rw [← htk, List.take_append_drop]; simpa using hcs
  · rcases h5 with h5 | h5
    · exact .inl (hrow g (by rw [← h5]; rfl))
    · simp only [Value.ownBlock, Option.some.injEq] at h5
      exact .inr (by omega)
end
end Go.Proofs.YtimbefkiledbdaaGreatDoor.Mem
