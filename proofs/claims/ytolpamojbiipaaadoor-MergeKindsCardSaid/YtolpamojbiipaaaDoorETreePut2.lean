/- slices.Clone of rows and tree.Put, walked by hand. -/
import Derived.Test.YtolpamojbiipaaaDoorETreePut
import Derived.Lib.SliceRun
namespace Go.Proofs.YtolpamojbiipaaaDoor.XA
open Go.RowKit Go.Proofs.YtolpamojbiipaaaDoorW.PrintWords Go.Proofs.YtolpamojbiipaaaDoorW.PrintLast Go.Proofs.YtolpamojbiipaaaDoorW.PrintMore
set_option linter.unusedVariables false
set_option linter.unusedSimpArgs false

/-- Rows' cells, one behind the other. -/
def cellsL (l : List S44) : List Value := l.flatMap fun r => (rowC r).toList
theorem cellsL_cons (r : S44) (l : List S44) : cellsL (r :: l) = (rowC r).toList ++ cellsL l := rfl
theorem rowC_len (r : S44) : (rowC r).toList.length = 13 := rfl
theorem rowC_one (r : S44) : ∀ u ∈ (rowC r).toList, u.oneCell' = true := by
  intro u hu
  simp [rowC] at hu
  rcases hu with rfl | rfl | rfl | rfl | rfl | rfl | rfl | rfl | rfl | rfl | rfl | rfl | rfl <;> rfl
theorem cellsL_len : ∀ l : List S44, (cellsL l).length = l.length * 13
  | [] => rfl
  | r :: l => by rw [cellsL_cons, List.length_append, cellsL_len l, rowC_len, List.length_cons]; omega
theorem cellsL_one : ∀ l : List S44, ∀ u ∈ cellsL l, u.oneCell' = true
  | [], u, h => by simp [cellsL] at h
  | r :: l, u, h => by
    rw [cellsL_cons] at h
    rcases List.mem_append.1 h with h | h
    · exact rowC_one r u h
    · exact cellsL_one l u h
theorem cellsL_append (a b : List S44) : cellsL (a ++ b) = cellsL a ++ cellsL b := by simp [cellsL]
theorem cellsL_take : ∀ (l : List S44) (i : Nat), (cellsL l).take (i * 13) = cellsL (l.take i)
  | [], i => by simp [cellsL]
  | r :: l, 0 => by simp [cellsL]
  | r :: l, i + 1 => by
    rw [List.take_succ_cons, cellsL_cons, cellsL_cons, List.take_append, List.take_of_length_le (by rw [rowC_len]; omega), rowC_len, show (i + 1) * 13 - 13 = i * 13 by omega, cellsL_take l i]
theorem cellsL_drop : ∀ (l : List S44) (i : Nat), (cellsL l).drop (i * 13) = cellsL (l.drop i)
  | [], i => by simp [cellsL]
  | r :: l, 0 => by simp
  | r :: l, i + 1 => by
    rw [List.drop_succ_cons, cellsL_cons, List.drop_append, List.drop_eq_nil_of_le (by rw [rowC_len]; omega), List.nil_append, rowC_len, show (i + 1) * 13 - 13 = i * 13 by omega, cellsL_drop l i]
theorem cellsL_mid (l : List S44) (i : Nat) (hi : i < l.length) : ((cellsL l).drop (i * 13)).take 13 = (rowC (l[i])).toList := by
  rw [cellsL_drop, List.drop_eq_getElem_cons hi, cellsL_cons, List.take_append_of_le_length (by rw [rowC_len]; exact Nat.le_refl _), List.take_of_length_le (by rw [rowC_len]; exact Nat.le_refl _)]
theorem reps_cells {R : S44 → List Value → Prop} (hR : ∀ x, R x (rowC x).toList) (l : List S44) : Reps R 13 l (cellsL l) := by
  refine ⟨cellsL_len l, fun j p hj => ?_⟩
  obtain ⟨hl, rfl⟩ := List.getElem?_eq_some_iff.1 hj
  rw [cellsL_mid l j hl]
  exact hR _
theorem reps_eq {w : World} {l : List S44} {cs : List Value} (h : Reps (k44.K w) 13 l cs) : cs = cellsL l := by
  apply List.ext_getElem?
  intro j
  have hl := h.1
  rcases Nat.lt_or_ge j (l.length * 13) with hj | hj
  · have hq : j / 13 < l.length := by omega
    have h2 := k44_open (h.2 (j / 13) _ (List.getElem?_eq_getElem hq))
    have e1 : (cs.drop (j / 13 * 13)).take 13 = ((cellsL l).drop (j / 13 * 13)).take 13 := by rw [h2, cellsL_mid l _ hq]; rfl
    have e2 := congrArg (fun x : List Value => x[j % 13]?) e1
    simp only [List.getElem?_take, List.getElem?_drop, if_pos (show j % 13 < 13 by omega), show j / 13 * 13 + j % 13 = j by omega] at e2
    exact e2
  · rw [List.getElem?_eq_none (by omega), List.getElem?_eq_none (by rw [cellsL_len]; omega)]
/-- What is read has these cells. -/
theorem reads_cells {w : World} {ad : Addr} {l : List S44} (h : Kd.C k44 w (some ad) l.length l) : ∀ j u, (cellsL l)[j]? = some u → w.cell? (ad.add j) = some u := by
  obtain ⟨inner, hr, hc⟩ := ReadsRow.inner_ h
  have e : inner = cellsL l := reps_eq hr
  subst e
  exact hc
theorem own_reads {w : World} {base : Nat} {v : Value} {l : List S44} (h : w.ownsRow base 44 13 v l.length (cellsL l)) : Kd.R k44 44 w base (fun _ => True) v l :=
  ⟨fun _ _ => trivial, cellsL l, h, reps_cells (fun x => k44_mkM w base _ x) l⟩

theorem insert_calls (base : Nat) (v : Value) (l : List S44) (i : Nat) (r : S44) (vb : Nat) (w : World) (hown : w.ownsRow base 44 13 v l.length (cellsL l)) (hi : i ≤ l.length) (hn : l.length ≤ 1000000) (hvs : w.heap[vb]? = some (.cells (rowC r) 44 (0, 0))) (hne : some vb ≠ v.ownBlock) (hbase : base ≤ w.heap.size) :
    Calls Tryd.prog 68 #[v, .int .i64 (i : Int), .slice (some ⟨vb, 0, none⟩) 1 1] w fun e w' => ∃ v', e = .returned v' ∧ w'.ownsRow base 44 13 v' (l.take i ++ r :: l.drop i).length (cellsL (l.take i ++ r :: l.drop i)) ∧ w.grownBy w' v.ownBlock := by
  have hlen : (l.take i ++ r :: l.drop i).length = l.length + 1 := by rw [List.length_append, List.length_cons, List.length_take, List.length_drop]; omega
  have hcells : cellsL (l.take i ++ r :: l.drop i) = (cellsL l).take (i * 13) ++ (rowC r).toList ++ (cellsL l).drop (i * 13) := by
    rw [cellsL_append, cellsL_cons, cellsL_take, cellsL_drop, List.append_assoc]
  rw [hlen, hcells]
  have hvs' : w.heap[vb]? = some (.cells (rowC r).toList.toArray 44 (0, 0)) := by simpa using hvs
  rcases Nat.lt_or_ge i l.length with h | h
  · rcases hown.2 with ⟨_, h0⟩ | ⟨g, cap, cur, rfl, hb, hg, hnc, hcm, hs, ht⟩
    · omega
    · have hne' : vb ≠ g := fun e => hne (by rw [e]; rfl)
      rw [← ht]
      have hone : ∀ u ∈ cur.toList.take (l.length * 13), u.oneCell' = true := by rw [ht]; exact cellsL_one l
      by_cases hc : l.length + 1 ≤ cap
      · exact insert_room base g l.length cap i cur vb (rowC r).toList w hb hg hs hc hcm h hn hvs' (rowC_len r) hne' (rowC_one r) hone
      · exact insert_grow base g l.length cap i cur vb (rowC r).toList w hbase hg hs hnc (by omega) h hn hvs' (rowC_len r) (rowC_one r) hone
  · obtain rfl : i = l.length := by omega
    rw [← cellsL_len, List.take_length, List.drop_length, List.append_nil]
    exact insert_end base v l.length (cellsL l) vb (rowC r).toList w hown hn hvs' (rowC_len r) (rowC_one r) hbase

set_option maxHeartbeats 4000000 in
set_option maxRecDepth 100000 in
/-- A clone of rows. -/
theorem clone_calls (A : Option Addr) (c : Nat) (l : List S44) (w : World) (hr : Kd.C k44 w A l.length l) (hn : l.length ≤ 1000000) :
    Calls Tryd.prog 50 #[.slice A l.length c] w fun e w' => ∃ v', e = .returned v' ∧ w'.ownsRow w.heap.size 44 13 v' l.length (cellsL l) ∧ Below w.heap.size w w' := by
  have hu33 : Tryd.prog.underlying 33 = some (.slice 44) := by kernel_rfl
  obtain ⟨i0, hi0, hz0, hzs, hzb⟩ := info44r
  have q33 : ∀ (w : World) (a : Option Addr) (n c n' c' : Nat), (binOp .eql 33 (.slice a n c) (.slice none n' c')).run Tryd.prog w = .ok (.bool a.isNone) w := fun w a n c n' c' => Lib.run_eql_slice_nil w _ _ a n c n' c' hu33
  cases A with
  | none =>
    have h0 : l.length = 0 := by
      rcases Nat.eq_zero_or_pos l.length with h | h
      · exact h
      · obtain ⟨ad, e, _⟩ := hr.2.2 h
        cases e
    have hl : l = [] := List.length_eq_zero_iff.1 h0
    subst hl
    clear hr
    go_enter Tryd.func50, Tryd.ntmps50
    go_wp2
    go_ret
    exact ⟨_, rfl, World.ownsRow_nil _ _ _ _, Below.refl _ _⟩
  | some ad =>
    have HC := Aside0.mk (reads_cells hr)
    clear hr
    obtain ⟨b, o, sp⟩ := ad
    go_enter Tryd.func50, Tryd.ntmps50
    go_wp2_with (at_builtin; go_loud (refine wpList_append_own _ rfl _ _ 33 rfl w.heap.size 44 i0 (.agg zCells) 13 152 hu33 hi0 hz0 hzs hzb rfl (by decide) _ _ _ rfl (World.ownsRow_made w #[] 0 (Nat.le_refl _) (Nat.zero_le _) (by simp)) ⟨b, o, sp⟩ l.length c (cellsL l) rfl (cellsL_len l) ?qc2 (cellsL_one l) (by unfold maxLen; omega) (by omega) (by simp) ?_; (case qc2 => intro j u hj; exact Lib.cell?_alloc_some _ (HC.out j u hj)); intro v' w1 hown hgrow hnil))
    go_ret
    refine ⟨v', rfl, by simpa using hown, ((Below.refl _ w).alloc (Nat.le_refl _) _).grown hgrow (by simp) (by intro k hk; cases hk; exact Nat.le_refl _)⟩

/-- A struct stored among the elements of a row that is known whole. -/
theorem store_at_ev {P : Program} {ops : Array Oper} {rest : List Oper} {o : Oper} {a : Act} {W : World} {Q : Exit → Act → World → Prop} (hgd : o.guard = none) (ty : TypeId) (x y : Operand) (ho : o.op = .store ty x y)
    (g off : Nat) (cells : Array Value) (hx : a.eval x = .pointer (some ⟨g, off, none⟩)) (hy : a.eval y = .agg cells)
    (t : TypeId) (cur : Array Value) (hg : W.heap[g]? = some (.cells cur t (0, 0))) (hi : (P.info? ty).map (·.size) = some cells.size)
    (hfit : off + cells.size ≤ cur.size) (h1 : ∀ v ∈ cells.toList, v.oneCell' = true)
    (w : World) (hB : w.heap.size ≤ g) (hw : Below w.heap.size w W)
    (h : ∀ w1, w1.heap[g]? = some (.cells (cur.toList.take off ++ cells.toList ++ cur.toList.drop (off + cells.size)).toArray t (0, 0)) → (∀ k, k ≠ g → w1.heap[k]? = W.heap[k]?) → Below w.heap.size w w1 → wpList P ops Q rest (a.put o.dst undef) w1) : wpList P ops Q (o :: rest) a W := by
  refine wpList_plain hgd fun _ hK => ?_
  have hst := run_storeCells_at P g off t cells.toList 0 cur W hg (by simpa using hfit) h1
  have hrun : (storeVar ty ⟨g, off, none⟩ (.agg cells)).run P W = .ok () (W.setRow g (cur.toList.take off ++ cells.toList ++ cur.toList.drop (off + cells.size)).toArray) := by
    cases hq : P.info? ty with
    | none => simp [hq] at hi
    | some i =>
      have hs : i.size = cells.size := by simpa [hq] using hi
      simp only [Nat.add_zero] at hst
      simp [storeVar, sizeOf, typeInfo, hq, hs, Value.cells, hst]
  unfold Oper.wp execOp
  simp only [ho, hx, hy, Instr.storeAt, Instr.sureAddr, Sem.run_bind, Sem.run_pure, Result.andThen_ok, hrun]
  exact hK _ _ (h _ (setRow_heap _ _ _ _ _ _ hg) (fun k hk => setRow_other _ _ _ _ hk) (tree_below_row hB hw _))
theorem size35 : (Tryd.prog.info? 35).map (·.size) = some 2 := by kernel_rfl
theorem own_step {w w1 : World} {base n : Nat} {v : Value} {L : List Value} (h : w.ownsRow base 44 13 v n L) (hm : ∀ k, v.ownBlock = some k → w1.heap[k]? = w.heap[k]?) : w1.ownsRow base 44 13 v n L := own_move h hm
theorem own_slice {w : World} {base n : Nat} {v : Value} {L : List Value} (h : w.ownsRow base 44 13 v n L) : ∃ A c, v = .slice A n c := by
  rcases h.2 with ⟨rfl, rfl⟩ | ⟨g, cap, cur, rfl, _⟩
  · exact ⟨none, 0, rfl⟩
  · exact ⟨_, cap, rfl⟩
/-- The rows with one more, in the place of the one that it was. -/
def putL (l : List S44) (r : S44) : List S44 := if isAt l r.f0 = true then l.set (spot l r.f0) r else l.take (spot l r.f0) ++ r :: l.drop (spot l r.f0)
theorem set_lists (cur rowL : List Value) (sp n c : Nat) (hsp : sp < n) (hnc : n ≤ c) (hl : cur.length = c * 13) (hr : rowL.length = 13) :
    (cur.take (sp * 13) ++ rowL ++ cur.drop (sp * 13 + 13)).length = c * 13 ∧ (cur.take (sp * 13) ++ rowL ++ cur.drop (sp * 13 + 13)).take (n * 13) = (cur.take (n * 13)).take (sp * 13) ++ rowL ++ (cur.take (n * 13)).drop (sp * 13 + 13) := by
  have h1 : (sp + 1) * 13 ≤ n * 13 := Nat.mul_le_mul_right _ (by omega)
  have h2 : n * 13 ≤ c * 13 := Nat.mul_le_mul_right _ hnc
  refine ⟨by rw [List.length_append, List.length_append, List.length_take, List.length_drop]; omega, ?_⟩
  rw [List.take_take, Nat.min_eq_left (by omega), List.drop_take, List.take_append, List.take_of_length_le (by rw [List.length_append, List.length_take]; omega), List.length_append, List.length_take, hr]
  congr 2
  omega
theorem cellsL_set (l : List S44) (i : Nat) (r : S44) (hi : i < l.length) : cellsL (l.set i r) = (cellsL l).take (i * 13) ++ (rowC r).toList ++ (cellsL l).drop (i * 13 + 13) := by
  rw [List.set_eq_take_append_cons_drop, if_pos hi, cellsL_append, cellsL_cons, cellsL_take, show i * 13 + 13 = (i + 1) * 13 by omega, cellsL_drop, List.append_assoc]
set_option maxHeartbeats 4000000 in
set_option maxRecDepth 100000 in
theorem put_calls (A : Option Addr) (c : Nat) (l : List S44) (n : Int) (r : S44) (w : World) (hr : Kd.C k44 w A l.length l) (hc : l.length ≤ c) (hf : Fit l r.f0) (hn : l.length ≤ 1000000) :
    Calls Tryd.prog 52 #[.agg #[.slice A l.length c, .int .i64 n], .agg (rowC r)] w fun e w' => ∃ v0, e = .returned (.agg #[v0, .int .i64 n]) ∧ Kd.R k44 44 w' w.heap.size (fun _ => True) v0 (putL l r) ∧ Below w.heap.size w w' := by
  have hu44 := Tryd.underlying44
  have hu35 := Tryd.underlying35
  have HB := Aside0.mk (Below.refl w.heap.size w)
  have HCALL := Aside0.mk fun W hb => search_calls A c l r.f0 W (Kd.C_below hr hb) hc hf
  have HCL := Aside0.mk fun W hb => clone_calls A c l W (Kd.C_below hr hb) hn
  unfold putL
  by_cases hi : isAt l r.f0 = true
  · rw [if_pos hi]
    have hlt := isAt_lt hi
    rw [hi] at HCALL
    generalize hsp : spot l r.f0 = sp at HCALL hlt ⊢
    clear hsp hi
    go_enter Tryd.func52, Tryd.ntmps52
    go_upto_region 3 with (first
      | ((with_reducible refine gate_dst (N := 2) rfl ?_); refine box_event ?hg (N := 2) ?hd (cs := #[.slice A l.length c, .int .i64 n]) (t := 35) ?hr ?_; (case hd => rfl); (case hg => rfl); (case hr => first | (go_simp; done) | (go_simp; rfl)); intro g2 hg w2 hbox hb; have BA := Aside0.mk hbox; have GA := Aside0.mk (show w.heap.size ≤ g2 by rw [hg]; exact Nat.le_refl _); clear HB; have HB := Aside0.mk hb; clear hb hbox hg)
      | ((with_reducible refine gate_dst (N := 3) rfl ?_); refine box_event ?hg (N := 3) ?hd (cs := #[.string r.f0, .int .i64 r.f1, .int .i64 r.f2.f0, .int .i64 r.f2.f1, .int .i64 r.f2.f2, .int .i64 r.f2.f3, .int .i64 r.f2.f4, .string r.f2.f5, .string r.f2.f6, .string r.f2.f7, .slice none 0 0, .int .i64 r.f2.f8.f1, .bool r.f2.f9]) (t := 44) ?hr ?_; (case hd => rfl); (case hg => rfl); (case hr => first | (go_simp; done) | (go_simp; rfl)); intro g3 hg w3 hbox hb; have BR := Aside0.mk hbox; have GR := Aside0.mk (show w.heap.size ≤ g3 by rw [hg]; exact HB.out.size); have NAR := Aside0.mk (show g2 ≠ g3 by rw [hg]; exact Nat.ne_of_lt (blk_lt BA.out)); have n1 := Aside0.mk (HB.out.trans (hb.mono HB.out.size)); have n2 := Aside0.mk ((hb.block _ (blk_lt BA.out)).trans BA.out); clear HB BA hb hbox hg; have HB := n1; have BA := n2; clear n1 n2)
      | ((with_reducible refine gate_dst (N := 4) rfl ?_); refine box_event ?hg (N := 4) ?hd (cs := #[.slice none 0 0, .int .i64 0]) (t := 35) ?hr ?_; (case hd => rfl); (case hg => rfl); (case hr => first | (go_simp; done) | (go_simp; rfl)); intro g4 hg w4 hbox hb; have BO := Aside0.mk hbox; have GO := Aside0.mk (show w.heap.size ≤ g4 by rw [hg]; exact HB.out.size); have NAO := Aside0.mk (show g2 ≠ g4 by rw [hg]; exact Nat.ne_of_lt (blk_lt BA.out)); have NRO := Aside0.mk (show g3 ≠ g4 by rw [hg]; exact Nat.ne_of_lt (blk_lt BR.out)); have n1 := Aside0.mk (HB.out.trans (hb.mono HB.out.size)); have n2 := Aside0.mk ((hb.block _ (blk_lt BA.out)).trans BA.out); have n3 := Aside0.mk ((hb.block _ (blk_lt BR.out)).trans BR.out); clear HB BA BR hb hbox hg; have HB := n1; have BA := n2; have BR := n3; clear n1 n2 n3; have hcz0 : w4.cell? ⟨g2, 0, none⟩ = some (.slice A l.length c) := (blk_cell BA.out 0).trans rfl; have hcz3 : w4.cell? ⟨g3, 0, none⟩ = some (.string r.f0) := (blk_cell BR.out 0).trans rfl)
      | (go_at_call 47; (refine (HCALL.out _ HB.out).mono ?_); rintro e w5 ⟨rfl, hb⟩; clear hcz0 hcz3; have n1 := Aside0.mk (HB.out.trans (hb.mono HB.out.size)); have n2 := Aside0.mk ((hb.block _ (blk_lt BA.out)).trans BA.out); have n3 := Aside0.mk ((hb.block _ (blk_lt BR.out)).trans BR.out); have n4 := Aside0.mk ((hb.block _ (blk_lt BO.out)).trans BO.out); clear HB BA BR BO hb; have HB := n1; have BA := n2; have BR := n3; have BO := n4; clear n1 n2 n3 n4; have hcz0 : w5.cell? ⟨g2, 0, none⟩ = some (.slice A l.length c) := (blk_cell BA.out 0).trans rfl)
      | (go_at_call 50; (refine (HCL.out _ HB.out).mono ?_); rintro e w6 ⟨v6, rfl, hown, hb⟩; obtain ⟨A6, c6, rfl⟩ := own_slice hown; clear hcz0; have HV := Aside0.mk (own_weaken hown HB.out.size); have NVA := Aside0.mk (show some g2 ≠ (Value.slice A6 l.length c6).ownBlock from fun e => by have := (hown.lt g2 e.symm).1; have := blk_lt BA.out; omega); have NVR := Aside0.mk (show some g3 ≠ (Value.slice A6 l.length c6).ownBlock from fun e => by have := (hown.lt g3 e.symm).1; have := blk_lt BR.out; omega); have NVO := Aside0.mk (show some g4 ≠ (Value.slice A6 l.length c6).ownBlock from fun e => by have := (hown.lt g4 e.symm).1; have := blk_lt BO.out; omega); have GV := Aside0.mk (show ∀ k, (Value.slice A6 l.length c6).ownBlock = some k → w.heap.size ≤ k from fun k hk => Nat.le_trans HB.out.size (hown.lt k hk).1); have n1 := Aside0.mk (HB.out.trans (hb.mono HB.out.size)); have n2 := Aside0.mk ((hb.block _ (blk_lt BA.out)).trans BA.out); have n3 := Aside0.mk ((hb.block _ (blk_lt BR.out)).trans BR.out); have n4 := Aside0.mk ((hb.block _ (blk_lt BO.out)).trans BO.out); clear HB BA BR BO hb hown; have HB := n1; have BA := n2; have BR := n3; have BO := n4; clear n1 n2 n3 n4; have hcz0 : w6.cell? ⟨g2, 0, none⟩ = some (.slice A l.length c) := (blk_cell BA.out 0).trans rfl; have hfz0 := blk_frozen BA.out 0))
    obtain ⟨w7, hw7⟩ : ∃ w7, w7 = w6.setCell ⟨g2, 0, none⟩ (.slice A6 l.length c6) := ⟨_, rfl⟩
    rw [← hw7]
    have BA7 : w7.heap[g2]? = some (.cells #[.slice A6 l.length c6, .int .i64 n] 35 (0, 0)) := by rw [hw7]; exact blk_put (cs := #[.slice A l.length c, .int .i64 n]) BA.out 0 (.slice A6 l.length c6) rfl
    have BR7 : w7.heap[g3]? = some (.cells (rowC r) 44 (0, 0)) := by rw [hw7]; exact blk_far (p := ⟨g2, 0, none⟩) BR.out (fun e => NAR.out e.symm) _
    have BO7 : w7.heap[g4]? = some (.cells #[.slice none 0 0, .int .i64 0] 35 (0, 0)) := by rw [hw7]; exact blk_far (p := ⟨g2, 0, none⟩) BO.out (fun e => NAO.out e.symm) _
    have HB7 : Below w.heap.size w w7 := by rw [hw7]; exact below_set HB.out GA.out
    have HV7 := own_step (w1 := w7) HV.out (fun k hk => by rw [hw7]; exact Below.heap_setCell _ _ _ _ (fun e => NVA.out ((congrArg some (show k = g2 from e)).symm.trans hk.symm)))
    clear hw7 HV BA BR BO HB hcz0 hfz0
    obtain ⟨g, cap, cur, hsl, hb, hg, hnc, hcm, hs, ht⟩ : ∃ g cap cur, Value.slice A6 l.length c6 = .slice (some ⟨g, 0, none⟩) l.length cap ∧ w.heap.size ≤ g ∧ w7.heap[g]? = some (.cells cur 44 (0, 0)) ∧ l.length ≤ cap ∧ cap ≤ maxLen ∧ cur.size = cap * 13 ∧ cur.toList.take (l.length * 13) = cellsL l := by
      rcases HV7.2 with ⟨_, h0⟩ | ⟨g, cap, cur, e, h2, h3, h4, h5, h6, h7⟩
      · omega
      · exact ⟨g, cap, cur, e, GV.out g (by rw [e]; rfl), h3, h4, h5, h6, h7⟩
    injection hsl with hA6 _ hc6
    subst hA6 hc6
    have hlz : ((sp : Int) < (l.length : Int)) := by omega
    have hlen : (l.length : Int) ≤ 1000000 := by omega
    have hcz0 : w7.cell? ⟨g2, 0, none⟩ = some (.slice (some ⟨g, 0, none⟩) l.length c6) := (blk_cell BA7 0).trans rfl
    have BA := Aside0.mk BA7
    have BR := Aside0.mk BR7
    have BO := Aside0.mk BO7
    have HB := Aside0.mk HB7
    have HG := Aside0.mk hg
    have NGA : Aside0 (g2 ≠ g) := ⟨fun e => NVA.out (by rw [e]; rfl)⟩
    have NGO : Aside0 (g4 ≠ g) := ⟨fun e => NVO.out (by rw [e]; rfl)⟩
    have GG : Aside0 (w.heap.size ≤ g) := ⟨GV.out g rfl⟩
    have HFIT : Aside0 (sp * 13 + 13 ≤ cur.size) := ⟨by rw [hs]; have : (sp + 1) * 13 ≤ c6 * 13 := Nat.mul_le_mul_right _ (by omega); omega⟩
    have HT := Aside0.mk ht
    have HS := Aside0.mk hs
    clear BA7 BR7 BO7 HB7 HV7 hg hb ht hs NVA NVR NVO GV
    go_wp2_with (first
      | ((with_reducible refine wpList_load_row rfl 44 (.tmp 3) rfl g3 rfl 44 (rowC r) (0, 0) _ ?hg hu44 rfl ?hi ?_); (case hg => exact BR.out); (case hi => exact size44))
      | ((with_reducible refine store_at_ev rfl 44 (.tmp 24) (.tmp 23) rfl g (sp * 13) (rowC r) ?hx ?hy 44 cur ?hz ?hi ?hfit ?h1 w ?hB ?hw ?_); (case hx => first | rfl | (simp [Act.eval, Act.put, Addr.add_lit])); (case hy => rfl); (case hz => exact HG.out); (case hi => exact size44); (case hfit => exact HFIT.out); (case h1 => exact rowC_one r); (case hB => exact GG.out); (case hw => exact HB.out); intro w8 hs8 ho8 hb8; have n1 := Aside0.mk ((ho8 g2 NGA.out).trans BA.out); have n2 := Aside0.mk ((ho8 g4 NGO.out).trans BO.out); have HV8 := Aside0.mk hs8; clear hcz0 HG BA BO HB; have BA := n1; have BO := n2; have HB := Aside0.mk hb8; clear n1 n2 hs8 ho8 hb8)
      | ((with_reducible refine wpList_load_row rfl 35 (.tmp 2) rfl g2 rfl 35 #[.slice (some ⟨g, 0, none⟩) l.length c6, .int .i64 n] (0, 0) _ ?hg hu35 rfl ?hi ?_); (case hg => exact BA.out); (case hi => exact size35))
      | ((with_reducible refine store_ev rfl 35 (.tmp 4) (.tmp 32) rfl g4 #[.slice (some ⟨g, 0, none⟩) l.length c6, .int .i64 n] ?hx ?hy 35 #[.slice none 0 0, .int .i64 0] ?hz ?hi ?hold ?h1 w ?hB ?hw ?_); (case hx => rfl); (case hy => rfl); (case hz => exact BO.out); (case hi => exact size35); (case hold => rfl); (case h1 => simp [Value.oneCell']); (case hB => exact GO.out); (case hw => exact HB.out); intro w9 hs ho hb; have BO9 := Aside0.mk hs; have HV9 := Aside0.mk ((ho g (fun e => NGO.out e.symm)).trans HV8.out); have HB9 := Aside0.mk hb; clear hs ho hb))
    refine bodyPost_ret (results_cell_row rfl _ _ g4 35 #[.slice (some ⟨g, 0, none⟩) l.length c6, .int .i64 n] (0, 0) _ rfl BO9.out Tryd.underlying35 rfl (by kernel_rfl)) rfl ?_
    refine ⟨_, rfl, own_reads ?_, HB9.out⟩
    have hs := HS.out
    have hcl : cur.toList.length = c6 * 13 := by simpa using hs
    obtain ⟨hq1, hq2⟩ := set_lists cur.toList (rowC r).toList sp l.length c6 hlt hnc hcl (rowC_len r)
    refine ⟨by rw [cellsL_len], .inr ⟨g, c6, _, by rw [List.length_set], GG.out, HV9.out, by rw [List.length_set]; exact hnc, hcm, ?_, ?_⟩⟩
    · rw [List.size_toArray]; exact hq1
    · rw [List.length_set, cellsL_set l sp r hlt, ← HT.out]; exact hq2
  · rw [if_neg hi]
    rw [Bool.eq_false_iff.2 hi] at HCALL
    obtain ⟨sp, hspd⟩ : ∃ sp, spot l r.f0 = sp := ⟨_, rfl⟩
    rw [hspd] at HCALL ⊢
    clear hi
    have hsp := spot_le l r.f0
    rw [hspd] at hsp
    obtain ⟨L9, hL9⟩ : ∃ L9, L9 = l.take sp ++ r :: l.drop sp := ⟨_, rfl⟩
    rw [← hL9]
    have HINS : Aside0 (∀ (v : Value) (vb : Nat) (W : World), W.ownsRow w.heap.size 44 13 v l.length (cellsL l) → W.heap[vb]? = some (.cells (rowC r) 44 (0, 0)) → some vb ≠ v.ownBlock → w.heap.size ≤ W.heap.size → Calls Tryd.prog 68 #[v, .int .i64 (sp : Int), .slice (some ⟨vb, 0, none⟩) 1 1] W fun e w' => ∃ v', e = .returned v' ∧ w'.ownsRow w.heap.size 44 13 v' L9.length (cellsL L9) ∧ W.grownBy w' v.ownBlock) :=
      ⟨fun v vb W h1 h2 h3 h4 => by rw [hL9]; exact insert_calls w.heap.size v l sp r vb W h1 hsp hn h2 h3 h4⟩
    clear hL9
    go_enter Tryd.func52, Tryd.ntmps52
    go_upto_region 3 with (first
      | ((with_reducible refine gate_dst (N := 2) rfl ?_); refine box_event ?hg (N := 2) ?hd (cs := #[.slice A l.length c, .int .i64 n]) (t := 35) ?hr ?_; (case hd => rfl); (case hg => rfl); (case hr => first | (go_simp; done) | (go_simp; rfl)); intro g2 hg w2 hbox hb; have BA := Aside0.mk hbox; have GA := Aside0.mk (show w.heap.size ≤ g2 by rw [hg]; exact Nat.le_refl _); clear HB; have HB := Aside0.mk hb; clear hb hbox hg)
      | ((with_reducible refine gate_dst (N := 3) rfl ?_); refine box_event ?hg (N := 3) ?hd (cs := #[.string r.f0, .int .i64 r.f1, .int .i64 r.f2.f0, .int .i64 r.f2.f1, .int .i64 r.f2.f2, .int .i64 r.f2.f3, .int .i64 r.f2.f4, .string r.f2.f5, .string r.f2.f6, .string r.f2.f7, .slice none 0 0, .int .i64 r.f2.f8.f1, .bool r.f2.f9]) (t := 44) ?hr ?_; (case hd => rfl); (case hg => rfl); (case hr => first | (go_simp; done) | (go_simp; rfl)); intro g3 hg w3 hbox hb; have BR := Aside0.mk hbox; have GR := Aside0.mk (show w.heap.size ≤ g3 by rw [hg]; exact HB.out.size); have NAR := Aside0.mk (show g2 ≠ g3 by rw [hg]; exact Nat.ne_of_lt (blk_lt BA.out)); have n1 := Aside0.mk (HB.out.trans (hb.mono HB.out.size)); have n2 := Aside0.mk ((hb.block _ (blk_lt BA.out)).trans BA.out); clear HB BA hb hbox hg; have HB := n1; have BA := n2; clear n1 n2)
      | ((with_reducible refine gate_dst (N := 4) rfl ?_); refine box_event ?hg (N := 4) ?hd (cs := #[.slice none 0 0, .int .i64 0]) (t := 35) ?hr ?_; (case hd => rfl); (case hg => rfl); (case hr => first | (go_simp; done) | (go_simp; rfl)); intro g4 hg w4 hbox hb; have BO := Aside0.mk hbox; have GO := Aside0.mk (show w.heap.size ≤ g4 by rw [hg]; exact HB.out.size); have NAO := Aside0.mk (show g2 ≠ g4 by rw [hg]; exact Nat.ne_of_lt (blk_lt BA.out)); have NRO := Aside0.mk (show g3 ≠ g4 by rw [hg]; exact Nat.ne_of_lt (blk_lt BR.out)); have n1 := Aside0.mk (HB.out.trans (hb.mono HB.out.size)); have n2 := Aside0.mk ((hb.block _ (blk_lt BA.out)).trans BA.out); have n3 := Aside0.mk ((hb.block _ (blk_lt BR.out)).trans BR.out); clear HB BA BR hb hbox hg; have HB := n1; have BA := n2; have BR := n3; clear n1 n2 n3; have hcz0 : w4.cell? ⟨g2, 0, none⟩ = some (.slice A l.length c) := (blk_cell BA.out 0).trans rfl; have hcz3 : w4.cell? ⟨g3, 0, none⟩ = some (.string r.f0) := (blk_cell BR.out 0).trans rfl)
      | (go_at_call 47; (refine (HCALL.out _ HB.out).mono ?_); rintro e w5 ⟨rfl, hb⟩; clear hcz0 hcz3; have n1 := Aside0.mk (HB.out.trans (hb.mono HB.out.size)); have n2 := Aside0.mk ((hb.block _ (blk_lt BA.out)).trans BA.out); have n3 := Aside0.mk ((hb.block _ (blk_lt BR.out)).trans BR.out); have n4 := Aside0.mk ((hb.block _ (blk_lt BO.out)).trans BO.out); clear HB BA BR BO hb; have HB := n1; have BA := n2; have BR := n3; have BO := n4; clear n1 n2 n3 n4; have hcz0 : w5.cell? ⟨g2, 0, none⟩ = some (.slice A l.length c) := (blk_cell BA.out 0).trans rfl)
      | (go_at_call 50; (refine (HCL.out _ HB.out).mono ?_); rintro e w6 ⟨v6, rfl, hown, hb⟩; obtain ⟨A6, c6, rfl⟩ := own_slice hown; clear hcz0; have HV := Aside0.mk (own_weaken hown HB.out.size); have NVA := Aside0.mk (show some g2 ≠ (Value.slice A6 l.length c6).ownBlock from fun e => by have := (hown.lt g2 e.symm).1; have := blk_lt BA.out; omega); have NVR := Aside0.mk (show some g3 ≠ (Value.slice A6 l.length c6).ownBlock from fun e => by have := (hown.lt g3 e.symm).1; have := blk_lt BR.out; omega); have NVO := Aside0.mk (show some g4 ≠ (Value.slice A6 l.length c6).ownBlock from fun e => by have := (hown.lt g4 e.symm).1; have := blk_lt BO.out; omega); have GV := Aside0.mk (show ∀ k, (Value.slice A6 l.length c6).ownBlock = some k → w.heap.size ≤ k from fun k hk => Nat.le_trans HB.out.size (hown.lt k hk).1); have n1 := Aside0.mk (HB.out.trans (hb.mono HB.out.size)); have n2 := Aside0.mk ((hb.block _ (blk_lt BA.out)).trans BA.out); have n3 := Aside0.mk ((hb.block _ (blk_lt BR.out)).trans BR.out); have n4 := Aside0.mk ((hb.block _ (blk_lt BO.out)).trans BO.out); clear HB BA BR BO hb hown; have HB := n1; have BA := n2; have BR := n3; have BO := n4; clear n1 n2 n3 n4; have hcz0 : w6.cell? ⟨g2, 0, none⟩ = some (.slice A l.length c) := (blk_cell BA.out 0).trans rfl; have hfz0 := blk_frozen BA.out 0))
    obtain ⟨w7, hw7⟩ : ∃ w7, w7 = w6.setCell ⟨g2, 0, none⟩ (.slice A6 l.length c6) := ⟨_, rfl⟩
    rw [← hw7]
    have BA7 : w7.heap[g2]? = some (.cells #[.slice A6 l.length c6, .int .i64 n] 35 (0, 0)) := by rw [hw7]; exact blk_put (cs := #[.slice A l.length c, .int .i64 n]) BA.out 0 (.slice A6 l.length c6) rfl
    have BR7 : w7.heap[g3]? = some (.cells (rowC r) 44 (0, 0)) := by rw [hw7]; exact blk_far (p := ⟨g2, 0, none⟩) BR.out (fun e => NAR.out e.symm) _
    have BO7 : w7.heap[g4]? = some (.cells #[.slice none 0 0, .int .i64 0] 35 (0, 0)) := by rw [hw7]; exact blk_far (p := ⟨g2, 0, none⟩) BO.out (fun e => NAO.out e.symm) _
    have HB7 : Below w.heap.size w w7 := by rw [hw7]; exact below_set HB.out GA.out
    have HV7 := own_step (w1 := w7) HV.out (fun k hk => by rw [hw7]; exact Below.heap_setCell _ _ _ _ (fun e => NVA.out ((congrArg some (show k = g2 from e)).symm.trans hk.symm)))
    clear hw7 HV BA BR BO HB hcz0 hfz0
    have hlen : (l.length : Int) ≤ 1000000 := by omega
    have hcz0 : w7.cell? ⟨g2, 0, none⟩ = some (.slice A6 l.length c6) := (blk_cell BA7 0).trans rfl
    have HNE : ∀ {W : World} {v : Value} {n : Nat} {L : List Value} {g : Nat} {cs : Array Value}, W.ownsRow w.heap.size 44 13 v n L → W.heap[g]? = some (.cells cs 35 (0, 0)) → some g ≠ v.ownBlock := fun ho hg e => by
      obtain ⟨cells, hc⟩ := own_typed ho _ e.symm
      rw [hc] at hg
      injection hg with hg
      injection hg with _ hg
      exact absurd hg (by decide)
    have BA := Aside0.mk BA7
    have BR := Aside0.mk BR7
    have BO := Aside0.mk BO7
    have HB := Aside0.mk HB7
    have HV := Aside0.mk HV7
    clear BA7 BR7 BO7 HB7 HV7
    go_upto_region 6 with (first
      | ((with_reducible refine wpList_load_row rfl 44 (.tmp 3) rfl g3 rfl 44 #[.string r.f0, .int .i64 r.f1, .int .i64 r.f2.f0, .int .i64 r.f2.f1, .int .i64 r.f2.f2, .int .i64 r.f2.f3, .int .i64 r.f2.f4, .string r.f2.f5, .string r.f2.f6, .string r.f2.f7, .slice none 0 0, .int .i64 r.f2.f8.f1, .bool r.f2.f9] (0, 0) _ ?hg hu44 rfl ?hi ?_); (case hg => exact BR.out); (case hi => exact size44))
      | (go_at_call 68; (refine (HINS.out (.slice A6 l.length c6) w7.heap.size _ ?own ?hvs ?hne ?hbase).mono ?_); (case own => exact own_step HV.out (fun k hk => (below_alloc (Below.refl w7.heap.size w7) _).block k (HV.out.lt k hk).2)); (case hvs => exact heap_alloc_new w7 _); (case hne => exact fun e => by have := (HV.out.lt _ e.symm).2; omega); (case hbase => exact Nat.le_trans HB.out.size (below_alloc (Below.refl w7.heap.size w7) _).size); rintro e w9 ⟨v9, rfl, hown9, hg9⟩; obtain ⟨A9, c9, rfl⟩ := own_slice hown9; have n2 := Aside0.mk ((hg9.block g2 (Nat.lt_of_lt_of_le (blk_lt BA.out) (below_alloc (Below.refl w7.heap.size w7) _).size) NVA.out).trans (((below_alloc (Below.refl w7.heap.size w7) _).block g2 (blk_lt BA.out)).trans BA.out)); have n4 := Aside0.mk ((hg9.block g4 (Nat.lt_of_lt_of_le (blk_lt BO.out) (below_alloc (Below.refl w7.heap.size w7) _).size) NVO.out).trans (((below_alloc (Below.refl w7.heap.size w7) _).block g4 (blk_lt BO.out)).trans BO.out)); have n1 := Aside0.mk ((below_alloc HB.out _).grown hg9 (Nat.le_trans HB.out.size (below_alloc (Below.refl w7.heap.size w7) _).size) (fun k hk => GV.out k hk)); have NA9 := Aside0.mk (show some g2 ≠ (Value.slice A9 L9.length c9).ownBlock from HNE hown9 n2.out); have NO9 := Aside0.mk (show some g4 ≠ (Value.slice A9 L9.length c9).ownBlock from HNE hown9 n4.out); have HV9 := Aside0.mk hown9; clear hcz0 HB BA BO hg9 hown9; have HB := n1; have BA := n2; have BO := n4; clear n1 n2 n4; have hcz0 : w9.cell? ⟨g2, 0, none⟩ = some (.slice A6 l.length c6) := (blk_cell BA.out 0).trans rfl; have hfz0 := blk_frozen BA.out 0))
    obtain ⟨w10, hw10⟩ : ∃ w10, w10 = w9.setCell ⟨g2, 0, none⟩ (.slice A9 L9.length c9) := ⟨_, rfl⟩
    rw [← hw10]
    have BA10 : w10.heap[g2]? = some (.cells #[.slice A9 L9.length c9, .int .i64 n] 35 (0, 0)) := by rw [hw10]; exact blk_put (cs := #[.slice A6 l.length c6, .int .i64 n]) BA.out 0 (.slice A9 L9.length c9) rfl
    have BO10 : w10.heap[g4]? = some (.cells #[.slice none 0 0, .int .i64 0] 35 (0, 0)) := by rw [hw10]; exact blk_far (p := ⟨g2, 0, none⟩) BO.out (fun e => NAO.out e.symm) _
    have HB10 : Below w.heap.size w w10 := by rw [hw10]; exact below_set HB.out GA.out
    have HV10 := own_step (w1 := w10) HV9.out (fun k hk => by rw [hw10]; exact Below.heap_setCell _ _ _ _ (fun e => NA9.out ((congrArg some (show k = g2 from e)).symm.trans hk.symm)))
    clear hw10 HV HV9 BA BO HB hcz0 hfz0
    have BA := Aside0.mk BA10
    have BO := Aside0.mk BO10
    have HB := Aside0.mk HB10
    have HV := Aside0.mk HV10
    clear BA10 BO10 HB10 HV10
    go_wp2_with (first
      | ((with_reducible refine wpList_load_row rfl 35 (.tmp 2) rfl g2 rfl 35 #[.slice A9 L9.length c9, .int .i64 n] (0, 0) _ ?hg hu35 rfl ?hi ?_); (case hg => exact BA.out); (case hi => exact size35))
      | ((with_reducible refine store_ev rfl 35 (.tmp 4) (.tmp 32) rfl g4 #[.slice A9 L9.length c9, .int .i64 n] ?hx ?hy 35 #[.slice none 0 0, .int .i64 0] ?hz ?hi ?hold ?h1 w ?hB ?hw ?_); (case hx => rfl); (case hy => rfl); (case hz => exact BO.out); (case hi => exact size35); (case hold => rfl); (case h1 => simp [Value.oneCell']); (case hB => exact GO.out); (case hw => exact HB.out); intro w11 hs ho hb; have BO9 := Aside0.mk hs; have HV9 := Aside0.mk (own_step (w1 := w11) HV.out (fun k hk => ho k (fun e => NO9.out (by rw [hk, e])))); have HB9 := Aside0.mk hb; clear hs ho hb))
    refine bodyPost_ret (results_cell_row rfl _ _ g4 35 #[.slice A9 L9.length c9, .int .i64 n] (0, 0) _ rfl BO9.out Tryd.underlying35 rfl (by kernel_rfl)) rfl ?_
    exact ⟨_, rfl, own_reads HV9.out, HB9.out⟩

def tree_Tree_Put.f (l : List S44) (n : Int) (a0 : ByteArray) (a1 a2 a3 a4 a5 a6 : Int) (a7 a8 a9 : ByteArray) (a10 : Unit) (a11 : Int) (a12 : Bool) : Option (List S44 × Int) :=
  if Fit l a0 ∧ l.length ≤ 1000000 then some (putL l ⟨a0, a1, ⟨a2, a3, a4, a5, a6, a7, a8, a9, ⟨a10, a11⟩, a12⟩⟩, n) else none
theorem tree_Tree_Put.calls (A0_0 : Option Addr) (c0_0 : Nat) (l : List S44) (n : Int) (a0 : ByteArray) (a1 a2 a3 a4 a5 a6 : Int) (a7 a8 a9 : ByteArray) (a10 : Unit) (a11 : Int) (a12 : Bool) (r1 : List S44) (r2 : Int) (w : World) (hr : Kd.C k44 w A0_0 l.length l) (hc : l.length ≤ c0_0) (h : tree_Tree_Put.f l n a0 a1 a2 a3 a4 a5 a6 a7 a8 a9 a10 a11 a12 = some (r1, r2)) :
    Calls Tryd.prog 52 #[.agg #[.slice A0_0 l.length c0_0, .int .i64 n], .agg #[.string a0, .int .i64 a1, .int .i64 a2, .int .i64 a3, .int .i64 a4, .int .i64 a5, .int .i64 a6, .string a7, .string a8, .string a9, .slice none 0 0, .int .i64 a11, .bool a12]] w fun e w' => ∃ v0_ : Value, e = .returned (.agg #[v0_, .int .i64 r2]) ∧ Kd.R k44 44 w' w.heap.size (fun _ => True) v0_ r1 ∧ Below w.heap.size w w' := by
  unfold tree_Tree_Put.f at h
  split at h
  · rename_i hf
    obtain ⟨rfl, rfl⟩ := Prod.mk.inj (Option.some.inj h)
    exact put_calls A0_0 c0_0 l n ⟨a0, a1, ⟨a2, a3, a4, a5, a6, a7, a8, a9, ⟨a10, a11⟩, a12⟩⟩ w hr hc hf.1 hf.2
  · cases h
end Go.Proofs.YtolpamojbiipaaaDoor.XA
