/- slices.Insert of one row among rows of the call's own, and tree.Put, walked by hand. -/
import Derived.Test.YtolpamojbiipaaaDoorETree
import Derived.Shelf.RegionOpenPlain
import Derived.Lib.AppendZerosOnto
import Derived.Lib.Overlaps
import Derived.Laws.Externs
import Derived.Laws.CopyRow
import Derived.Lib.Walk
namespace Go.Proofs.YtolpamojbiipaaaDoor.XA
open Go.RowKit Go.Proofs.YtolpamojbiipaaaDoorW.PrintWords Go.Proofs.YtolpamojbiipaaaDoorW.PrintLast Go.Proofs.YtolpamojbiipaaaDoorW.PrintMore
set_option linter.unusedVariables false
set_option linter.unusedSimpArgs false

/-- copy(d, s) at elements of whatever size, d in a row that is known whole. -/
theorem run_copy_rowK {P : Program} (w : World) (dT sT ty elem : TypeId) (size g o dLen dCap : Nat) (a : Addr) (sLen sCap : Nat) (cur : Array Value) (t : TypeId) (cs : List Value)
    (hu : P.underlying dT = some (.slice elem)) (hs : (P.info? elem).map (·.size) = some size)
    (hg : w.heap[g]? = some (.cells cur t (0, 0))) (hn : cs.length = Nat.min sLen dLen * size)
    (hsrc : ∀ j v, cs[j]? = some v → w.cell? (a.add j) = some v) (hfit : o + cs.length ≤ cur.size) (h1 : ∀ v ∈ cs, v.oneCell' = true) :
    (Builtin.copy_ #[dT, sT] ty #[.slice (some ⟨g, o, none⟩) dLen dCap, .slice (some a) sLen sCap]).run P w =
      .ok (goInt (Nat.min sLen dLen)) (w.setRow g (cur.toList.take o ++ cs ++ cur.toList.drop (o + cs.length)).toArray) := by
  have hl := run_loadCells_list (P := P) w a cs hsrc
  have hst := run_storeCells_at P g o t cs 0 cur w hg (by simpa using hfit) h1
  cases hq : P.info? elem with
  | none => simp [hq] at hs
  | some i =>
    have hi : i.size = size := by simpa [hq] using hs
    simp [Builtin.copy_, run_underlying hu, Builtin.lenOf, Builtin.firstCells, sizeOf, typeInfo, hq, hi, ← hn, hl, hst]
theorem wpList_copy_runK (w : World) {P : Program} {ops : Array Oper} {rest : List Oper} {o : Oper} {a : Act} {Q : Exit → Act → World → Prop} (hgd : o.guard = none) (d s : Operand) (t t' : TypeId)
    (ho : o.op = .call { callee := .builtin .copy, args := #[d, s], argTypes := #[t, t'] }) (v u : Value) (hd : a.eval d = v) (hs : a.eval s = u) {v' : Value} {w' : World}
    (hr : (Builtin.copy_ #[t, t'] o.type #[v, u]).run P w = .ok v' w') (h : wpList P ops Q rest (a.put o.dst v') w') : wpList P ops Q (o :: rest) a w := by
  refine wpList_plain hgd fun _ hK => ?_
  unfold Oper.wp execOp
  simp only [ho, resolve, invoke, builtin, Sem.run_bind, Sem.run_pure, Result.andThen_ok, List.map_toArray, List.map_cons, List.map_nil, hd, hs, hr]
  exact hK _ _ h
theorem step_copy_runK {P : Program} {ops : Array Oper} {o : Oper} {a : Act} {w : World} {K : Act → World → Prop} {Q : Exit → Act → World → Prop} {E : Prop}
    (hg : o.guard = none) (d x : Operand) (dT sT : TypeId) (hop : o.op = Op.call { callee := Callee.builtin Builtin.copy, args := #[d, x], argTypes := #[dT, sT] })
    (v u : Value) (hd : a.eval d = v) (hx : a.eval x = u) {v' : Value} {w' : World} (hr : (Builtin.copy_ #[dT, sT] o.type #[v, u]).run P w = .ok v' w') (hK : K (a.put o.dst v') w') :
    if Region.wanted o (yielded ops a.tmps) = true then Oper.wp P o a w K Q else E := by
  have hw : Region.wanted o (yielded ops a.tmps) = true := by simp [Region.wanted, hg]
  rw [if_pos hw]
  unfold Oper.wp
  simp [execOp, hop, resolve, invoke, builtin, hd, hx, hr, Result.andThen]
  exact hK
theorem info44r : ∃ i0 : TypeInfo, Tryd.prog.info? 44 = some i0 ∧ i0.zero = some (.agg zCells) ∧ i0.size = 13 ∧ i0.bytes = 152 := by
  have h : (Tryd.prog.info? 44).map (fun i => (i.zero, i.size, i.bytes)) = some (some (.agg zCells), 13, 152) := by kernel_rfl
  exact info_parts h
theorem cut33 (W : World) (A : Option Addr) (n c l : Nat) (hl : l ≤ n) : (Instr.slice 33 (.slice A n c) (some (.int .i64 (l : Int))) none none).run Tryd.prog W = .ok (sliced A l n c 13) W := by
  have he : Tryd.prog.underlying 33 = some (.slice (Tryd.prog.elem 33)) := by kernel_rfl
  rw [run_slice_l W 33 A n c he .i64 l (by omega) (by omega)]
  have hs : (sizeOf (Tryd.prog.elem 33)).run Tryd.prog W = .ok 13 W := by kernel_rfl
  rw [hs]
  simp only [Result.andThen, Int.toNat_natCast]
theorem head33 (W : World) (A : Option Addr) (n c h : Nat) (hh : h ≤ c) : (Instr.slice 33 (.slice A n c) none (some (.int .i64 (h : Int))) none).run Tryd.prog W = .ok (.slice A h c) W := by
  have he : Tryd.prog.underlying 33 = some (.slice (Tryd.prog.elem 33)) := by kernel_rfl
  rw [run_slice_h W 33 A n c he .i64 h (by omega) (by omega)]
  have hs : (sizeOf (Tryd.prog.elem 33)).run Tryd.prog W = .ok 13 W := by kernel_rfl
  rw [hs]
  simp only [Result.andThen, Int.toNat_natCast, sliced]
  simp
  cases A <;> simp [Addr.add]
theorem take_block {cur : Array Value} {L : List Value} {m : Nat} (h : cur.toList.take m = L) {j : Nat} {u : Value} (hj : L[j]? = some u) : cur[j]? = some u := by
  subst h
  rw [List.getElem?_take] at hj
  split at hj
  · simpa using hj
  · cases hj

set_option maxHeartbeats 4000000 in
set_option maxRecDepth 100000 in
/-- Insert at the end. -/
theorem insert_end (base : Nat) (v : Value) (n : Nat) (L : List Value) (vb : Nat) (vs : List Value) (w : World) (hown : w.ownsRow base 44 13 v n L) (hn : n ≤ 1000000) (hvs : w.heap[vb]? = some (.cells vs.toArray 44 (0, 0))) (hvl : vs.length = 13) (h1 : ∀ u ∈ vs, u.oneCell' = true) (hbase : base ≤ w.heap.size) :
    Calls Tryd.prog 68 #[v, .int .i64 (n : Int), .slice (some ⟨vb, 0, none⟩) 1 1] w fun e w' => ∃ v', e = .returned v' ∧ w'.ownsRow base 44 13 v' (n + 1) (L ++ vs) ∧ w.grownBy w' v.ownBlock := by
  have hu33 : Tryd.prog.underlying 33 = some (.slice 44) := by kernel_rfl
  obtain ⟨i0, hi0, hz0, hzs, hzb⟩ := info44r
  obtain ⟨A, c, rfl⟩ : ∃ A c, v = .slice A n c := by
    rcases hown.2 with ⟨rfl, rfl⟩ | ⟨g, cap, cur, rfl, _⟩
    · exact ⟨none, 0, rfl⟩
    · exact ⟨_, cap, rfl⟩
  have HO := Aside0.mk hown
  have HV := Aside0.mk hvs
  have hcut := fun W => cut33 W A n c n (Nat.le_refl _)
  obtain ⟨tl, htl⟩ : ∃ tl, tl = sliced A n n c 13 := ⟨_, rfl⟩
  rw [← htl] at hcut
  clear htl hown hvs
  go_enter Tryd.func68, Tryd.ntmps68
  go_wp2_with (at_builtin; refine wpList_append_own _ rfl _ _ 33 rfl base 44 i0 (.agg zCells) 13 152 hu33 hi0 hz0 hzs hzb rfl (by decide) _ n L rfl HO.out ⟨vb, 0, none⟩ 1 1 vs rfl hvl ?qc2 h1 (by unfold maxLen; omega) (by omega) hbase ?_; (case qc2 => intro j u hj; rw [Addr.add_lit]; simp [World.cell?, HV.out, hj]); intro v' w1 hown1 hgrow hnil)
  go_ret
  exact ⟨v', rfl, hown1, hgrow⟩

theorem shift_lists (R0 vs : List Value) (i n c : Nat) (hi : i < n) (hc : n + 1 ≤ c) (hs : R0.length = c * 13) (hvl : vs.length = 13) (cs1 R1 R2 : List Value)
    (h1 : cs1 = (R0.drop (i * 13)).take ((n - i) * 13)) (h2 : R1 = R0.take ((i + 1) * 13) ++ cs1 ++ R0.drop ((i + 1) * 13 + cs1.length)) (h3 : R2 = R1.take (i * 13) ++ vs ++ R1.drop (i * 13 + vs.length)) :
    R2.length = c * 13 ∧ R2.take ((n + 1) * 13) = (R0.take (n * 13)).take (i * 13) ++ vs ++ (R0.take (n * 13)).drop (i * 13) := by
  have hl1 : cs1.length = (n - i) * 13 := by rw [h1, List.length_take, List.length_drop]; omega
  have hR1l : R1.length = c * 13 := by rw [h2, List.length_append, List.length_append, List.length_take, List.length_drop, hl1]; omega
  have e1 : R1.take (i * 13) = R0.take (i * 13) := by
    rw [h2, List.append_assoc, List.take_append_of_le_length (by rw [List.length_take]; omega), List.take_take, Nat.min_eq_left (by omega)]
  have e2 : R1.drop (i * 13 + vs.length) = cs1 ++ R0.drop ((i + 1) * 13 + cs1.length) := by
    rw [h2, List.append_assoc, List.drop_append, List.drop_eq_nil_of_le (by rw [List.length_take]; omega), List.nil_append]
    rw [List.length_take, show i * 13 + vs.length - min ((i + 1) * 13) R0.length = 0 by omega, List.drop_zero]
  refine ⟨by rw [h3, List.length_append, List.length_append, List.length_take, List.length_drop]; omega, ?_⟩
  rw [h3, e1, e2, List.take_take, Nat.min_eq_left (show i * 13 ≤ n * 13 by omega), List.drop_take]
  rw [show n * 13 - i * 13 = (n - i) * 13 by omega, ← h1, List.append_assoc, List.take_append, List.take_append, List.take_append, List.length_take]
  rw [List.take_of_length_le (l := R0.take (i * 13)) (by rw [List.length_take]; omega), List.take_of_length_le (l := vs) (by omega), List.take_of_length_le (l := cs1) (by omega)]
  rw [show (n + 1) * 13 - min (i * 13) R0.length - vs.length - cs1.length = 0 by omega, List.take_zero, List.append_nil, List.append_assoc]

set_option maxHeartbeats 4000000 in
set_option maxRecDepth 100000 in
/-- Insert where there is room. -/
theorem insert_room (base g n c i : Nat) (cur : Array Value) (vb : Nat) (vs : List Value) (w : World) (hb : base ≤ g) (hg : w.heap[g]? = some (.cells cur 44 (0, 0))) (hs : cur.size = c * 13) (hc : n + 1 ≤ c) (hcm : c ≤ maxLen) (hi : i < n) (hn : n ≤ 1000000) (hvs : w.heap[vb]? = some (.cells vs.toArray 44 (0, 0))) (hvl : vs.length = 13) (hne : vb ≠ g) (h1 : ∀ u ∈ vs, u.oneCell' = true) (hL1 : ∀ u ∈ cur.toList.take (n * 13), u.oneCell' = true) :
    Calls Tryd.prog 68 #[.slice (some ⟨g, 0, none⟩) n c, .int .i64 (i : Int), .slice (some ⟨vb, 0, none⟩) 1 1] w fun e w' => ∃ v', e = .returned v' ∧ w'.ownsRow base 44 13 v' (n + 1) ((cur.toList.take (n * 13)).take (i * 13) ++ vs ++ (cur.toList.take (n * 13)).drop (i * 13)) ∧ w.grownBy w' (some g) := by
  have hu33 : Tryd.prog.underlying 33 = some (.slice 44) := by kernel_rfl
  have hsz : (Tryd.prog.info? 44).map (·.size) = some 13 := size44
  obtain ⟨cs1, hcs1⟩ : ∃ cs1, cs1 = (cur.toList.drop (i * 13)).take ((n - i) * 13) := ⟨_, rfl⟩
  obtain ⟨R1, hR1⟩ : ∃ R1, R1 = cur.toList.take ((i + 1) * 13) ++ cs1 ++ cur.toList.drop ((i + 1) * 13 + cs1.length) := ⟨_, rfl⟩
  obtain ⟨R2, hR2⟩ : ∃ R2, R2 = R1.take (i * 13) ++ vs ++ R1.drop (i * 13 + vs.length) := ⟨_, rfl⟩
  have hlst : cur.toList.length = c * 13 := by simpa using hs
  have hl1 : cs1.length = (n - i) * 13 := by rw [hcs1, List.length_take, List.length_drop]; omega
  obtain ⟨hR2l, hR2t⟩ := shift_lists cur.toList vs i n c hi hc hlst hvl cs1 R1 R2 hcs1 hR1 hR2
  have hR1l : R1.length = c * 13 := by rw [hR1, List.length_append, List.length_append, List.length_take, List.length_drop, hl1]; omega
  have hcell : ∀ (W : World) (cu : Array Value), W.heap[g]? = some (.cells cu 44 (0, 0)) → ∀ j, W.cell? ⟨g, j, none⟩ = cu[j]? := fun W cu h j => by simp [World.cell?, h]
  have hcp1 : ∀ ty dc sc, (Builtin.copy_ #[33, 33] ty #[.slice (some ⟨g, (i + 1) * 13, none⟩) (n - i) dc, .slice (some ⟨g, i * 13, none⟩) (n + 1 - i) sc]).run Tryd.prog w.drew = .ok (goInt (Nat.min (n + 1 - i) (n - i))) (w.drew.setRow g R1.toArray) := fun ty dc sc => by
    rw [hR1]
    refine run_copy_rowK w.drew 33 33 ty 44 13 g ((i + 1) * 13) _ dc ⟨g, i * 13, none⟩ _ sc cur 44 cs1 hu33 hsz hg ?_ ?_ ?_ ?_
    · rw [hl1, show Nat.min (n + 1 - i) (n - i) = n - i from by simp only [Nat.min_def]; split <;> omega]
    · intro j v hj
      rw [Addr.add_lit, hcell w.drew cur hg]
      rw [hcs1, List.getElem?_take] at hj
      split at hj
      · rw [List.getElem?_drop] at hj; simpa using hj
      · cases hj
    · rw [hl1]; omega
    · intro v hv
      refine hL1 v ?_
      rw [hcs1, show (n - i) * 13 = n * 13 - i * 13 by omega, ← List.drop_take] at hv
      exact List.mem_of_mem_drop hv
  obtain ⟨W1, hW1⟩ : ∃ W1, W1 = w.drew.setRow g R1.toArray := ⟨_, rfl⟩
  rw [← hW1] at hcp1
  have hg1 : W1.heap[g]? = some (.cells R1.toArray 44 (0, 0)) := by rw [hW1]; exact setRow_heap _ _ _ _ _ _ (show w.drew.heap[g]? = _ from hg)
  have hv1 : W1.heap[vb]? = some (.cells vs.toArray 44 (0, 0)) := by rw [hW1]; exact (setRow_other _ _ _ _ hne).trans hvs
  have hcp2 : ∀ ty dc, (Builtin.copy_ #[33, 33] ty #[.slice (some ⟨g, i * 13, none⟩) (n + 1 - i) dc, .slice (some ⟨vb, 0, none⟩) 1 1]).run Tryd.prog W1 = .ok (goInt (Nat.min 1 (n + 1 - i))) (W1.setRow g R2.toArray) := fun ty dc => by
    rw [hR2]
    refine run_copy_rowK W1 33 33 ty 44 13 g (i * 13) _ dc ⟨vb, 0, none⟩ _ 1 R1.toArray 44 vs hu33 hsz hg1 ?_ ?_ ?_ h1
    · rw [hvl, show Nat.min 1 (n + 1 - i) = 1 from by simp only [Nat.min_def]; split <;> omega]
    · intro j v hj
      rw [Addr.add_lit]
      simp [World.cell?, hv1, hj]
    · simp [hR1l, hvl]; omega
  have hsa : w.shape? vb = some (44, 13) := by simp [World.shape?, hvs, hvl]
  have hsb : w.shape? g = some (44, c * 13) := by simp [World.shape?, hg, hs]
  have hfa : w.frozen? ⟨vb, 0, none⟩ = false := by simp [World.frozen?, hvs]
  have hfe : w.frozen? ⟨vb, 13, none⟩ = false := by simp [World.frozen?, hvs]
  have hov : ∀ lb cb, (callFunc 81 #[.slice (some ⟨vb, 0, none⟩) 1 1, .slice (some ⟨g, (i + 1) * 13, none⟩) lb cb]).run Tryd.prog w = .ok (.value (.bool false)) w := fun lb cb => by
    rw [run_callFunc_extern Tryd.func81 (by kernel_rfl) (by kernel_rfl) (by kernel_rfl) (e := Extern.SlicesOverlaps.overlaps #[33, 33] #[4]) (by kernel_rfl),
      Lib.run_overlaps_apart w 33 4 44 hu33 13 (fun _ => by kernel_rfl) ⟨vb, 0, none⟩ ⟨g, (i + 1) * 13, none⟩ 1 1 lb cb hne 44 44 13 (c * 13) hsa hsb (by omega) hfa hfe]
    rfl
  have hcutA : ∀ W, (Instr.slice 33 (.slice (some ⟨g, 0, none⟩) n c) (some (.int .i64 (i : Int))) none none).run Tryd.prog W = .ok (.slice (some ⟨g, i * 13, none⟩) (n - i) (c - i)) W := fun W => by
    rw [cut33 W _ n c i (by omega)]; simp only [sliced, if_neg (show ¬ c = i by omega), Option.map_some, Addr.add_lit, Nat.zero_add]
  have hcutB : ∀ W, (Instr.slice 33 (.slice (some ⟨g, 0, none⟩) (n + 1) c) (some (.int .i64 (i : Int))) none none).run Tryd.prog W = .ok (.slice (some ⟨g, i * 13, none⟩) (n + 1 - i) (c - i)) W := fun W => by
    rw [cut33 W _ (n + 1) c i (by omega)]; simp only [sliced, if_neg (show ¬ c = i by omega), Option.map_some, Addr.add_lit, Nat.zero_add]
  have hcutC : ∀ W, (Instr.slice 33 (.slice (some ⟨g, 0, none⟩) (n + 1) c) (some (.int .i64 ((i : Int) + 1))) none none).run Tryd.prog W = .ok (.slice (some ⟨g, (i + 1) * 13, none⟩) (n - i) (c - (i + 1))) W := fun W => by
    rw [show (i : Int) + 1 = ((i + 1 : Nat) : Int) by omega, cut33 W _ (n + 1) c (i + 1) (by omega)]; simp only [sliced, if_neg (show ¬ c = i + 1 by omega), Option.map_some, Addr.add_lit, Nat.zero_add, Nat.add_sub_add_right]
  have hhead : ∀ W, (Instr.slice 33 (.slice (some ⟨g, 0, none⟩) n c) none (some (.int .i64 ((n : Int) + 1))) none).run Tryd.prog W = .ok (.slice (some ⟨g, 0, none⟩) (n + 1) c) W := fun W => by
    rw [show (n : Int) + 1 = ((n + 1 : Nat) : Int) by omega]; exact head33 W _ n c (n + 1) hc
  have mixed : Tryd.prog.follows Departure.mixedOrders = true := by kernel_rfl
  have hw1 : IntKind.i64.wrap ((i : Int) + 1) = (i : Int) + 1 := by rw [IntKind.wrap_i64]; omega
  have hq1 : (0 : Int) ≤ (i : Int) + 1 := by omega
  have hq2 : i ≤ n := by omega
  have hq3 : (i : Int) + 1 ≤ (n : Int) + 1 := by omega
  have hq4 : ((i : Int) + 1).toNat = i + 1 := by omega
  have hq5 : ¬ (c = i + 1) := by omega
  have hq6 : ¬ (c = i) := by omega
  have hq7 : (i : Int) ≤ (n : Int) + 1 := by omega
  have hni : ((i : Int) == (n : Int)) = false := beq_eq_false_iff_ne.2 (by omega)
  have hno : ¬ ((c : Int) < (n : Int) + 1) := by omega
  have hnb : (n : Int) ≤ 1000000 := by omega
  have HC1 := Aside0.mk hcp1
  have HG1 := Aside0.mk hg1
  have HR2 := Aside0.mk hR2t
  have HL2 := Aside0.mk hR2l
  have HB1 : Aside0 (w.grownBy W1 (some g)) := ⟨by rw [hW1]; exact ⟨rfl, rfl, rfl, by simp [World.setRow], fun k _ hk => (setRow_other _ _ _ _ (fun e => hk (by rw [e]))).trans rfl⟩⟩
  clear hcp1 hcell hg1 hv1 hsa hsb hfa hfe hR2l hR2t hcs1 hR1 hR2 hW1
  go_enter Tryd.func68, Tryd.ntmps68
  go_wp2_with (simp only [hov])
  go_region_law_o (refine step_copy_runK rfl _ _ 33 33 rfl (.slice (some ⟨g, (i + 1) * 13, none⟩) (n - i) (c - (i + 1))) (.slice (some ⟨g, i * 13, none⟩) (n + 1 - i) (c - i)) (by simp [Act.eval, Act.put]) (by simp [Act.eval, Act.put]) (HC1.out 3 (c - (i + 1)) (c - i)) ?_)
  go_wp2
  go_ret
  refine ⟨_, rfl, ⟨?_, .inr ⟨g, c, R2.toArray, rfl, hb, setRow_heap _ _ _ _ _ _ HG1.out, hc, hcm, by simpa using HL2.out, by simpa using HR2.out⟩⟩, ?_⟩
  · have := HL2.out
    rw [← HR2.out, List.length_take]
    omega
  · have hB := HB1.out
    exact ⟨hB.os, hB.tape, hB.output, by simpa [World.setRow] using hB.size, fun k hk hne => (setRow_other _ _ _ _ (fun e => hne (by rw [e]))).trans (hB.block k hk hne)⟩

theorem grow_lists (L ROW vs R1 R2 : List Value) (i n G : Nat) (hi : i < n) (hG : n + 1 ≤ G) (hL : L.length = n * 13) (hR : ROW.length = G * 13) (hRt : ROW.take (i * 13) = L.take (i * 13)) (hvl : vs.length = 13)
    (h1 : R1 = ROW.take (i * 13) ++ vs ++ ROW.drop (i * 13 + vs.length)) (h2 : R2 = R1.take ((i + 1) * 13) ++ L.drop (i * 13) ++ R1.drop ((i + 1) * 13 + (L.drop (i * 13)).length)) :
    R1.length = G * 13 ∧ R2.length = G * 13 ∧ R2.take ((n + 1) * 13) = L.take (i * 13) ++ vs ++ L.drop (i * 13) := by
  have hd : (L.drop (i * 13)).length = (n - i) * 13 := by rw [List.length_drop, hL]; omega
  have hR1l : R1.length = G * 13 := by rw [h1, List.length_append, List.length_append, List.length_take, List.length_drop]; omega
  have e1 : R1.take ((i + 1) * 13) = L.take (i * 13) ++ vs := by
    rw [h1, hRt, List.take_append_of_le_length (by rw [List.length_append, List.length_take]; omega), List.take_of_length_le (by rw [List.length_append, List.length_take]; omega)]
  refine ⟨hR1l, by rw [h2, List.length_append, List.length_append, List.length_take, hd, List.length_drop]; omega, ?_⟩
  rw [h2, e1, List.take_append_of_le_length (by rw [List.length_append, List.length_append, List.length_take, hd]; omega), List.take_of_length_le (by rw [List.length_append, List.length_append, List.length_take, hd]; omega)]
set_option maxHeartbeats 4000000 in
set_option maxRecDepth 100000 in
/-- Insert where there is no room. -/
theorem insert_grow (base g n c i : Nat) (cur : Array Value) (vb : Nat) (vs : List Value) (w : World) (hb : base ≤ w.heap.size) (hg : w.heap[g]? = some (.cells cur 44 (0, 0))) (hs : cur.size = c * 13) (hnc : n ≤ c) (hc : c < n + 1) (hi : i < n) (hn : n ≤ 1000000) (hvs : w.heap[vb]? = some (.cells vs.toArray 44 (0, 0))) (hvl : vs.length = 13) (h1 : ∀ u ∈ vs, u.oneCell' = true) (hL1 : ∀ u ∈ cur.toList.take (n * 13), u.oneCell' = true) :
    Calls Tryd.prog 68 #[.slice (some ⟨g, 0, none⟩) n c, .int .i64 (i : Int), .slice (some ⟨vb, 0, none⟩) 1 1] w fun e w' => ∃ v', e = .returned v' ∧ w'.ownsRow base 44 13 v' (n + 1) ((cur.toList.take (n * 13)).take (i * 13) ++ vs ++ (cur.toList.take (n * 13)).drop (i * 13)) ∧ w.grownBy w' (some g) := by
  have hu33 : Tryd.prog.underlying 33 = some (.slice 44) := by kernel_rfl
  have hu3 : Tryd.prog.underlying 3 = some (.int .i64) := by kernel_rfl
  have hsz : (Tryd.prog.info? 44).map (·.size) = some 13 := size44
  obtain ⟨i0, hi0, hz0, hzs, hzb⟩ := info44r
  obtain ⟨L, hLd⟩ : ∃ L, L = cur.toList.take (n * 13) := ⟨_, rfl⟩
  rw [← hLd] at hL1 ⊢
  have hL : L.length = n * 13 := by rw [hLd, List.length_take]; simp [hs]; omega
  have hLc : ∀ (W : World), W.heap[g]? = some (.cells cur 44 (0, 0)) → ∀ j u, L[j]? = some u → W.cell? ⟨g, j, none⟩ = some u := fun W h j u hj => by
    rw [show W.cell? ⟨g, j, none⟩ = cur[j]? by simp [World.cell?, h]]
    exact take_block hLd.symm hj
  have hgw : g < w.heap.size := (Array.getElem?_eq_some_iff.1 hg).1
  have hvw : vb < w.heap.size := (Array.getElem?_eq_some_iff.1 hvs).1
  have hold : (Builtin.firstCells i0.size i (.slice (some ⟨g, 0, none⟩) i c)).run Tryd.prog w.drew = .ok (L.take (i * 13)).toArray w.drew := by
    rw [hzs]
    exact run_firstCells_some w.drew 13 i ⟨g, 0, none⟩ i c (L.take (i * 13)) (by rw [List.length_take]; omega) (fun j v hj => by
      rw [Addr.add_lit, Nat.zero_add]
      rw [List.getElem?_take] at hj
      split at hj
      · exact hLc w.drew hg j v hj
      · cases hj)
  have hik : i + (n + 1 - i) = n + 1 := by omega
  have hrz := fun ty => Lib.run_append_grow_zeros (P := Tryd.prog) w 33 3 ty 44 i0 (.agg zCells) .i64 .i64 hu33 hu3 hi0 hz0 (some ⟨g, 0, none⟩) i c (L.take (i * 13)) hold (n + 1 - i) (by omega) (by omega) (by omega) (by omega) (by rw [hzb]; omega) (by rw [hzb, hik]; exact growslice_fits hc (by omega))
  simp only [hik] at hrz
  obtain ⟨G, hGd⟩ : ∃ G, G = grownCap w (n + 1) c 44 := ⟨_, rfl⟩
  have hGn : n + 1 ≤ G := by rw [hGd]; exact grownCap_ge w _ _ _
  have hGm : G ≤ maxLen := by rw [hGd]; exact grownCap_le_maxLen w (n + 1) c 44 (by unfold maxLen; omega)
  rw [← hGd] at hrz
  obtain ⟨ROW, hROW⟩ : ∃ ROW : Array Value, ROW = (L.take (i * 13)).toArray ++ Builtin.zeroCells (Value.agg zCells).cells (n + 1 - i) ++ Builtin.zeroCells (Value.agg zCells).cells (G - (n + 1)) := ⟨_, rfl⟩
  rw [← hROW] at hrz
  have hRl : ROW.toList.length = G * 13 := by
    rw [hROW]
    simp [Builtin.zeroCells, Value.cells, hL]
    omega
  have hRt : ROW.toList.take (i * 13) = L.take (i * 13) := by
    rw [hROW]
    simp only [Array.toList_append, List.append_assoc]
    rw [List.take_append_of_le_length (by rw [List.length_take]; omega), List.take_take, Nat.min_self]
  obtain ⟨R1, hR1⟩ : ∃ R1, R1 = ROW.toList.take (i * 13) ++ vs ++ ROW.toList.drop (i * 13 + vs.length) := ⟨_, rfl⟩
  obtain ⟨R2, hR2⟩ : ∃ R2, R2 = R1.take ((i + 1) * 13) ++ L.drop (i * 13) ++ R1.drop ((i + 1) * 13 + (L.drop (i * 13)).length) := ⟨_, rfl⟩
  obtain ⟨hR1l, hR2l, hR2t⟩ := grow_lists L ROW.toList vs R1 R2 i n G hi hGn hL hRl hRt hvl hR1 hR2
  obtain ⟨h, hh⟩ : ∃ h, h = w.heap.size := ⟨_, rfl⟩
  rw [← hh] at hrz
  obtain ⟨W1, hW1⟩ : ∃ W1, W1 = w.drew.alloc (.cells ROW 44) := ⟨_, rfl⟩
  rw [← hW1] at hrz
  have hg1 : W1.heap[h]? = some (.cells ROW 44 (0, 0)) := by rw [hW1, hh]; exact heap_alloc_new w.drew _
  have hold1 : ∀ k, k < w.heap.size → W1.heap[k]? = w.heap[k]? := fun k hk => by rw [hW1]; exact (below_alloc (Below.refl w.drew.heap.size w.drew) _).block k hk
  obtain ⟨W2, hW2⟩ : ∃ W2, W2 = W1.setRow h R1.toArray := ⟨_, rfl⟩
  have hcpA : ∀ ty dc, (Builtin.copy_ #[33, 33] ty #[.slice (some ⟨h, i * 13, none⟩) (n + 1 - i) dc, .slice (some ⟨vb, 0, none⟩) 1 1]).run Tryd.prog W1 = .ok (goInt (Nat.min 1 (n + 1 - i))) W2 := fun ty dc => by
    rw [hW2, hR1]
    refine run_copy_rowK W1 33 33 ty 44 13 h (i * 13) _ dc ⟨vb, 0, none⟩ _ 1 ROW 44 vs hu33 hsz hg1 ?_ ?_ ?_ h1
    · rw [hvl, show Nat.min 1 (n + 1 - i) = 1 from by simp only [Nat.min_def]; split <;> omega]
    · intro j v hj
      rw [Addr.add_lit]
      simp [World.cell?, hold1 vb hvw, hvs, hj]
    · simp at hRl; rw [hvl]; omega
  have hg2 : W2.heap[h]? = some (.cells R1.toArray 44 (0, 0)) := by rw [hW2]; exact setRow_heap _ _ _ _ _ _ hg1
  have hold2 : ∀ k, k < w.heap.size → W2.heap[k]? = w.heap[k]? := fun k hk => by rw [hW2]; exact (setRow_other _ _ _ _ (by omega)).trans (hold1 k hk)
  obtain ⟨W3, hW3⟩ : ∃ W3, W3 = W2.drew.setRow h R2.toArray := ⟨_, rfl⟩
  have hcpB : ∀ ty dc sc, (Builtin.copy_ #[33, 33] ty #[.slice (some ⟨h, (i + 1) * 13, none⟩) (n - i) dc, .slice (some ⟨g, i * 13, none⟩) (n - i) sc]).run Tryd.prog W2.drew = .ok (goInt (Nat.min (n - i) (n - i))) W3 := fun ty dc sc => by
    rw [hW3, hR2]
    refine run_copy_rowK W2.drew 33 33 ty 44 13 h ((i + 1) * 13) _ dc ⟨g, i * 13, none⟩ _ sc R1.toArray 44 (L.drop (i * 13)) hu33 hsz hg2 ?_ ?_ ?_ ?_
    · rw [List.length_drop, hL, show Nat.min (n - i) (n - i) = n - i from Nat.min_self _]; omega
    · intro j v hj
      rw [Addr.add_lit]
      rw [List.getElem?_drop] at hj
      exact hLc W2.drew ((show W2.drew.heap[g]? = W2.heap[g]? from rfl).trans ((hold2 g hgw).trans hg)) _ _ hj
    · rw [List.length_drop, hL]; simp [hR1l]; omega
    · exact fun v hv => hL1 v (List.mem_of_mem_drop hv)
  have hg3 : W3.heap[h]? = some (.cells R2.toArray 44 (0, 0)) := by rw [hW3]; exact setRow_heap _ _ _ _ _ _ (show W2.drew.heap[h]? = _ from hg2)
  have hend : w.grownBy W3 (some g) := by
    refine ⟨by rw [hW3, hW2, hW1]; rfl, by rw [hW3, hW2, hW1]; rfl, by rw [hW3, hW2, hW1]; rfl, ?_, fun k hk _ => ?_⟩
    · have := (Array.getElem?_eq_some_iff.1 hg3).1; omega
    · rw [hW3]; exact (setRow_other _ _ _ _ (by omega)).trans ((show W2.drew.heap[k]? = W2.heap[k]? from rfl).trans (hold2 k hk))
  have hcutA : ∀ W, (Instr.slice 33 (.slice (some ⟨g, 0, none⟩) n c) (some (.int .i64 (i : Int))) none none).run Tryd.prog W = .ok (.slice (some ⟨g, i * 13, none⟩) (n - i) (c - i)) W := fun W => by
    rw [cut33 W _ n c i (by omega)]; simp only [sliced, if_neg (show ¬ c = i by omega), Option.map_some, Addr.add_lit, Nat.zero_add]
  have hcutB : ∀ W, (Instr.slice 33 (.slice (some ⟨h, 0, none⟩) (n + 1) G) (some (.int .i64 (i : Int))) none none).run Tryd.prog W = .ok (.slice (some ⟨h, i * 13, none⟩) (n + 1 - i) (G - i)) W := fun W => by
    rw [cut33 W _ (n + 1) G i (by omega)]; simp only [sliced, if_neg (show ¬ G = i by omega), Option.map_some, Addr.add_lit, Nat.zero_add]
  have hhead : ∀ W, (Instr.slice 33 (.slice (some ⟨g, 0, none⟩) n c) none (some (.int .i64 (i : Int))) none).run Tryd.prog W = .ok (.slice (some ⟨g, 0, none⟩) i c) W := fun W => head33 W _ n c i (by omega)
  have hrz2 : ∀ ty, (Builtin.append_ #[33, 3] ty #[.slice (some ⟨g, 0, none⟩) i c, .int .i64 ((n : Int) + 1 - (i : Int))]).run Tryd.prog w = .ok (.slice (some ⟨h, 0, none⟩) (n + 1) G) W1 := fun ty => by
    rw [show (n : Int) + 1 - (i : Int) = ((n + 1 - i : Nat) : Int) by omega]; exact hrz ty
  have mixed : Tryd.prog.follows Departure.mixedOrders = true := by kernel_rfl
  have hw1 : IntKind.i64.wrap ((i : Int) + 1) = (i : Int) + 1 := by rw [IntKind.wrap_i64]; omega
  have hq1 : (0 : Int) ≤ (i : Int) + 1 := by omega
  have hq2 : i ≤ n := by omega
  have hq3 : (i : Int) + 1 ≤ (n : Int) + 1 := by omega
  have hq4 : ((i : Int) + 1).toNat = i + 1 := by omega
  have hq5 : ¬ (G = i + 1) := by omega
  have hq6 : ¬ (c = i) := by omega
  have hq7 : (i : Int) ≤ (n : Int) + 1 := by omega
  have hq8 : ¬ (G = i) := by omega
  have hni : ((i : Int) == (n : Int)) = false := beq_eq_false_iff_ne.2 (by omega)
  have hno : ((c : Int) < (n : Int) + 1) := by omega
  have hnb : (n : Int) ≤ 1000000 := by omega
  have HEND := Aside0.mk hend
  have HG3 := Aside0.mk hg3
  have HR2 := Aside0.mk hR2t
  have HL2 := Aside0.mk hR2l
  have HGD := Aside0.mk hGd
  have HH := Aside0.mk hh
  clear hend hg3 hR2t hR2l hGd hh hrz hg1 hg2 hold1 hold2 hW1 hW2 hW3 hROW hRt hRl hR1 hR2 hR1l hLc hold hik hLd
  go_enter Tryd.func68, Tryd.ntmps68
  go_wp2_with (first | (at_builtin; refine Lib.wpList_append_run _ rfl _ _ _ _ rfl _ _ rfl rfl _ _ (hrz2 _) ?_) | (at_builtin; refine wpList_copy_runK W1 rfl _ _ 33 33 rfl _ _ rfl rfl (hcpA _ _) ?_))
  go_region_law_o (refine step_copy_runK rfl _ _ 33 33 rfl (.slice (some ⟨h, (i + 1) * 13, none⟩) (n - i) (G - (i + 1))) (.slice (some ⟨g, i * 13, none⟩) (n - i) (c - i)) (by simp [Act.eval, Act.put]) (by simp [Act.eval, Act.put]) (hcpB 3 (G - (i + 1)) (c - i)) ?_)
  go_wp2
  go_ret
  refine ⟨_, rfl, ⟨?_, .inr ⟨h, G, R2.toArray, rfl, by have := HH.out; omega, HG3.out, hGn, hGm, by simpa using HL2.out, by simpa using HR2.out⟩⟩, HEND.out⟩
  have := HL2.out
  rw [← HR2.out, List.length_take]
  omega
end Go.Proofs.YtolpamojbiipaaaDoor.XA
