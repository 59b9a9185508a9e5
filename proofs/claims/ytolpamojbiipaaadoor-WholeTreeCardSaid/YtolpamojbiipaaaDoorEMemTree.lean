/- Rows and trees among own boxes: types, and what is known of the calls of tree's methods. -/
import Derived.Test.YtolpamojbiipaaaDoorEMemRow
import Derived.Test.YtolpamojbiipaaaDoorUAdd
import Derived.Test.YtolpamojbiipaaaDoorXA3
namespace Go.Proofs.YtolpamojbiipaaaDoor.XA
open Go.RowKit Go.Proofs.YtolpamojbiipaaaDoorW.PrintWords Go.Proofs.YtolpamojbiipaaaDoorW.PrintLast Go.Proofs.YtolpamojbiipaaaDoorW.PrintMore Go.Proofs.YtolpamojbiipaaaDoor.Mem Go.Proofs.YtolpamojbiipaaaDoor.Pure
set_option linter.unusedVariables false
set_option linter.unusedSimpArgs false

theorem agg35 : aggN Tryd.prog 35 2 = true := by kernel_rfl
theorem agg44 : aggN Tryd.prog 44 13 = true := by kernel_rfl
theorem agg42 : aggN Tryd.prog 42 11 = true := by kernel_rfl
theorem agg40 : aggN Tryd.prog 40 2 = true := by kernel_rfl
theorem agg23 : aggN Tryd.prog 23 4 = true := by kernel_rfl
theorem agg49 : aggN Tryd.prog 49 4 = true := by kernel_rfl
theorem size40 : (Tryd.prog.info? 40).map (·.size) = some 2 := by kernel_rfl
theorem size49 : (Tryd.prog.info? 49).map (·.size) = some 4 := by kernel_rfl
theorem size23' : (Tryd.prog.info? 23).map (·.size) = some 4 := by kernel_rfl
theorem sz1 : ∀ t ∈ [2, 3, 4, 9, 32, 33, 38, 45, 50, 61, 62, 76, 78], (Tryd.prog.info? t).map (·.size) = some 1 := by
  intro t ht
  simp only [List.mem_cons, List.not_mem_nil, or_false] at ht
  rcases ht with rfl | rfl | rfl | rfl | rfl | rfl | rfl | rfl | rfl | rfl | rfl | rfl | rfl <;> kernel_rfl
theorem nag : ∀ t ∈ [2, 3, 4, 9, 32, 33, 38, 45, 50, 61, 62, 76, 78], aggB Tryd.prog t = false := by
  intro t ht
  simp only [List.mem_cons, List.not_mem_nil, or_false] at ht
  rcases ht with rfl | rfl | rfl | rfl | rfl | rfl | rfl | rfl | rfl | rfl | rfl | rfl | rfl <;> kernel_rfl
theorem agg104 : aggN Tryd.prog 104 4 = true := by kernel_rfl
theorem agg73 : aggN Tryd.prog 73 5 = true := by kernel_rfl
theorem agg64 : aggN Tryd.prog 64 2 = true := by kernel_rfl
theorem size104 : (Tryd.prog.info? 104).map (·.size) = some 4 := by kernel_rfl
theorem size73 : (Tryd.prog.info? 73).map (·.size) = some 5 := by kernel_rfl
theorem size64 : (Tryd.prog.info? 64).map (·.size) = some 2 := by kernel_rfl
theorem zero104 : (Tryd.prog.info? 104).map (·.zero) = some (some (.agg ([.int .i64 0, .int .i64 0, .string (⟨#[]⟩ : ByteArray), .string (⟨#[]⟩ : ByteArray)] : List Value).toArray)) := by kernel_rfl
theorem zero73 : (Tryd.prog.info? 73).map (·.zero) = some (some (.agg ([.string (⟨#[]⟩ : ByteArray), .int .i64 0, .int .i64 0, .bool false, .int .i64 0] : List Value).toArray)) := by kernel_rfl
theorem zero64 : (Tryd.prog.info? 64).map (·.zero) = some (some (.agg ([.slice none 0 0, .int .i64 0] : List Value).toArray)) := by kernel_rfl
theorem zero40 : (Tryd.prog.info? 40).map (·.zero) = some (some (.agg ([.slice none 0 0, .int .i64 0] : List Value).toArray)) := by kernel_rfl
/-- A row's cells, a node's. -/
def nodeL (x : S42) : List Value := [.int .i64 x.f0, .int .i64 x.f1, .int .i64 x.f2, .int .i64 x.f3, .int .i64 x.f4, .string x.f5, .string x.f6, .string x.f7, .slice none 0 0, .int .i64 x.f8.f1, .bool x.f9]
def rowL (r : S44) : List Value := [.string r.f0, .int .i64 r.f1, .int .i64 r.f2.f0, .int .i64 r.f2.f1, .int .i64 r.f2.f2, .int .i64 r.f2.f3, .int .i64 r.f2.f4, .string r.f2.f5, .string r.f2.f6, .string r.f2.f7, .slice none 0 0, .int .i64 r.f2.f8.f1, .bool r.f2.f9]
theorem rowL_one (r : S44) : ∀ u ∈ rowL r, u.oneCell' = true := by simp [rowL, Value.oneCell']
theorem nodeL_one (x : S42) : ∀ u ∈ nodeL x, u.oneCell' = true := by simp [nodeL, Value.oneCell']
theorem node_of (r : S44) : ((rowL r).drop 2).take 11 = nodeL r.f2 := rfl
theorem zero35 : (Tryd.prog.info? 35).map (·.zero) = some (some (.agg ([.slice none 0 0, .int .i64 0] : List Value).toArray)) := by kernel_rfl
theorem zero44 : (Tryd.prog.info? 44).map (·.zero) = some (some (.agg (rowL z44).toArray)) := by kernel_rfl
theorem zero42 : (Tryd.prog.info? 42).map (·.zero) = some (some (.agg (nodeL z42).toArray)) := by kernel_rfl
theorem zero23 : (Tryd.prog.info? 23).map (·.zero) = some (some (.agg ([.int .i64 0, .int .i64 0, .int .i64 0, .int .i64 0] : List Value).toArray)) := by kernel_rfl
theorem zero49 : (Tryd.prog.info? 49).map (·.zero) = some (some (.agg ([.string (⟨#[]⟩ : ByteArray), .string (⟨#[]⟩ : ByteArray), .int .i64 0, .int .i64 0] : List Value).toArray)) := by kernel_rfl
theorem built44 (s : ByteArray) (i : Int) (x : S42) : Tryd.prog.built 44 [(0, .string s), (1, .int .i64 i), (2, .agg (nodeL x).toArray)] = some (rowL ⟨s, i, x⟩).toArray := by kernel_rfl
theorem build_row {ops : Array Oper} {rest : List Oper} {o : Oper} {a : Act} {w : World} {Q : Exit → Act → World → Prop} {x y z : Operand} (hg : o.guard = none) (ho : o.op = .build 44 #[(0, x), (1, y), (2, z)]) (s : ByteArray) (i : Int) (nd : S42)
    (hx : a.eval x = .string s) (hy : a.eval y = .int .i64 i) (hz : a.eval z = .agg (nodeL nd).toArray) (h : wpList Tryd.prog ops Q rest (a.put o.dst (.agg (rowL ⟨s, i, nd⟩).toArray)) w) : wpList Tryd.prog ops Q (o :: rest) a w := by
  have e : (#[(0, x), (1, y), (2, z)].map fun (j, u) => (j, a.eval u)).toList = [((0 : Nat), Value.string s), (1, .int .i64 i), (2, .agg (nodeL nd).toArray)] := by simp [hx, hy, hz]
  refine wpList_build hg 44 _ ho (by rw [e, built44]; rfl) ?_
  rw [e, built44]
  exact h
/-- A clean path, the root too; one that was cleaned. -/
structure Gd (ps : Pth) : Prop where
  good : ∀ p ∈ ps, Pure.Good p
  len : (joinS ps).length ≤ 4000
theorem gd_nil : Gd [] := ⟨by simp, by simp [joinS]⟩
theorem Gd.of {ps : Pth} (h : ps = [] ∨ Cl ps) : Gd ps := by
  rcases h with rfl | h
  · exact gd_nil
  · exact ⟨h.good, by have := h.len; omega⟩
theorem Gd.parts {ps : Pth} (h : Gd ps) : partsS (joinS ps) = ps := by
  by_cases e : ps = []
  · subst e; rfl
  · exact parts_join h.good
/-- Rows that lie in w. -/
def Tr (A : Option Addr) (l : List S44) (w : World) : Prop := Kd.C k44 w A l.length l
variable {w0 W w' : World} {P : Nat → Prop} {B : List Bx} {S : World → Prop} {A : Option Addr} {c : Nat} {l : List S44} {n : Int} {v : Value} {base : Nat}
theorem to_V (HM : Mem w0 P W B S) (hS : ∀ w, S w → Tr A l w) (hc : l.length ≤ c) : Kd.V k44 44 W base (fun k => k ∉ B.map (·.1) ∧ (P k ∨ w0.heap.size ≤ k)) (.slice A l.length c) l :=
  ⟨A, c, rfl, hc, fun W' hW => hS _ (HM.old W' (fun k hk hp => hW k hp hk))⟩
theorem of_V (HM : Mem w0 P W B S) (hb : Below W.heap.size W w') (hv : Kd.V k44 44 w' base (fun k => (k ∉ B.map (·.1) ∧ (P k ∨ w0.heap.size ≤ k)) ∨ W.heap.size ≤ k) v l) :
    ∃ A c, v = .slice A l.length c ∧ l.length ≤ c ∧ Mem w0 P w' B (fun w => S w ∧ Tr A l w) := by
  obtain ⟨A, c, e, hc, hf⟩ := hv
  exact ⟨A, c, e, hc, HM.add hb (fun W' h => hf W' (fun k hp hk => h k hk hp))⟩
theorem V_end (HM : Mem w0 P W B (fun w => S w ∧ Tr A l w)) (hc : l.length ≤ c) : Kd.V k44 44 W base (fun k => P k ∨ w0.heap.size ≤ k) (.slice A l.length c) l :=
  ⟨A, c, rfl, hc, fun W' hW => (HM.bare.last W' hW).2⟩
theorem V_of (HM : Mem w0 P W B S) (hS : ∀ w, S w → Tr A l w) (hc : l.length ≤ c) : Kd.V k44 44 W base (fun k => P k ∨ w0.heap.size ≤ k) (.slice A l.length c) l :=
  ⟨A, c, rfl, hc, fun W' hW => hS _ (HM.bare.last W' hW)⟩
theorem M_start (hV : Kd.V k44 44 W base P (.slice A l.length c) l) : l.length ≤ c ∧ Mem W P W [] (Tr A l) := by
  obtain ⟨A', c', e, hc, hf⟩ := hV
  injection e with e1 e2 e3
  subst e1 e3
  exact ⟨hc, Mem.start (fun W' h => hf W' (fun k hp hk => h k hk hp))⟩
theorem get_M (HM : Mem w0 P W B S) (hS : ∀ w, S w → Tr A l w) (hI : Wk l) (hc : l.length ≤ c) (hl : l.length ≤ 900000) {ps : Pth} (hp : Gd ps) :
    Calls Tryd.prog 23 #[.agg #[.slice A l.length c, .int .i64 n], .string (mkS (joinS ps))] W fun e w' => e = .returned (.tuple #[.agg (rowL ((lookR l ps).getD z44)).toArray, .bool (lookR l ps).isSome]) ∧ Mem w0 P w' B S := by
  have hz : (mkS (joinS ps)).size ≤ 1000000 := by rw [mk_size]; have := hp.len; omega
  have hpp := hp.parts
  have sp := at_spec hI.sorted (mkS (joinS ps))
  rw [mkS_data, hpp] at sp
  refine (get_calls A c l n (mkS (joinS ps)) W (hS _ HM.now) hc (hI.fit (by omega) hz)).mono ?_
  rintro e w' ⟨rfl, hb⟩
  refine ⟨?_, HM.call hb⟩
  cases h : lookR l ps with
  | none =>
    rw [h] at sp
    rw [show isAt l (mkS (joinS ps)) = false from sp.1, if_neg (by simp)]
    rfl
  | some r =>
    rw [h] at sp
    have h1 : isAt l (mkS (joinS ps)) = true := sp.1
    rw [← Option.some.inj (sp.2 h1), h1, if_pos rfl]
    rfl
theorem get_some {r : S44} (HM : Mem w0 P W B S) (hS : ∀ w, S w → Tr A l w) (hI : Wk l) (hc : l.length ≤ c) (hl : l.length ≤ 900000) {ps : Pth} (hp : Gd ps) (h : lookR l ps = some r) :
    Calls Tryd.prog 23 #[.agg #[.slice A l.length c, .int .i64 n], .string (mkS (joinS ps))] W fun e w' => e = .returned (.tuple #[.agg (rowL r).toArray, .bool true]) ∧ Mem w0 P w' B S := by
  have := get_M (n := n) HM hS hI hc hl hp
  rw [h] at this
  exact this
theorem get_none (HM : Mem w0 P W B S) (hS : ∀ w, S w → Tr A l w) (hI : Wk l) (hc : l.length ≤ c) (hl : l.length ≤ 900000) {ps : Pth} (hp : Gd ps) (h : lookR l ps = none) :
    Calls Tryd.prog 23 #[.agg #[.slice A l.length c, .int .i64 n], .string (mkS (joinS ps))] W fun e w' => e = .returned (.tuple #[.agg (rowL z44).toArray, .bool false]) ∧ Mem w0 P w' B S := by
  have := get_M (n := n) HM hS hI hc hl hp
  rw [h] at this
  exact this
theorem put_M (HM : Mem w0 P W B S) (hS : ∀ w, S w → Tr A l w) (hI : Wk l) (hc : l.length ≤ c) (hl : l.length ≤ 900000) {r : S44} (hr : r.f0.size ≤ 1000000) :
    Calls Tryd.prog 52 #[.agg #[.slice A l.length c, .int .i64 n], .agg (rowL r).toArray] W fun e w' => ∃ A' c', e = .returned (.agg #[.slice A' (insR l r).length c', .int .i64 n]) ∧ (insR l r).length ≤ c' ∧ Mem w0 P w' B (fun w => S w ∧ Tr A' (insR l r) w) := by
  refine (put_calls A c l n r W (hS _ HM.now) hc (hI.fit (by omega) hr) (by omega)).mono ?_
  rintro e w' ⟨v0, rfl, hR, hb⟩
  rw [put_ins hI.sorted] at hR
  obtain ⟨A', c', rfl, h1, h2⟩ := of_V (base := 0) HM hb (Kd.V_mono (Kd.R_V (base' := 0) (Kd.R_bound hR)) (fun k hk => .inr hk.2.1))
  exact ⟨A', c', rfl, h1, h2⟩
theorem par_M (HM : Mem w0 P W B S) (hS : ∀ w, S w → Tr A l w) (hI : Inv l n) (hc : l.length ≤ c) (hl : l.length ≤ 900000) (hn : n ≤ 900000) {ps : Pth} (hp : Cl ps) :
    Calls Tryd.prog 51 #[.agg #[.slice A l.length c, .int .i64 n], .string (mkS (joinS ps))] W fun e w' => ∃ A' c', e = .returned (.tuple #[.agg #[.slice A' (parP l n ps.length ps).1.length c', .int .i64 (parP l n ps.length ps).2.1], .int .i64 (parP l n ps.length ps).2.2]) ∧
      (parP l n ps.length ps).1.length ≤ c' ∧ Mem w0 P w' B (fun w => S w ∧ Tr A' (parP l n ps.length ps).1 w) := by
  have hpar : tree_Tree_parents.f l n (mkS (joinS ps)) = some (parP l n ps.length ps) := by
    have := hp.len
    unfold tree_Tree_parents.f
    rw [mk_size, if_pos (by omega), mkS_data]
    exact par_is hI (by omega) (by omega) ps.length ps (Nat.le_refl _) hp _ (by omega)
  refine (tree_Tree_parents.calls _ A c l n (mkS (joinS ps)) _ _ _ W (to_V HM hS hc) hpar).mono ?_
  rintro e w' ⟨v0, rfl, hV, hb⟩
  obtain ⟨A', c', rfl, h1, h2⟩ := of_V HM hb hV
  exact ⟨A', c', rfl, h1, h2⟩
theorem add_M (HM : Mem w0 P W B S) (hS : ∀ w, S w → Tr A l w) (hI : Inv l n) (hc : l.length ≤ c) (hl : l.length ≤ 800000) (hn : n ≤ 800000) {ps : Pth} (hp : ps = [] ∨ Cl ps) (nd : S42) :
    Calls Tryd.prog 38 #[.agg #[.slice A l.length c, .int .i64 n], .string (mkS (joinS ps)), .agg (nodeL nd).toArray] W fun e w' => ∃ A' c', e = .returned (.tuple #[.agg #[.slice A' (addP l n ps nd).1.length c', .int .i64 (addP l n ps nd).2.1], .int .i64 (addP l n ps nd).2.2]) ∧
      (addP l n ps nd).1.length ≤ c' ∧ Mem w0 P w' B (fun w => S w ∧ Tr A' (addP l n ps nd).1 w) := by
  refine (tree_Tree_Add.calls _ A c l n (mkS (joinS ps)) nd.f0 nd.f1 nd.f2 nd.f3 nd.f4 nd.f5 nd.f6 nd.f7 nd.f8.f0 nd.f8.f1 nd.f9 _ _ _ W (to_V HM hS hc) (add_is hI hl hn hp nd)).mono ?_
  rintro e w' ⟨v0, rfl, hV, hb⟩
  obtain ⟨A', c', rfl, h1, h2⟩ := of_V HM hb hV
  exact ⟨A', c', rfl, h1, h2⟩
/-- Texts that lie in w. -/
def Sr (A : Option Addr) (xs : List ByteArray) (w : World) : Prop := Kd.C Kd.string w A xs.length xs
theorem clean_M (HG : GG w0) (HM : Mem w0 P W B S) (s : ByteArray) :
    Calls Tryd.prog 22 #[.string s] W fun e w' => ∃ A c, e = .returned (.tuple #[.slice A (cleanS s.data.toList).1.length c, .int .i64 (cleanS s.data.toList).2]) ∧ (cleanS s.data.toList).1.length ≤ c ∧ Mem w0 P w' B (fun w => S w ∧ Sr A ((cleanS s.data.toList).1.map mkS) w) := by
  obtain ⟨k, hk⟩ := clean_ev s
  refine (path_Clean.calls k s _ _ W (hk k (Nat.le_refl _)) (GG_below HG HM.below)).mono ?_
  rintro e w' ⟨v0, rfl, hR, hb⟩
  obtain ⟨A, c, rfl⟩ := Kd.R_slice hR
  have hr := Kd.R_reads' hR
  simp only [encP, List.length_map] at hr ⊢
  refine ⟨A, c, rfl, by have := hr.2.1; simpa using this, HM.add hb (fun W' h => ?_)⟩
  have hf := Kd.R_F (Kd.R_mono (ok' := fun k => W.heap.size ≤ k) (Kd.R_bound hR) (fun k hk => hk.2.1))
  have := hf W' (fun k hp hk => h k hk (.inr hp))
  simp only [encP] at this
  exact this
theorem join_M (HM : Mem w0 P W B S) {A : Option Addr} {c : Nat} {ps : Pth} (hS : ∀ w, S w → Sr A (ps.map mkS) w) (hc : ps.length ≤ c) (hg : Gd ps) :
    Calls Tryd.prog 24 #[.slice A ps.length c] W fun e w' => e = .returned (.string (mkS (joinS ps))) ∧ Mem w0 P w' B S := by
  have hl : ps.length ≤ 5000 := by
    by_cases e : ps = []
    · simp [e]
    have h1 := joinS_length ps e
    have h2 : ps.length ≤ (ps.map (fun p => p.length + 1)).sum := by
      clear h1 e hS hc hg
      induction ps with
      | nil => simp
      | cons p r ih => simp only [List.map_cons, List.sum_cons, List.length_cons]; omega
    have := hg.len
    omega
  have hj := join_f (ps := ps) (by omega) (by have := hg.len; omega)
  have hc' := hS _ HM.now
  have := path_Join.calls A c (ps.map mkS) _ W hc' (by simpa using hc) hj
  rw [List.length_map] at this
  refine this.mono ?_
  rintro e w' ⟨rfl, hb⟩
  exact ⟨rfl, HM.call hb⟩
theorem clean_gd {s : ByteArray} (h : (cleanS s.data.toList).2 = 0) : Gd (cleanS s.data.toList).1 := by
  have := clean_good h
  rw [this.1]
  exact ⟨this.2.1, by have := this.2.2; omega⟩
theorem clean_cl {s : ByteArray} (h : (cleanS s.data.toList).2 = 0) (hs : s.size ≤ 300) : (cleanS s.data.toList).1 = [] ∨ Cl (cleanS s.data.toList).1 := by
  have := clean_good h
  rw [this.1]
  by_cases e : names s.data.toList = []
  · exact .inl e
  · exact .inr ⟨e, this.2.1, by have := this.2.2.1; have := size_dl s; omega⟩
end Go.Proofs.YtolpamojbiipaaaDoor.XA
