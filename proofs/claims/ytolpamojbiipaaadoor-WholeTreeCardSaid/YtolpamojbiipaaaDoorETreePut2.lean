/- joined by xlay.py: ETree, EAgain, ETreePut, ETreePut2 -/
import Derived.Test.YtolpamojbiipaaaDoorURefSpl
import Derived.Test.YtolpamojbiipaaaDoorXA3
import Derived.WalkMore
import Derived.Maps.Own
import Derived.Maps.OwnOps
import Derived.Maps.Keyed
import Derived.Maps.Views
import Derived.Maps.OwnSet
import Derived.Carry
import Derived.Shelf.RegionOpenPlain
import Derived.Lib.AppendZerosOnto
import Derived.Lib.Overlaps
import Derived.Laws.Externs
import Derived.Laws.CopyRow
import Derived.Lib.Walk
import Derived.Lib.SliceRun
/- tree.Get, walked by hand: the search among the rows goes by a function value. -/



namespace Go.Proofs.YtolpamojbiipaaaDoor.XA
open Go.RowKit Go.Proofs.YtolpamojbiipaaaDoorW.PrintWords Go.Proofs.YtolpamojbiipaaaDoorW.PrintLast Go.Proofs.YtolpamojbiipaaaDoorW.PrintMore
set_option linter.unusedVariables false
set_option linter.unusedSimpArgs false

/-- The order of two paths. -/
def cmpB (a b : ByteArray) : Int := Pure.cmpP (Pure.partsS a.data.toList) (Pure.partsS b.data.toList)
/-- The search: the first place from i on, below j, where c isn't less than 0 (if c is ordered so). -/
def bsI (c : Nat → Int) (i j : Nat) : Nat :=
  if h : i < j then (if c ((i + j) / 2) < 0 then bsI c ((i + j) / 2 + 1) j else bsI c i ((i + j) / 2)) else i
termination_by j - i
decreasing_by all_goals omega
theorem bsI_le (c : Nat → Int) (i j : Nat) (h : i ≤ j) : i ≤ bsI c i j ∧ bsI c i j ≤ j := by
  induction i, j using bsI.induct (c := c) with
  | case1 i j hl hc ih => rw [bsI, dif_pos hl, if_pos hc]; have := ih (by omega); omega
  | case2 i j hl hc ih => rw [bsI, dif_pos hl, if_neg hc]; have := ih (by omega); omega
  | case3 i j hl => rw [bsI, dif_neg hl]; omega
/-- Where a path stands among rows, or would. -/
def spot (l : List S44) (s : ByteArray) : Nat := bsI (fun i => cmpB (l.getD i z44).f0 s) 0 l.length
def isAt (l : List S44) (s : ByteArray) : Bool := decide (spot l s < l.length) && decide (cmpB (l.getD (spot l s) z44).f0 s = 0)
theorem spot_le (l : List S44) (s : ByteArray) : spot l s ≤ l.length := (bsI_le _ 0 l.length (Nat.zero_le _)).2
/-- Rows and a path that may be searched. -/
def Fit (l : List S44) (s : ByteArray) : Prop := l.length ≤ 1099511627776 ∧ s.size ≤ 1000000 ∧ ∀ r ∈ l, r.f0.size ≤ 1000000
instance (l : List S44) (s : ByteArray) : Decidable (Fit l s) := by unfold Fit; infer_instance
theorem Fit.at_ {l : List S44} {s : ByteArray} (h : Fit l s) {i : Nat} (hi : i < l.length) : (l.getD i z44).f0.size ≤ 1000000 := by
  rw [List.getD_eq_getElem?_getD, List.getElem?_eq_getElem hi]
  exact h.2.2 _ (List.getElem_mem hi)

/-- An element as a value. -/
def rowV (r : S44) : Value := .agg #[.string r.f0, .int .i64 r.f1, .int .i64 r.f2.f0, .int .i64 r.f2.f1, .int .i64 r.f2.f2, .int .i64 r.f2.f3, .int .i64 r.f2.f4, .string r.f2.f5, .string r.f2.f6, .string r.f2.f7, .slice none 0 0, .int .i64 r.f2.f8.f1, .bool r.f2.f9]
theorem byPath_calls (r : S44) (s : ByteArray) (w : World) (hr : r.f0.size ≤ 1000000) (hs : s.size ≤ 1000000) :
    Calls Tryd.prog 48 #[rowV r, .string s] w fun e w' => e = .returned (.int .i64 (cmpB r.f0 s)) ∧ Below w.heap.size w w' := by
  have hev := Pure.compare_ev (a := r.f0.data.toList) (b := s.data.toList) (by rw [← Pure.size_dl]; exact hr) (by rw [← Pure.size_dl]; exact hs)
  obtain ⟨k, hk⟩ := hev
  rw [mkS_of, mkS_of] at hk
  exact tree_byPath.calls k r.f0 r.f1 r.f2.f0 r.f2.f1 r.f2.f2 r.f2.f3 r.f2.f4 r.f2.f5 r.f2.f6 r.f2.f7 () r.f2.f8.f1 r.f2.f9 s (cmpB r.f0 s) w (by unfold tree_byPath.f; rw [show path_Compare.f k r.f0 s = _ from hk k (Nat.le_refl _)]; rfl)

set_option maxHeartbeats 4000000 in
set_option maxRecDepth 100000 in
theorem search_calls (A : Option Addr) (c : Nat) (l : List S44) (s : ByteArray) (w : World) (hr : Kd.C k44 w A l.length l) (hc : l.length ≤ c) (hf : Fit l s) :
    Calls Tryd.prog 47 #[.slice A l.length c, .string s, .func (.func 48) #[] #[]] w fun e w' => e = .returned (.tuple #[.int .i64 (spot l s : Nat), .bool (isAt l s)]) ∧ Below w.heap.size w w' := by
  have hu44 := Tryd.underlying44
  have HC := Aside0.mk hr
  have HF := Aside0.mk hf
  have HB := Aside0.mk (Below.refl w.heap.size w)
  obtain ⟨sp, hsp⟩ : ∃ sp, sp = spot l s := ⟨_, rfl⟩
  obtain ⟨ia, hia⟩ : ∃ ia, ia = isAt l s := ⟨_, rfl⟩
  rw [← hsp, ← hia]
  have HS := Aside0.mk hsp
  have HS0 := Aside0.mk hsp
  have HI := Aside0.mk hia
  have hlen : (l.length : Int) ≤ 1099511627776 := by have := hf.1; omega
  clear hr hf hsp hia
  go_enter Tryd.func47, Tryd.ntmps47
  go_wp2
  go_loopg [9, 10] l.length (fun kx s9 s10 wr => ∃ lo hi : Nat, s9 = .int .i64 lo ∧ s10 = .int .i64 hi ∧ lo ≤ hi ∧ hi ≤ l.length ∧ hi - lo ≤ kx ∧ Aside0 (Below w.heap.size w wr) ∧
    Aside0 (sp = bsI (fun i => cmpB (l.getD i z44).f0 s) lo hi))
  case atStart => exact ⟨0, l.length, rfl, rfl, Nat.zero_le _, Nat.le_refl _, by omega, HB, HS⟩
  case round =>
    clear HB HS
    obtain ⟨lo, hi, rfl, rfl, hlh, hin, hg, HB, HS⟩ := hrel
    by_cases hlt : lo < hi
    · have hm : (lo + hi) / 2 < l.length := by omega
      obtain ⟨ad, ea, hx0, hx1, hx2, hx3, hx4, hx5, hx6, hx7, hx8, hx9, hx10, hx11, hx12⟩ := at_T44 (Kd.C_below HC.out HB.out) (((lo + hi) / 2 : Nat) : Int) (by omega) (by omega)
      have hcall := fun W => byPath_calls (l.getD ((lo + hi) / 2) z44) s W (HF.out.at_ hm) HF.out.2.1
      subst ea
      have hs := HS.out
      rw [bsI, dif_pos hlt] at hs
      rw [Int.toNat_natCast] at hx0 hx1 hx2 hx3 hx4 hx5 hx6 hx7 hx8 hx9 hx10 hx11 hx12
      have hrd : rd_T44 l (((lo + hi) / 2 : Nat) : Int) = l.getD ((lo + hi) / 2) z44 := by unfold rd_T44; rw [Int.toNat_natCast]
      rw [hrd] at hx0 hx1 hx2 hx3 hx4 hx5 hx6 hx7 hx8 hx9 hx11 hx12
      clear hrd
      unfold rowV at hcall
      by_cases hcy : cmpB (l.getD ((lo + hi) / 2) z44).f0 s < 0
      · rw [if_pos hcy] at hs
        have HS := Aside0.mk hs
        clear hs
        generalize l.getD ((lo + hi) / 2) z44 = y at hx0 hx1 hx2 hx3 hx4 hx5 hx6 hx7 hx8 hx9 hx11 hx12 hcall hcy
        have hd : decide (cmpB y.f0 s < 0) = true := decide_eq_true hcy
        clear hcy
        generalize cmpB y.f0 s = cy at hcall hd
        go_wp2_with (go_at_call 48; refine (hcall _).mono ?_; rintro e w5 ⟨rfl, hb⟩)
        go_roundg (hi - ((lo + hi) / 2 + 1))
        case measure => omega
        case rel => exact ⟨(lo + hi) / 2 + 1, hi, by rw [show ((lo : Int) + (hi : Int)) / 2 + 1 = (((lo + hi) / 2 + 1 : Nat) : Int) by omega], rfl, by omega, hin, Nat.le_refl _, ⟨HB.out.trans (hb.mono HB.out.size)⟩, HS⟩
      · rw [if_neg hcy] at hs
        have HS := Aside0.mk hs
        clear hs
        generalize l.getD ((lo + hi) / 2) z44 = y at hx0 hx1 hx2 hx3 hx4 hx5 hx6 hx7 hx8 hx9 hx11 hx12 hcall hcy
        have hd : decide (cmpB y.f0 s < 0) = false := decide_eq_false hcy
        clear hcy
        generalize cmpB y.f0 s = cy at hcall hd
        go_wp2_with (go_at_call 48; refine (hcall _).mono ?_; rintro e w5 ⟨rfl, hb⟩)
        go_roundg ((lo + hi) / 2 - lo)
        case measure => omega
        case rel => exact ⟨lo, (lo + hi) / 2, rfl, by rw [show ((lo : Int) + (hi : Int)) / 2 = (((lo + hi) / 2 : Nat) : Int) by omega], by omega, by omega, Nat.le_refl _, ⟨HB.out.trans (hb.mono HB.out.size)⟩, HS⟩
    · have hs := HS.out
      rw [bsI, dif_neg hlt] at hs
      subst hs
      have hi' := HI.out
      unfold isAt at hi'
      rw [← HS0.out] at hi'
      by_cases hn : sp < l.length
      · have hlz : ((sp : Int) < (l.length : Int)) := by omega
        obtain ⟨ad, ea, hx0, hx1, hx2, hx3, hx4, hx5, hx6, hx7, hx8, hx9, hx10, hx11, hx12⟩ := at_T44 (Kd.C_below HC.out HB.out) (sp : Int) (by omega) (by omega)
        have hcall := fun W => byPath_calls (l.getD sp z44) s W (HF.out.at_ hn) HF.out.2.1
        subst ea
        rw [Int.toNat_natCast] at hx0 hx1 hx2 hx3 hx4 hx5 hx6 hx7 hx8 hx9 hx10 hx11 hx12
        have hrd : rd_T44 l (sp : Int) = l.getD sp z44 := by unfold rd_T44; rw [Int.toNat_natCast]
        rw [hrd] at hx0 hx1 hx2 hx3 hx4 hx5 hx6 hx7 hx8 hx9 hx11 hx12
        clear hrd
        unfold rowV at hcall
        rw [decide_eq_true hn, Bool.true_and] at hi'
        generalize l.getD sp z44 = y at hx0 hx1 hx2 hx3 hx4 hx5 hx6 hx7 hx8 hx9 hx11 hx12 hcall hi'
        generalize cmpB y.f0 s = cy at hcall hi'
        have HI2 := Aside0.mk hi'
        clear hi' HI HS HS0
        go_wp2_with (go_at_call 48; refine (hcall _).mono ?_; rintro e w5 ⟨rfl, hb⟩)
        go_ret2
        exact ⟨by rw [HI2.out]; by_cases hz : cy = 0 <;> simp [hz], HB.out.trans (hb.mono HB.out.size)⟩
      · have hlz : ¬ ((sp : Int) < (l.length : Int)) := by omega
        rw [decide_eq_false hn, Bool.false_and] at hi'
        subst hi'
        clear HI HS HS0
        go_wp2
        go_ret2
        exact ⟨rfl, HB.out⟩

/-- A row's cells; an empty one's. -/
def rowC (r : S44) : Array Value := #[.string r.f0, .int .i64 r.f1, .int .i64 r.f2.f0, .int .i64 r.f2.f1, .int .i64 r.f2.f2, .int .i64 r.f2.f3, .int .i64 r.f2.f4, .string r.f2.f5, .string r.f2.f6, .string r.f2.f7, .slice none 0 0, .int .i64 r.f2.f8.f1, .bool r.f2.f9]
abbrev zCells : Array Value := #[.string (⟨#[]⟩ : ByteArray), .int .i64 0, .int .i64 0, .int .i64 0, .int .i64 0, .int .i64 0, .int .i64 0, .string (⟨#[]⟩ : ByteArray), .string (⟨#[]⟩ : ByteArray), .string (⟨#[]⟩ : ByteArray), .slice none 0 0, .int .i64 0, .bool false]
theorem size44 : (Tryd.prog.info? 44).map (·.size) = some 13 := by kernel_rfl
theorem tree_below_row {w W : World} {g : Nat} (hB : w.heap.size ≤ g) (hw : Below w.heap.size w W) (cells : Array Value) : Below w.heap.size w (W.setRow g cells) := by
  exact ⟨hw.os, hw.tape, hw.output, by rw [show (W.setRow g cells).heap.size = W.heap.size from by simp [World.setRow]]; exact hw.size, fun k hk => (setRow_other _ _ _ _ (by omega)).trans (hw.block k hk)⟩
theorem store_ev {P : Program} {ops : Array Oper} {rest : List Oper} {o : Oper} {a : Act} {W : World} {Q : Exit → Act → World → Prop} (hgd : o.guard = none) (ty : TypeId) (x y : Operand) (ho : o.op = .store ty x y)
    (g : Nat) (cells : Array Value) (hx : a.eval x = .pointer (some ⟨g, 0, none⟩)) (hy : a.eval y = .agg cells)
    (t : TypeId) (old : Array Value) (hg : W.heap[g]? = some (.cells old t (0, 0))) (hi : (P.info? ty).map (·.size) = some cells.size)
    (hold : old.size = cells.size) (h1 : cells.all (·.oneCell') = true) (w : World) (hB : w.heap.size ≤ g) (hw : Below w.heap.size w W)
    (h : ∀ w1, w1.heap[g]? = some (.cells cells t (0, 0)) → (∀ k, k ≠ g → w1.heap[k]? = W.heap[k]?) → Below w.heap.size w w1 → wpList P ops Q rest (a.put o.dst undef) w1) : wpList P ops Q (o :: rest) a W :=
  wpList_store_row hgd ty x y ho g cells hx hy t old hg hi hold h1 (h _ (setRow_heap _ _ _ _ _ _ hg) (fun k hk => setRow_other _ _ _ _ hk) (tree_below_row hB hw cells))
/-- What stands at a path, its cells one by one; and is there anything? -/
def tree_Tree_Get.f (l : List S44) (n : Int) (s : ByteArray) : Option (ByteArray × Int × Int × Int × Int × Int × Int × ByteArray × ByteArray × ByteArray × Unit × Int × Bool × Bool) :=
  if Fit l s then (let r := if isAt l s = true then l.getD (spot l s) z44 else z44; some (r.f0, r.f1, r.f2.f0, r.f2.f1, r.f2.f2, r.f2.f3, r.f2.f4, r.f2.f5, r.f2.f6, r.f2.f7, r.f2.f8.f0, r.f2.f8.f1, r.f2.f9, isAt l s)) else none
theorem isAt_lt {l : List S44} {s : ByteArray} (h : isAt l s = true) : spot l s < l.length := by
  unfold isAt at h
  rw [Bool.and_eq_true, decide_eq_true_eq] at h
  exact h.1
set_option maxHeartbeats 4000000 in
set_option maxRecDepth 100000 in
theorem get_calls (A : Option Addr) (c : Nat) (l : List S44) (n : Int) (s : ByteArray) (w : World) (hr : Kd.C k44 w A l.length l) (hc : l.length ≤ c) (hf : Fit l s) :
    Calls Tryd.prog 23 #[.agg #[.slice A l.length c, .int .i64 n], .string s] w fun e w' => e = .returned (.tuple #[rowV (if isAt l s = true then l.getD (spot l s) z44 else z44), .bool (isAt l s)]) ∧ Below w.heap.size w w' := by
  have hu44 := Tryd.underlying44
  have hu35 := Tryd.underlying35
  have HB := Aside0.mk (Below.refl w.heap.size w)
  have hcall := fun W hb => search_calls A c l s W (Kd.C_below hr hb) hc hf
  by_cases hi : isAt l s = true
  · rw [if_pos hi, hi]
    simp only [hi] at hcall
    have hlt := isAt_lt hi
    have hlen : (l.length : Int) ≤ 1099511627776 := by have := hf.1; omega
    generalize hsp : spot l s = sp at hcall hlt ⊢
    have hlz : ((sp : Int) < (l.length : Int)) := by omega
    have hx := fun W hb => at_T44 (Kd.C_below (w1 := W) hr hb) (sp : Int) (by omega) (by omega)
    have hrd : rd_T44 l (sp : Int) = l.getD sp z44 := by unfold rd_T44; rw [Int.toNat_natCast]
    rw [hrd, Int.toNat_natCast] at hx
    clear hrd hsp hi
    unfold rowV
    generalize l.getD sp z44 = y at hx ⊢
    have HCALL := Aside0.mk hcall
    have HX := Aside0.mk hx
    clear hcall hx hr
    go_enter Tryd.func23, Tryd.ntmps23
    go_wp2_with (first
      | ((with_reducible refine gate_dst (N := 2) rfl ?_); refine box_event ?hg (N := 2) ?hd (cs := #[.slice A l.length c, .int .i64 n]) (t := 35) ?hr ?_; (case hd => rfl); (case hg => rfl); (case hr => first | (go_simp; done) | (go_simp; rfl)); intro g2 hg w2 hbox hb; have BA := Aside0.mk hbox; clear HB; have HB := Aside0.mk hb; clear hb hbox hg)
      | ((with_reducible refine gate_dst (N := 4) rfl ?_); refine box_event ?hg (N := 4) ?hd (cs := zCells) (t := 44) ?hr ?_; (case hd => rfl); (case hg => rfl); (case hr => first | (go_simp; done) | (go_simp; rfl)); intro g4 hg w4 hbox hb; have BR := Aside0.mk hbox; have GR := Aside0.mk (show w.heap.size ≤ g4 by rw [hg]; exact HB.out.size); have n1 := Aside0.mk (HB.out.trans (hb.mono HB.out.size)); have n2 := Aside0.mk ((hb.block _ (blk_lt BA.out)).trans BA.out); clear HB BA hb hbox hg; have HB := n1; have BA := n2; clear n1 n2; have hcz0 : w4.cell? ⟨g2, 0, none⟩ = some (.slice A l.length c) := (blk_cell BA.out 0).trans rfl)
      | (go_at_call 47; (refine (HCALL.out _ HB.out).mono ?_); rintro e w5 ⟨rfl, hb⟩; clear hcz0; have n1 := Aside0.mk (HB.out.trans (hb.mono HB.out.size)); have n2 := Aside0.mk ((hb.block _ (blk_lt BA.out)).trans BA.out); have n3 := Aside0.mk ((hb.block _ (blk_lt BR.out)).trans BR.out); clear HB BA BR hb; have HB := n1; have BA := n2; have BR := n3; clear n1 n2 n3; have hcz0 : w5.cell? ⟨g2, 0, none⟩ = some (.slice A l.length c) := (blk_cell BA.out 0).trans rfl; obtain ⟨ad, ea, hx0, hx1, hx2, hx3, hx4, hx5, hx6, hx7, hx8, hx9, hx10, hx11, hx12⟩ := HX.out _ HB.out; subst ea)
      | ((with_reducible refine store_ev rfl 44 (.tmp 4) (.tmp 22) rfl g4 (rowC y) ?hx ?hy 44 zCells ?hz ?hi ?hold ?h1 w ?hB ?hw ?_); (case hx => rfl); (case hy => rfl); (case hz => exact BR.out); (case hi => exact size44); (case hold => rfl); (case h1 => simp [rowC, Value.oneCell']); (case hB => exact GR.out); (case hw => exact HB.out); intro w6 hs ho hb; have BR2 := Aside0.mk hs; have HB2 := Aside0.mk hb; clear hs ho hb))
    refine bodyPost_ret (results_ct rfl _ _ g4 44 (rowC y) (0, 0) _ rfl BR2.out Tryd.underlying44 rfl (by kernel_rfl)) rfl ?_
    exact ⟨rfl, HB2.out⟩
  · rw [if_neg hi, (Bool.eq_false_iff.2 hi : isAt l s = false)]
    simp only [(Bool.eq_false_iff.2 hi : isAt l s = false)] at hcall
    generalize spot l s = sp at hcall
    have HCALL := Aside0.mk hcall
    clear hcall hr hi
    go_enter Tryd.func23, Tryd.ntmps23
    go_wp2_with (first
      | ((with_reducible refine gate_dst (N := 2) rfl ?_); refine box_event ?hg (N := 2) ?hd (cs := #[.slice A l.length c, .int .i64 n]) (t := 35) ?hr ?_; (case hd => rfl); (case hg => rfl); (case hr => first | (go_simp; done) | (go_simp; rfl)); intro g2 hg w2 hbox hb; have BA := Aside0.mk hbox; clear HB; have HB := Aside0.mk hb; clear hb hbox hg)
      | ((with_reducible refine gate_dst (N := 4) rfl ?_); refine box_event ?hg (N := 4) ?hd (cs := zCells) (t := 44) ?hr ?_; (case hd => rfl); (case hg => rfl); (case hr => first | (go_simp; done) | (go_simp; rfl)); intro g4 hg w4 hbox hb; have BR := Aside0.mk hbox; have GR := Aside0.mk (show w.heap.size ≤ g4 by rw [hg]; exact HB.out.size); have n1 := Aside0.mk (HB.out.trans (hb.mono HB.out.size)); have n2 := Aside0.mk ((hb.block _ (blk_lt BA.out)).trans BA.out); clear HB BA hb hbox hg; have HB := n1; have BA := n2; clear n1 n2; have hcz0 : w4.cell? ⟨g2, 0, none⟩ = some (.slice A l.length c) := (blk_cell BA.out 0).trans rfl)
      | (go_at_call 47; (refine (HCALL.out _ HB.out).mono ?_); rintro e w5 ⟨rfl, hb⟩; clear hcz0; have n1 := Aside0.mk (HB.out.trans (hb.mono HB.out.size)); have n3 := Aside0.mk ((hb.block _ (blk_lt BR.out)).trans BR.out); clear HB BA BR hb; have HB := n1; have BR := n3; clear n1 n3)
      | ((with_reducible refine store_ev rfl 44 (.tmp 4) (.tmp 17) rfl g4 (rowC z44) ?hx ?hy 44 zCells ?hz ?hi ?hold ?h1 w ?hB ?hw ?_); (case hx => rfl); (case hy => rfl); (case hz => exact BR.out); (case hi => exact size44); (case hold => rfl); (case h1 => simp [rowC, Value.oneCell']); (case hB => exact GR.out); (case hw => exact HB.out); intro w6 hs ho hb; have BR2 := Aside0.mk hs; have HB2 := Aside0.mk hb; clear hs ho hb))
    refine bodyPost_ret (results_ct rfl _ _ g4 44 (rowC z44) (0, 0) _ rfl BR2.out Tryd.underlying44 rfl (by kernel_rfl)) rfl ?_
    exact ⟨rfl, HB2.out⟩
theorem tree_Tree_Get.calls (A : Option Addr) (c : Nat) (l : List S44) (n : Int) (s : ByteArray) (r1 : ByteArray) (r2 r3 r4 r5 r6 r7 : Int) (r8 r9 r10 : ByteArray) (r11 : Unit) (r12 : Int) (r13 r14 : Bool) (w : World) (hr : Kd.C k44 w A l.length l) (hc : l.length ≤ c) (h : tree_Tree_Get.f l n s = some (r1, r2, r3, r4, r5, r6, r7, r8, r9, r10, r11, r12, r13, r14)) :
    Calls Tryd.prog 23 #[.agg #[.slice A l.length c, .int .i64 n], .string s] w fun e w' => e = .returned (.tuple #[.agg #[.string r1, .int .i64 r2, .int .i64 r3, .int .i64 r4, .int .i64 r5, .int .i64 r6, .int .i64 r7, .string r8, .string r9, .string r10, .slice none 0 0, .int .i64 r12, .bool r13], .bool r14]) ∧ Below w.heap.size w w' := by
  unfold tree_Tree_Get.f at h
  split at h
  · rename_i hf
    have h2 := get_calls A c l n s w hr hc hf
    generalize (if isAt l s = true then l.getD (spot l s) z44 else z44) = y at h h2
    simp only [Option.some.injEq, Prod.mk.injEq] at h
    obtain ⟨rfl, rfl, rfl, rfl, rfl, rfl, rfl, rfl, rfl, rfl, _, rfl, rfl, rfl⟩ := h
    exact h2
  · cases h
end Go.Proofs.YtolpamojbiipaaaDoor.XA
/- usage.again at whole numbers: a set that is a map of the call's own. -/







namespace Go.Proofs.YtolpamojbiipaaaDoor.XA
open Go.RowKit Go.Proofs.YtolpamojbiipaaaDoorW.PrintWords Go.Proofs.YtolpamojbiipaaaDoorW.PrintLast Go.Proofs.YtolpamojbiipaaaDoorW.PrintMore
set_option linter.unusedVariables false
set_option linter.unusedSimpArgs false

/-- Block b is the set of the numbers of S. -/
def SetAt (w : World) (b : Nat) (S : List Int) : Prop := ∃ (n : Nat) (D : DataW Unit), w.ownsMap Tryd.prog 3 (plainElem Tryd.prog 4) b n D ∧ n ≤ S.length ∧ ∀ x, (Lit.int .i64 x).wf = true → D.atKey (.int .i64 x) (.lit (.bool false)) = .lit (.bool (decide (x ∈ S)))
theorem SetAt.kept {w w' : World} {b : Nat} {S : List Int} {row : Option Nat} (h : SetAt w b S) (hg : w.grownBy w' row) (hne : some b ≠ row) : SetAt w' b S := by
  obtain ⟨n, D, ho, hn, ha⟩ := h
  exact ⟨n, D, ho.kept hg hne, hn, ha⟩
theorem SetAt.lt {w : World} {b : Nat} {S : List Int} (h : SetAt w b S) : b < w.heap.size := by
  obtain ⟨n, D, ho, _⟩ := h
  exact ho.lt
theorem SetAt.made (w : World) : SetAt (w.alloc (.map #[] 0)) w.heap.size [] :=
  ⟨0, .map [], World.ownsMap_made w _ _ _, Nat.le_refl _, fun x _ => by simp [DataW.atKey]⟩
theorem key3 {x : Int} (hx : (Lit.int .i64 x).wf = true) : keyOf Tryd.prog 3 (.int .i64 x) = some (.int .i64 x) := by
  have hk : Tryd.prog.underlying 3 = some (.int .i64) := by kernel_rfl
  simp [keyOf, mapKey, hk, hx]
set_option maxHeartbeats 2000000 in
set_option maxRecDepth 100000 in
theorem again_calls (S : List Int) (b : Nat) (x : Int) (w : World) (hS : SetAt w b S) (hx : (Lit.int .i64 x).wf = true) (hl : S.length ≤ 1000000) :
    Calls Tryd.prog 44 #[.map (some b), .int .i64 x] w fun e w' => e = .returned (.bool (decide (x ∈ S))) ∧ SetAt w' b (x :: S) ∧ w.grownBy w' (some b) := by
  obtain ⟨n, D, ho, hn, ha⟩ := hS
  have hk : Tryd.prog.underlying 3 = some (.int .i64) := by kernel_rfl
  have hu4 : Tryd.prog.underlying 4 = some .bool := by kernel_rfl
  have hu93 : Tryd.prog.underlying 93 = some (.map 3 4) := by kernel_rfl
  have hz : (zeroValue 4).run Tryd.prog w = .ok (.bool false) w := by kernel_rfl
  have law := Maps.int_keyed (P := Tryd.prog) hk
  obtain ⟨v, ps, hrun, hv⟩ := ho.lookup law hu93 hz (plainElem_bool hu4 false) (key3 hx)
  rw [ha x hx] at hv
  have hvv : v = .bool (decide (x ∈ S)) := by
    unfold plainElem at hv
    rw [hu4] at hv
    cases v <;> simp at hv
    rw [hv.1]
  subst hvv
  generalize hd : decide (x ∈ S) = d at hrun ⊢
  have HO := Aside0.mk ho
  have HM := Aside0.mk ho.isMap
  have HA := Aside0.mk ha
  clear hv hd ha
  go_enter Tryd.func44, Tryd.ntmps44
  go_wp2_with (at_mapUpdate; refine wpList_mapUpdate_own _ rfl _ _ _ 93 rfl 3 4 law hu93 (plainElem Tryd.prog 4) b n D rfl HO.out (by unfold maxLen; omega) _ _ (.int .i64 x) rfl rfl (key3 hx) (.lit (.bool true)) [] (plainElem_bool hu4 true) ?_; intro w1 ho1 hg1)
  go_ret
  refine ⟨rfl, ⟨n + 1, _, ho1, by simp; omega, fun y hy => ?_⟩, hg1⟩
  by_cases hxy : y = x
  · subst hxy
    rw [Maps.atKey_put_same HM.out (by trivial)]
    simp
  · rw [Maps.atKey_put_other (by intro e; injection e with _ e; exact hxy e), HA.out y hy]
    simp [hxy]
end Go.Proofs.YtolpamojbiipaaaDoor.XA
/- slices.Insert of one row among rows of the call's own, and tree.Put, walked by hand. -/







namespace Go.Proofs.YtolpamojbiipaaaDoor.XA
open Go.RowKit Go.Proofs.YtolpamojbiipaaaDoorW.PrintWords Go.Proofs.YtolpamojbiipaaaDoorW.PrintLast Go.Proofs.YtolpamojbiipaaaDoorW.PrintMore
set_option linter.unusedVariables false
set_option linter.unusedSimpArgs false

/-- copy(d, s) at elements of whatever size, d in a row that is known whole. -/
theorem run_copy_rowK {P : Program} (w : World) (dT sT ty elem : TypeId) (size g o dLen dCap : Nat) (a : Addr) (sLen sCap : Nat) (cur : Array Value) (t : TypeId) (cs : List Value)
    (hu : P.underlying dT = some (.slice elem)) (hs : (P.info? elem).map (·.size) = some size)
    (hg : w.heap[g]? = some (.cells cur t (0, 0))) (hn : cs.length = Nat.min sLen dLen * size)
    (hsrc : ∀ j v, cs[j]? = some v → w.cell? (a.add j) = some v) (hfit : o + cs.length ≤ cur.size) (h1 : ∀ v ∈ cs, v.oneCell' = true) :
    (Builtin.copy_ #[dT, sT] ty #[.slice (some ⟨g, o, none⟩) dLen dCap, .slice (some a) sLen sCap]).run P w =
      .ok (goInt (Nat.min sLen dLen)) (w.setRow g (cur.toList.take o ++ cs ++ cur.toList.drop (o + cs.length)).toArray) := by
  have hl := run_loadCells_list (P := P) w a cs hsrc
  have hst := run_storeCells_at P g o t cs 0 cur w hg (by simpa using hfit) h1
  cases hq : P.info? elem with
  | none => simp [hq] at hs
  | some i =>
    have hi : i.size = size := by simpa [hq] using hs
    simp [Builtin.copy_, run_underlying hu, Builtin.lenOf, Builtin.firstCells, sizeOf, typeInfo, hq, hi, ← hn, hl, hst]
theorem wpList_copy_runK (w : World) {P : Program} {ops : Array Oper} {rest : List Oper} {o : Oper} {a : Act} {Q : Exit → Act → World → Prop} (hgd : o.guard = none) (d s : Operand) (t t' : TypeId)
    (ho : o.op = .call { callee := .builtin .copy, args := #[d, s], argTypes := #[t, t'] }) (v u : Value) (hd : a.eval d = v) (hs : a.eval s = u) {v' : Value} {w' : World}
    (hr : (Builtin.copy_ #[t, t'] o.type #[v, u]).run P w = .ok v' w') (h : wpList P ops Q rest (a.put o.dst v') w') : wpList P ops Q (o :: rest) a w := by
  refine wpList_plain hgd fun _ hK => ?_
  unfold Oper.wp execOp
  simp only [ho, resolve, invoke, builtin, Sem.run_bind, Sem.run_pure, Result.andThen_ok, List.map_toArray, List.map_cons, List.map_nil, hd, hs, hr]
  exact hK _ _ h
theorem step_copy_runK {P : Program} {ops : Array Oper} {o : Oper} {a : Act} {w : World} {K : Act → World → Prop} {Q : Exit → Act → World → Prop} {E : Prop}
    (hg : o.guard = none) (d x : Operand) (dT sT : TypeId) (hop : o.op = Op.call { callee := Callee.builtin Builtin.copy, args := #[d, x], argTypes := #[dT, sT] })
    (v u : Value) (hd : a.eval d = v) (hx : a.eval x = u) {v' : Value} {w' : World} (hr : (Builtin.copy_ #[dT, sT] o.type #[v, u]).run P w = .ok v' w') (hK : K (a.put o.dst v') w') :
    if Region.wanted o (yielded ops a.tmps) = true then Oper.wp P o a w K Q else E := by
  have hw : Region.wanted o (yielded ops a.tmps) = true := by simp [Region.wanted, hg]
  rw [if_pos hw]
  unfold Oper.wp
  simp [execOp, hop, resolve, invoke, builtin, hd, hx, hr, Result.andThen]
  exact hK
theorem info44r : ∃ i0 : TypeInfo, Tryd.prog.info? 44 = some i0 ∧ i0.zero = some (.agg zCells) ∧ i0.size = 13 ∧ i0.bytes = 152 := by
  have h : (Tryd.prog.info? 44).map (fun i => (i.zero, i.size, i.bytes)) = some (some (.agg zCells), 13, 152) := by kernel_rfl
  exact info_parts h
theorem cut33 (W : World) (A : Option Addr) (n c l : Nat) (hl : l ≤ n) : (Instr.slice 33 (.slice A n c) (some (.int .i64 (l : Int))) none none).run Tryd.prog W = .ok (sliced A l n c 13) W := by
  have he : Tryd.prog.underlying 33 = some (.slice (Tryd.prog.elem 33)) := by kernel_rfl
  rw [run_slice_l W 33 A n c he .i64 l (by omega) (by omega)]
  have hs : (sizeOf (Tryd.prog.elem 33)).run Tryd.prog W = .ok 13 W := by kernel_rfl
  rw [hs]
  simp only [Result.andThen, Int.toNat_natCast]
theorem head33 (W : World) (A : Option Addr) (n c h : Nat) (hh : h ≤ c) : (Instr.slice 33 (.slice A n c) none (some (.int .i64 (h : Int))) none).run Tryd.prog W = .ok (.slice A h c) W := by
  have he : Tryd.prog.underlying 33 = some (.slice (Tryd.prog.elem 33)) := by kernel_rfl
  rw [run_slice_h W 33 A n c he .i64 h (by omega) (by omega)]
  have hs : (sizeOf (Tryd.prog.elem 33)).run Tryd.prog W = .ok 13 W := by kernel_rfl
  rw [hs]
  simp only [Result.andThen, Int.toNat_natCast, sliced]
  simp
  cases A <;> simp [Addr.add]
theorem take_block {cur : Array Value} {L : List Value} {m : Nat} (h : cur.toList.take m = L) {j : Nat} {u : Value} (hj : L[j]? = some u) : cur[j]? = some u := by
  subst h
  rw [List.getElem?_take] at hj
  split at hj
  · simpa using hj
  · cases hj

set_option maxHeartbeats 4000000 in
set_option maxRecDepth 100000 in
/-- Insert at the end. -/
theorem insert_end (base : Nat) (v : Value) (n : Nat) (L : List Value) (vb : Nat) (vs : List Value) (w : World) (hown : w.ownsRow base 44 13 v n L) (hn : n ≤ 1000000) (hvs : w.heap[vb]? = some (.cells vs.toArray 44 (0, 0))) (hvl : vs.length = 13) (h1 : ∀ u ∈ vs, u.oneCell' = true) (hbase : base ≤ w.heap.size) :
    Calls Tryd.prog 68 #[v, .int .i64 (n : Int), .slice (some ⟨vb, 0, none⟩) 1 1] w fun e w' => ∃ v', e = .returned v' ∧ w'.ownsRow base 44 13 v' (n + 1) (L ++ vs) ∧ w.grownBy w' v.ownBlock := by
  have hu33 : Tryd.prog.underlying 33 = some (.slice 44) := by kernel_rfl
  obtain ⟨i0, hi0, hz0, hzs, hzb⟩ := info44r
  obtain ⟨A, c, rfl⟩ : ∃ A c, v = .slice A n c := by
    rcases hown.2 with ⟨rfl, rfl⟩ | ⟨g, cap, cur, rfl, _⟩
    · exact ⟨none, 0, rfl⟩
    · exact ⟨_, cap, rfl⟩
  have HO := Aside0.mk hown
  have HV := Aside0.mk hvs
  have hcut := fun W => cut33 W A n c n (Nat.le_refl _)
  obtain ⟨tl, htl⟩ : ∃ tl, tl = sliced A n n c 13 := ⟨_, rfl⟩
  rw [← htl] at hcut
  clear htl hown hvs
  go_enter Tryd.func68, Tryd.ntmps68
  go_wp2_with (at_builtin; refine wpList_append_own _ rfl _ _ 33 rfl base 44 i0 (.agg zCells) 13 152 hu33 hi0 hz0 hzs hzb rfl (by decide) _ n L rfl HO.out ⟨vb, 0, none⟩ 1 1 vs rfl hvl ?qc2 h1 (by unfold maxLen; omega) (by omega) hbase ?_; (case qc2 => intro j u hj; rw [Addr.add_lit]; simp [World.cell?, HV.out, hj]); intro v' w1 hown1 hgrow hnil)
  go_ret
  exact ⟨v', rfl, hown1, hgrow⟩

theorem shift_lists (R0 vs : List Value) (i n c : Nat) (hi : i < n) (hc : n + 1 ≤ c) (hs : R0.length = c * 13) (hvl : vs.length = 13) (cs1 R1 R2 : List Value)
    (h1 : cs1 = (R0.drop (i * 13)).take ((n - i) * 13)) (h2 : R1 = R0.take ((i + 1) * 13) ++ cs1 ++ R0.drop ((i + 1) * 13 + cs1.length)) (h3 : R2 = R1.take (i * 13) ++ vs ++ R1.drop (i * 13 + vs.length)) :
    R2.length = c * 13 ∧ R2.take ((n + 1) * 13) = (R0.take (n * 13)).take (i * 13) ++ vs ++ (R0.take (n * 13)).drop (i * 13) := by
  have hl1 : cs1.length = (n - i) * 13 := by rw [h1, List.length_take, List.length_drop]; omega
  have hR1l : R1.length = c * 13 := by rw [h2, List.length_append, List.length_append, List.length_take, List.length_drop, hl1]; omega
  have e1 : R1.take (i * 13) = R0.take (i * 13) := by
    rw [h2, List.append_assoc, List.take_append_of_le_length (by rw [List.length_take]; omega), List.take_take, Nat.min_eq_left (by omega)]
  have e2 : R1.drop (i * 13 + vs.length) = cs1 ++ R0.drop ((i + 1) * 13 + cs1.length) := by
    rw [h2, List.append_assoc, List.drop_append, List.drop_eq_nil_of_le (by rw [List.length_take]; omega), List.nil_append]
    rw [List.length_take, show i * 13 + vs.length - min ((i + 1) * 13) R0.length = 0 by omega, List.drop_zero]
  refine ⟨by rw [h3, List.length_append, List.length_append, List.length_take, List.length_drop]; omega, ?_⟩
  rw [h3, e1, e2, List.take_take, Nat.min_eq_left (show i * 13 ≤ n * 13 by omega), List.drop_take]
  rw [show n * 13 - i * 13 = (n - i) * 13 by omega, ← h1, List.append_assoc, List.take_append, List.take_append, List.take_append, List.length_take]
  rw [List.take_of_length_le (l := R0.take (i * 13)) (by rw [List.length_take]; omega), List.take_of_length_le (l := vs) (by omega), List.take_of_length_le (l := cs1) (by omega)]
  rw [show (n + 1) * 13 - min (i * 13) R0.length - vs.length - cs1.length = 0 by omega, List.take_zero, List.append_nil, List.append_assoc]

set_option maxHeartbeats 4000000 in
set_option maxRecDepth 100000 in
/-- Insert where there is room. -/
theorem insert_room (base g n c i : Nat) (cur : Array Value) (vb : Nat) (vs : List Value) (w : World) (hb : base ≤ g) (hg : w.heap[g]? = some (.cells cur 44 (0, 0))) (hs : cur.size = c * 13) (hc : n + 1 ≤ c) (hcm : c ≤ maxLen) (hi : i < n) (hn : n ≤ 1000000) (hvs : w.heap[vb]? = some (.cells vs.toArray 44 (0, 0))) (hvl : vs.length = 13) (hne : vb ≠ g) (h1 : ∀ u ∈ vs, u.oneCell' = true) (hL1 : ∀ u ∈ cur.toList.take (n * 13), u.oneCell' = true) :
    Calls Tryd.prog 68 #[.slice (some ⟨g, 0, none⟩) n c, .int .i64 (i : Int), .slice (some ⟨vb, 0, none⟩) 1 1] w fun e w' => ∃ v', e = .returned v' ∧ w'.ownsRow base 44 13 v' (n + 1) ((cur.toList.take (n * 13)).take (i * 13) ++ vs ++ (cur.toList.take (n * 13)).drop (i * 13)) ∧ w.grownBy w' (some g) := by
  have hu33 : Tryd.prog.underlying 33 = some (.slice 44) := by kernel_rfl
  have hsz : (Tryd.prog.info? 44).map (·.size) = some 13 := size44
  obtain ⟨cs1, hcs1⟩ : ∃ cs1, cs1 = (cur.toList.drop (i * 13)).take ((n - i) * 13) := ⟨_, rfl⟩
  obtain ⟨R1, hR1⟩ : ∃ R1, R1 = cur.toList.take ((i + 1) * 13) ++ cs1 ++ cur.toList.drop ((i + 1) * 13 + cs1.length) := ⟨_, rfl⟩
  obtain ⟨R2, hR2⟩ : ∃ R2, R2 = R1.take (i * 13) ++ vs ++ R1.drop (i * 13 + vs.length) := ⟨_, rfl⟩
  have hlst : cur.toList.length = c * 13 := by simpa using hs
  have hl1 : cs1.length = (n - i) * 13 := by rw [hcs1, List.length_take, List.length_drop]; omega
  obtain ⟨hR2l, hR2t⟩ := shift_lists cur.toList vs i n c hi hc hlst hvl cs1 R1 R2 hcs1 hR1 hR2
  have hR1l : R1.length = c * 13 := by rw [hR1, List.length_append, List.length_append, List.length_take, List.length_drop, hl1]; omega
  have hcell : ∀ (W : World) (cu : Array Value), W.heap[g]? = some (.cells cu 44 (0, 0)) → ∀ j, W.cell? ⟨g, j, none⟩ = cu[j]? := fun W cu h j => by simp [World.cell?, h]
  have hcp1 : ∀ ty dc sc, (Builtin.copy_ #[33, 33] ty #[.slice (some ⟨g, (i + 1) * 13, none⟩) (n - i) dc, .slice (some ⟨g, i * 13, none⟩) (n + 1 - i) sc]).run Tryd.prog w.drew = .ok (goInt (Nat.min (n + 1 - i) (n - i))) (w.drew.setRow g R1.toArray) := fun ty dc sc => by
    rw [hR1]
    refine run_copy_rowK w.drew 33 33 ty 44 13 g ((i + 1) * 13) _ dc ⟨g, i * 13, none⟩ _ sc cur 44 cs1 hu33 hsz hg ?_ ?_ ?_ ?_
    · rw [hl1, show Nat.min (n + 1 - i) (n - i) = n - i from by simp only [Nat.min_def]; split <;> omega]
    · intro j v hj
      rw [Addr.add_lit, hcell w.drew cur hg]
      rw [hcs1, List.getElem?_take] at hj
      split at hj
      · rw [List.getElem?_drop] at hj; simpa using hj
      · cases hj
    · rw [hl1]; omega
    · intro v hv
      refine hL1 v ?_
      rw [hcs1, show (n - i) * 13 = n * 13 - i * 13 by omega, ← List.drop_take] at hv
      exact List.mem_of_mem_drop hv
  obtain ⟨W1, hW1⟩ : ∃ W1, W1 = w.drew.setRow g R1.toArray := ⟨_, rfl⟩
  rw [← hW1] at hcp1
  have hg1 : W1.heap[g]? = some (.cells R1.toArray 44 (0, 0)) := by rw [hW1]; exact setRow_heap _ _ _ _ _ _ (show w.drew.heap[g]? = _ from hg)
  have hv1 : W1.heap[vb]? = some (.cells vs.toArray 44 (0, 0)) := by rw [hW1]; exact (setRow_other _ _ _ _ hne).trans hvs
  have hcp2 : ∀ ty dc, (Builtin.copy_ #[33, 33] ty #[.slice (some ⟨g, i * 13, none⟩) (n + 1 - i) dc, .slice (some ⟨vb, 0, none⟩) 1 1]).run Tryd.prog W1 = .ok (goInt (Nat.min 1 (n + 1 - i))) (W1.setRow g R2.toArray) := fun ty dc => by
    rw [hR2]
    refine run_copy_rowK W1 33 33 ty 44 13 g (i * 13) _ dc ⟨vb, 0, none⟩ _ 1 R1.toArray 44 vs hu33 hsz hg1 ?_ ?_ ?_ h1
    · rw [hvl, show Nat.min 1 (n + 1 - i) = 1 from by simp only [Nat.min_def]; split <;> omega]
    · intro j v hj
      rw [Addr.add_lit]
      simp [World.cell?, hv1, hj]
    · simp [hR1l, hvl]; omega
  have hsa : w.shape? vb = some (44, 13) := by simp [World.shape?, hvs, hvl]
  have hsb : w.shape? g = some (44, c * 13) := by simp [World.shape?, hg, hs]
  have hfa : w.frozen? ⟨vb, 0, none⟩ = false := by simp [World.frozen?, hvs]
  have hfe : w.frozen? ⟨vb, 13, none⟩ = false := by simp [World.frozen?, hvs]
  have hov : ∀ lb cb, (callFunc 81 #[.slice (some ⟨vb, 0, none⟩) 1 1, .slice (some ⟨g, (i + 1) * 13, none⟩) lb cb]).run Tryd.prog w = .ok (.value (.bool false)) w := fun lb cb => by
    rw [run_callFunc_extern Tryd.func81 (by kernel_rfl) (by kernel_rfl) (by kernel_rfl) (e := Extern.SlicesOverlaps.overlaps #[33, 33] #[4]) (by kernel_rfl),
      Lib.run_overlaps_apart w 33 4 44 hu33 13 (fun _ => by kernel_rfl) ⟨vb, 0, none⟩ ⟨g, (i + 1) * 13, none⟩ 1 1 lb cb hne 44 44 13 (c * 13) hsa hsb (by omega) hfa hfe]
    rfl
  have hcutA : ∀ W, (Instr.slice 33 (.slice (some ⟨g, 0, none⟩) n c) (some (.int .i64 (i : Int))) none none).run Tryd.prog W = .ok (.slice (some ⟨g, i * 13, none⟩) (n - i) (c - i)) W := fun W => by
    rw [cut33 W _ n c i (by omega)]; simp only [sliced, if_neg (show ¬ c = i by omega), Option.map_some, Addr.add_lit, Nat.zero_add]
  have hcutB : ∀ W, (Instr.slice 33 (.slice (some ⟨g, 0, none⟩) (n + 1) c) (some (.int .i64 (i : Int))) none none).run Tryd.prog W = .ok (.slice (some ⟨g, i * 13, none⟩) (n + 1 - i) (c - i)) W := fun W => by
    rw [cut33 W _ (n + 1) c i (by omega)]; simp only [sliced, if_neg (show ¬ c = i by omega), Option.map_some, Addr.add_lit, Nat.zero_add]
  have hcutC : ∀ W, (Instr.slice 33 (.slice (some ⟨g, 0, none⟩) (n + 1) c) (some (.int .i64 ((i : Int) + 1))) none none).run Tryd.prog W = .ok (.slice (some ⟨g, (i + 1) * 13, none⟩) (n - i) (c - (i + 1))) W := fun W => by
    rw [show (i : Int) + 1 = ((i + 1 : Nat) : Int) by omega, cut33 W _ (n + 1) c (i + 1) (by omega)]; simp only [sliced, if_neg (show ¬ c = i + 1 by omega), Option.map_some, Addr.add_lit, Nat.zero_add, Nat.add_sub_add_right]
  have hhead : ∀ W, (Instr.slice 33 (.slice (some ⟨g, 0, none⟩) n c) none (some (.int .i64 ((n : Int) + 1))) none).run Tryd.prog W = .ok (.slice (some ⟨g, 0, none⟩) (n + 1) c) W := fun W => by
    rw [show (n : Int) + 1 = ((n + 1 : Nat) : Int) by omega]; exact head33 W _ n c (n + 1) hc
  have mixed : Tryd.prog.follows Departure.mixedOrders = true := by kernel_rfl
  have hw1 : IntKind.i64.wrap ((i : Int) + 1) = (i : Int) + 1 := by rw [IntKind.wrap_i64]; omega
  have hq1 : (0 : Int) ≤ (i : Int) + 1 := by omega
  have hq2 : i ≤ n := by omega
  have hq3 : (i : Int) + 1 ≤ (n : Int) + 1 := by omega
  have hq4 : ((i : Int) + 1).toNat = i + 1 := by omega
  have hq5 : ¬ (c = i + 1) := by omega
  have hq6 : ¬ (c = i) := by omega
  have hq7 : (i : Int) ≤ (n : Int) + 1 := by omega
  have hni : ((i : Int) == (n : Int)) = false := beq_eq_false_iff_ne.2 (by omega)
  have hno : ¬ ((c : Int) < (n : Int) + 1) := by omega
  have hnb : (n : Int) ≤ 1000000 := by omega
  have HC1 := Aside0.mk hcp1
  have HG1 := Aside0.mk hg1
  have HR2 := Aside0.mk hR2t
  have HL2 := Aside0.mk hR2l
  have HB1 : Aside0 (w.grownBy W1 (some g)) := ⟨by rw [hW1]; exact ⟨rfl, rfl, rfl, by simp [World.setRow], fun k _ hk => (setRow_other _ _ _ _ (fun e => hk (by rw [e]))).trans rfl⟩⟩
  clear hcp1 hcell hg1 hv1 hsa hsb hfa hfe hR2l hR2t hcs1 hR1 hR2 hW1
  go_enter Tryd.func68, Tryd.ntmps68
  go_wp2_with (simp only [hov])
  go_region_law_o (refine step_copy_runK rfl _ _ 33 33 rfl (.slice (some ⟨g, (i + 1) * 13, none⟩) (n - i) (c - (i + 1))) (.slice (some ⟨g, i * 13, none⟩) (n + 1 - i) (c - i)) (by simp [Act.eval, Act.put]) (by simp [Act.eval, Act.put]) (HC1.out 3 (c - (i + 1)) (c - i)) ?_)
  go_wp2
  go_ret
  refine ⟨_, rfl, ⟨?_, .inr ⟨g, c, R2.toArray, rfl, hb, setRow_heap _ _ _ _ _ _ HG1.out, hc, hcm, by simpa using HL2.out, by simpa using HR2.out⟩⟩, ?_⟩
  · have := HL2.out
    rw [← HR2.out, List.length_take]
    omega
  · have hB := HB1.out
    exact ⟨hB.os, hB.tape, hB.output, by simpa [World.setRow] using hB.size, fun k hk hne => (setRow_other _ _ _ _ (fun e => hne (by rw [e]))).trans (hB.block k hk hne)⟩

theorem grow_lists (L ROW vs R1 R2 : List Value) (i n G : Nat) (hi : i < n) (hG : n + 1 ≤ G) (hL : L.length = n * 13) (hR : ROW.length = G * 13) (hRt : ROW.take (i * 13) = L.take (i * 13)) (hvl : vs.length = 13)
    (h1 : R1 = ROW.take (i * 13) ++ vs ++ ROW.drop (i * 13 + vs.length)) (h2 : R2 = R1.take ((i + 1) * 13) ++ L.drop (i * 13) ++ R1.drop ((i + 1) * 13 + (L.drop (i * 13)).length)) :
    R1.length = G * 13 ∧ R2.length = G * 13 ∧ R2.take ((n + 1) * 13) = L.take (i * 13) ++ vs ++ L.drop (i * 13) := by
  have hd : (L.drop (i * 13)).length = (n - i) * 13 := by rw [List.length_drop, hL]; omega
  have hR1l : R1.length = G * 13 := by rw [h1, List.length_append, List.length_append, List.length_take, List.length_drop]; omega
  have e1 : R1.take ((i + 1) * 13) = L.take (i * 13) ++ vs := by
    rw [h1, hRt, List.take_append_of_le_length (by rw [List.length_append, List.length_take]; omega), List.take_of_length_le (by rw [List.length_append, List.length_take]; omega)]
  refine ⟨hR1l, by rw [h2, List.length_append, List.length_append, List.length_take, hd, List.length_drop]; omega, ?_⟩
  rw [h2, e1, List.take_append_of_le_length (by rw [List.length_append, List.length_append, List.length_take, hd]; omega), List.take_of_length_le (by rw [List.length_append, List.length_append, List.length_take, hd]; omega)]
set_option maxHeartbeats 4000000 in
set_option maxRecDepth 100000 in
/-- Insert where there is no room. -/
theorem insert_grow (base g n c i : Nat) (cur : Array Value) (vb : Nat) (vs : List Value) (w : World) (hb : base ≤ w.heap.size) (hg : w.heap[g]? = some (.cells cur 44 (0, 0))) (hs : cur.size = c * 13) (hnc : n ≤ c) (hc : c < n + 1) (hi : i < n) (hn : n ≤ 1000000) (hvs : w.heap[vb]? = some (.cells vs.toArray 44 (0, 0))) (hvl : vs.length = 13) (h1 : ∀ u ∈ vs, u.oneCell' = true) (hL1 : ∀ u ∈ cur.toList.take (n * 13), u.oneCell' = true) :
    Calls Tryd.prog 68 #[.slice (some ⟨g, 0, none⟩) n c, .int .i64 (i : Int), .slice (some ⟨vb, 0, none⟩) 1 1] w fun e w' => ∃ v', e = .returned v' ∧ w'.ownsRow base 44 13 v' (n + 1) ((cur.toList.take (n * 13)).take (i * 13) ++ vs ++ (cur.toList.take (n * 13)).drop (i * 13)) ∧ w.grownBy w' (some g) := by
  have hu33 : Tryd.prog.underlying 33 = some (.slice 44) := by kernel_rfl
  have hu3 : Tryd.prog.underlying 3 = some (.int .i64) := by kernel_rfl
  have hsz : (Tryd.prog.info? 44).map (·.size) = some 13 := size44
  obtain ⟨i0, hi0, hz0, hzs, hzb⟩ := info44r
  obtain ⟨L, hLd⟩ : ∃ L, L = cur.toList.take (n * 13) := ⟨_, rfl⟩
  rw [← hLd] at hL1 ⊢
  have hL : L.length = n * 13 := by rw [hLd, List.length_take]; simp [hs]; omega
  have hLc : ∀ (W : World), W.heap[g]? = some (.cells cur 44 (0, 0)) → ∀ j u, L[j]? = some u → W.cell? ⟨g, j, none⟩ = some u := fun W h j u hj => by
    rw [show W.cell? ⟨g, j, none⟩ = cur[j]? by simp [World.cell?, h]]
    exact take_block hLd.symm hj
  have hgw : g < w.heap.size := (Array.getElem?_eq_some_iff.1 hg).1
  have hvw : vb < w.heap.size := (Array.getElem?_eq_some_iff.1 hvs).1
  have hold : (Builtin.firstCells i0.size i (.slice (some ⟨g, 0, none⟩) i c)).run Tryd.prog w.drew = .ok (L.take (i * 13)).toArray w.drew := by
    rw [hzs]
    exact run_firstCells_some w.drew 13 i ⟨g, 0, none⟩ i c (L.take (i * 13)) (by rw [List.length_take]; omega) (fun j v hj => by
      rw [Addr.add_lit, Nat.zero_add]
      rw [List.getElem?_take] at hj
      split at hj
      · exact hLc w.drew hg j v hj
      · cases hj)
  have hik : i + (n + 1 - i) = n + 1 := by omega
  have hrz := fun ty => Lib.run_append_grow_zeros (P := Tryd.prog) w 33 3 ty 44 i0 (.agg zCells) .i64 .i64 hu33 hu3 hi0 hz0 (some ⟨g, 0, none⟩) i c (L.take (i * 13)) hold (n + 1 - i) (by omega) (by omega) (by omega) (by omega) (by rw [hzb]; omega) (by rw [hzb, hik]; exact growslice_fits hc (by omega))
  simp only [hik] at hrz
  obtain ⟨G, hGd⟩ : ∃ G, G = grownCap w (n + 1) c 44 := ⟨_, rfl⟩
  have hGn : n + 1 ≤ G := by rw [hGd]; exact grownCap_ge w _ _ _
  have hGm : G ≤ maxLen := by rw [hGd]; exact grownCap_le_maxLen w (n + 1) c 44 (by unfold maxLen; omega)
  rw [← hGd] at hrz
  obtain ⟨ROW, hROW⟩ : ∃ ROW : Array Value, ROW = (L.take (i * 13)).toArray ++ Builtin.zeroCells (Value.agg zCells).cells (n + 1 - i) ++ Builtin.zeroCells (Value.agg zCells).cells (G - (n + 1)) := ⟨_, rfl⟩
  rw [← hROW] at hrz
  have hRl : ROW.toList.length = G * 13 := by
    rw [hROW]
    simp [Builtin.zeroCells, Value.cells, hL]
    omega
  have hRt : ROW.toList.take (i * 13) = L.take (i * 13) := by
    rw [hROW]
    simp only [Array.toList_append, List.append_assoc]
    rw [List.take_append_of_le_length (by rw [List.length_take]; omega), List.take_take, Nat.min_self]
  obtain ⟨R1, hR1⟩ : ∃ R1, R1 = ROW.toList.take (i * 13) ++ vs ++ ROW.toList.drop (i * 13 + vs.length) := ⟨_, rfl⟩
  obtain ⟨R2, hR2⟩ : ∃ R2, R2 = R1.take ((i + 1) * 13) ++ L.drop (i * 13) ++ R1.drop ((i + 1) * 13 + (L.drop (i * 13)).length) := ⟨_, rfl⟩
  obtain ⟨hR1l, hR2l, hR2t⟩ := grow_lists L ROW.toList vs R1 R2 i n G hi hGn hL hRl hRt hvl hR1 hR2
  obtain ⟨h, hh⟩ : ∃ h, h = w.heap.size := ⟨_, rfl⟩
  rw [← hh] at hrz
  obtain ⟨W1, hW1⟩ : ∃ W1, W1 = w.drew.alloc (.cells ROW 44) := ⟨_, rfl⟩
  rw [← hW1] at hrz
  have hg1 : W1.heap[h]? = some (.cells ROW 44 (0, 0)) := by rw [hW1, hh]; exact heap_alloc_new w.drew _
  have hold1 : ∀ k, k < w.heap.size → W1.heap[k]? = w.heap[k]? := fun k hk => by rw [hW1]; exact (below_alloc (Below.refl w.drew.heap.size w.drew) _).block k hk
  obtain ⟨W2, hW2⟩ : ∃ W2, W2 = W1.setRow h R1.toArray := ⟨_, rfl⟩
  have hcpA : ∀ ty dc, (Builtin.copy_ #[33, 33] ty #[.slice (some ⟨h, i * 13, none⟩) (n + 1 - i) dc, .slice (some ⟨vb, 0, none⟩) 1 1]).run Tryd.prog W1 = .ok (goInt (Nat.min 1 (n + 1 - i))) W2 := fun ty dc => by
    rw [hW2, hR1]
    refine run_copy_rowK W1 33 33 ty 44 13 h (i * 13) _ dc ⟨vb, 0, none⟩ _ 1 ROW 44 vs hu33 hsz hg1 ?_ ?_ ?_ h1
    · rw [hvl, show Nat.min 1 (n + 1 - i) = 1 from by simp only [Nat.min_def]; split <;> omega]
    · intro j v hj
      rw [Addr.add_lit]
      simp [World.cell?, hold1 vb hvw, hvs, hj]
    · simp at hRl; rw [hvl]; omega
  have hg2 : W2.heap[h]? = some (.cells R1.toArray 44 (0, 0)) := by rw [hW2]; exact setRow_heap _ _ _ _ _ _ hg1
  have hold2 : ∀ k, k < w.heap.size → W2.heap[k]? = w.heap[k]? := fun k hk => by rw [hW2]; exact (setRow_other _ _ _ _ (by omega)).trans (hold1 k hk)
  obtain ⟨W3, hW3⟩ : ∃ W3, W3 = W2.drew.setRow h R2.toArray := ⟨_, rfl⟩
  have hcpB : ∀ ty dc sc, (Builtin.copy_ #[33, 33] ty #[.slice (some ⟨h, (i + 1) * 13, none⟩) (n - i) dc, .slice (some ⟨g, i * 13, none⟩) (n - i) sc]).run Tryd.prog W2.drew = .ok (goInt (Nat.min (n - i) (n - i))) W3 := fun ty dc sc => by
    rw [hW3, hR2]
    refine run_copy_rowK W2.drew 33 33 ty 44 13 h ((i + 1) * 13) _ dc ⟨g, i * 13, none⟩ _ sc R1.toArray 44 (L.drop (i * 13)) hu33 hsz hg2 ?_ ?_ ?_ ?_
    · rw [List.length_drop, hL, show Nat.min (n - i) (n - i) = n - i from Nat.min_self _]; omega
    · intro j v hj
      rw [Addr.add_lit]
      rw [List.getElem?_drop] at hj
      exact hLc W2.drew ((show W2.drew.heap[g]? = W2.heap[g]? from rfl).trans ((hold2 g hgw).trans hg)) _ _ hj
    · rw [List.length_drop, hL]; simp [hR1l]; omega
    · exact fun v hv => hL1 v (List.mem_of_mem_drop hv)
  have hg3 : W3.heap[h]? = some (.cells R2.toArray 44 (0, 0)) := by rw [hW3]; exact setRow_heap _ _ _ _ _ _ (show W2.drew.heap[h]? = _ from hg2)
  have hend : w.grownBy W3 (some g) := by
    refine ⟨by rw [hW3, hW2, hW1]; rfl, by rw [hW3, hW2, hW1]; rfl, by rw [hW3, hW2, hW1]; rfl, ?_, fun k hk _ => ?_⟩
    · have := (Array.getElem?_eq_some_iff.1 hg3).1; omega
    · rw [hW3]; exact (setRow_other _ _ _ _ (by omega)).trans ((show W2.drew.heap[k]? = W2.heap[k]? from rfl).trans (hold2 k hk))
  have hcutA : ∀ W, (Instr.slice 33 (.slice (some ⟨g, 0, none⟩) n c) (some (.int .i64 (i : Int))) none none).run Tryd.prog W = .ok (.slice (some ⟨g, i * 13, none⟩) (n - i) (c - i)) W := fun W => by
    rw [cut33 W _ n c i (by omega)]; simp only [sliced, if_neg (show ¬ c = i by omega), Option.map_some, Addr.add_lit, Nat.zero_add]
  have hcutB : ∀ W, (Instr.slice 33 (.slice (some ⟨h, 0, none⟩) (n + 1) G) (some (.int .i64 (i : Int))) none none).run Tryd.prog W = .ok (.slice (some ⟨h, i * 13, none⟩) (n + 1 - i) (G - i)) W := fun W => by
    rw [cut33 W _ (n + 1) G i (by omega)]; simp only [sliced, if_neg (show ¬ G = i by omega), Option.map_some, Addr.add_lit, Nat.zero_add]
  have hhead : ∀ W, (Instr.slice 33 (.slice (some ⟨g, 0, none⟩) n c) none (some (.int .i64 (i : Int))) none).run Tryd.prog W = .ok (.slice (some ⟨g, 0, none⟩) i c) W := fun W => head33 W _ n c i (by omega)
  have hrz2 : ∀ ty, (Builtin.append_ #[33, 3] ty #[.slice (some ⟨g, 0, none⟩) i c, .int .i64 ((n : Int) + 1 - (i : Int))]).run Tryd.prog w = .ok (.slice (some ⟨h, 0, none⟩) (n + 1) G) W1 := fun ty => by
    rw [show (n : Int) + 1 - (i : Int) = ((n + 1 - i : Nat) : Int) by omega]; exact hrz ty
  have mixed : Tryd.prog.follows Departure.mixedOrders = true := by kernel_rfl
  have hw1 : IntKind.i64.wrap ((i : Int) + 1) = (i : Int) + 1 := by rw [IntKind.wrap_i64]; omega
  have hq1 : (0 : Int) ≤ (i : Int) + 1 := by omega
  have hq2 : i ≤ n := by omega
  have hq3 : (i : Int) + 1 ≤ (n : Int) + 1 := by omega
  have hq4 : ((i : Int) + 1).toNat = i + 1 := by omega
  have hq5 : ¬ (G = i + 1) := by omega
  have hq6 : ¬ (c = i) := by omega
  have hq7 : (i : Int) ≤ (n : Int) + 1 := by omega
  have hq8 : ¬ (G = i) := by omega
  have hni : ((i : Int) == (n : Int)) = false := beq_eq_false_iff_ne.2 (by omega)
  have hno : ((c : Int) < (n : Int) + 1) := by omega
  have hnb : (n : Int) ≤ 1000000 := by omega
  have HEND := Aside0.mk hend
  have HG3 := Aside0.mk hg3
  have HR2 := Aside0.mk hR2t
  have HL2 := Aside0.mk hR2l
  have HGD := Aside0.mk hGd
  have HH := Aside0.mk hh
  clear hend hg3 hR2t hR2l hGd hh hrz hg1 hg2 hold1 hold2 hW1 hW2 hW3 hROW hRt hRl hR1 hR2 hR1l hLc hold hik hLd
  go_enter Tryd.func68, Tryd.ntmps68
  go_wp2_with (first | (at_builtin; refine Lib.wpList_append_run _ rfl _ _ _ _ rfl _ _ rfl rfl _ _ (hrz2 _) ?_) | (at_builtin; refine wpList_copy_runK W1 rfl _ _ 33 33 rfl _ _ rfl rfl (hcpA _ _) ?_))
  go_region_law_o (refine step_copy_runK rfl _ _ 33 33 rfl (.slice (some ⟨h, (i + 1) * 13, none⟩) (n - i) (G - (i + 1))) (.slice (some ⟨g, i * 13, none⟩) (n - i) (c - i)) (by simp [Act.eval, Act.put]) (by simp [Act.eval, Act.put]) (hcpB 3 (G - (i + 1)) (c - i)) ?_)
  go_wp2
  go_ret
  refine ⟨_, rfl, ⟨?_, .inr ⟨h, G, R2.toArray, rfl, by have := HH.out; omega, HG3.out, hGn, hGm, by simpa using HL2.out, by simpa using HR2.out⟩⟩, HEND.out⟩
  have := HL2.out
  rw [← HR2.out, List.length_take]
  omega
end Go.Proofs.YtolpamojbiipaaaDoor.XA
/- slices.Clone of rows and tree.Put, walked by hand. -/


namespace Go.Proofs.YtolpamojbiipaaaDoor.XA
open Go.RowKit Go.Proofs.YtolpamojbiipaaaDoorW.PrintWords Go.Proofs.YtolpamojbiipaaaDoorW.PrintLast Go.Proofs.YtolpamojbiipaaaDoorW.PrintMore
set_option linter.unusedVariables false
set_option linter.unusedSimpArgs false

/-- Rows' cells, one behind the other. -/
def cellsL (l : List S44) : List Value := l.flatMap fun r => (rowC r).toList
theorem cellsL_cons (r : S44) (l : List S44) : cellsL (r :: l) = (rowC r).toList ++ cellsL l := rfl
theorem rowC_len (r : S44) : (rowC r).toList.length = 13 := rfl
theorem rowC_one (r : S44) : ∀ u ∈ (rowC r).toList, u.oneCell' = true := by
  intro u hu
  simp [rowC] at hu
  rcases hu with rfl | rfl | rfl | rfl | rfl | rfl | rfl | rfl | rfl | rfl | rfl | rfl | rfl <;> rfl
theorem cellsL_len : ∀ l : List S44, (cellsL l).length = l.length * 13
  | [] => rfl
  | r :: l => by rw [cellsL_cons, List.length_append, cellsL_len l, rowC_len, List.length_cons]; omega
theorem cellsL_one : ∀ l : List S44, ∀ u ∈ cellsL l, u.oneCell' = true
  | [], u, h => by simp [cellsL] at h
  | r :: l, u, h => by
    rw [cellsL_cons] at h
    rcases List.mem_append.1 h with h | h
    · exact rowC_one r u h
    · exact cellsL_one l u h
theorem cellsL_append (a b : List S44) : cellsL (a ++ b) = cellsL a ++ cellsL b := by simp [cellsL]
theorem cellsL_take : ∀ (l : List S44) (i : Nat), (cellsL l).take (i * 13) = cellsL (l.take i)
  | [], i => by simp [cellsL]
  | r :: l, 0 => by simp [cellsL]
  | r :: l, i + 1 => by
    rw [List.take_succ_cons, cellsL_cons, cellsL_cons, List.take_append, List.take_of_length_le (by rw [rowC_len]; omega), rowC_len, show (i + 1) * 13 - 13 = i * 13 by omega, cellsL_take l i]
theorem cellsL_drop : ∀ (l : List S44) (i : Nat), (cellsL l).drop (i * 13) = cellsL (l.drop i)
  | [], i => by simp [cellsL]
  | r :: l, 0 => by simp
  | r :: l, i + 1 => by
    rw [List.drop_succ_cons, cellsL_cons, List.drop_append, List.drop_eq_nil_of_le (by rw [rowC_len]; omega), List.nil_append, rowC_len, show (i + 1) * 13 - 13 = i * 13 by omega, cellsL_drop l i]
theorem cellsL_mid (l : List S44) (i : Nat) (hi : i < l.length) : ((cellsL l).drop (i * 13)).take 13 = (rowC (l[i])).toList := by
  rw [cellsL_drop, List.drop_eq_getElem_cons hi, cellsL_cons, List.take_append_of_le_length (by rw [rowC_len]; exact Nat.le_refl _), List.take_of_length_le (by rw [rowC_len]; exact Nat.le_refl _)]
theorem reps_cells {R : S44 → List Value → Prop} (hR : ∀ x, R x (rowC x).toList) (l : List S44) : Reps R 13 l (cellsL l) := by
  refine ⟨cellsL_len l, fun j p hj => ?_⟩
  obtain ⟨hl, rfl⟩ := List.getElem?_eq_some_iff.1 hj
  rw [cellsL_mid l j hl]
  exact hR _
theorem reps_eq {w : World} {l : List S44} {cs : List Value} (h : Reps (k44.K w) 13 l cs) : cs = cellsL l := by
  apply List.ext_getElem?
  intro j
  have hl := h.1
  rcases Nat.lt_or_ge j (l.length * 13) with hj | hj
  · have hq : j / 13 < l.length := by omega
    have h2 := k44_open (h.2 (j / 13) _ (List.getElem?_eq_getElem hq))
    have e1 : (cs.drop (j / 13 * 13)).take 13 = ((cellsL l).drop (j / 13 * 13)).take 13 := by rw [h2, cellsL_mid l _ hq]; rfl
    have e2 := congrArg (fun x : List Value => x[j % 13]?) e1
    simp only [List.getElem?_take, List.getElem?_drop, if_pos (show j % 13 < 13 by omega), show j / 13 * 13 + j % 13 = j by omega] at e2
    exact e2
  · rw [List.getElem?_eq_none (by omega), List.getElem?_eq_none (by rw [cellsL_len]; omega)]
/-- What is read has these cells. -/
theorem reads_cells {w : World} {ad : Addr} {l : List S44} (h : Kd.C k44 w (some ad) l.length l) : ∀ j u, (cellsL l)[j]? = some u → w.cell? (ad.add j) = some u := by
  obtain ⟨inner, hr, hc⟩ := ReadsRow.inner_ h
  have e : inner = cellsL l := reps_eq hr
  subst e
  exact hc
theorem own_reads {w : World} {base : Nat} {v : Value} {l : List S44} (h : w.ownsRow base 44 13 v l.length (cellsL l)) : Kd.R k44 44 w base (fun _ => True) v l :=
  ⟨fun _ _ => trivial, cellsL l, h, reps_cells (fun x => k44_mkM w base _ x) l⟩

theorem insert_calls (base : Nat) (v : Value) (l : List S44) (i : Nat) (r : S44) (vb : Nat) (w : World) (hown : w.ownsRow base 44 13 v l.length (cellsL l)) (hi : i ≤ l.length) (hn : l.length ≤ 1000000) (hvs : w.heap[vb]? = some (.cells (rowC r) 44 (0, 0))) (hne : some vb ≠ v.ownBlock) (hbase : base ≤ w.heap.size) :
    Calls Tryd.prog 68 #[v, .int .i64 (i : Int), .slice (some ⟨vb, 0, none⟩) 1 1] w fun e w' => ∃ v', e = .returned v' ∧ w'.ownsRow base 44 13 v' (l.take i ++ r :: l.drop i).length (cellsL (l.take i ++ r :: l.drop i)) ∧ w.grownBy w' v.ownBlock := by
  have hlen : (l.take i ++ r :: l.drop i).length = l.length + 1 := by rw [List.length_append, List.length_cons, List.length_take, List.length_drop]; omega
  have hcells : cellsL (l.take i ++ r :: l.drop i) = (cellsL l).take (i * 13) ++ (rowC r).toList ++ (cellsL l).drop (i * 13) := by
    rw [cellsL_append, cellsL_cons, cellsL_take, cellsL_drop, List.append_assoc]
  rw [hlen, hcells]
  have hvs' : w.heap[vb]? = some (.cells (rowC r).toList.toArray 44 (0, 0)) := by simpa using hvs
  rcases Nat.lt_or_ge i l.length with h | h
  · rcases hown.2 with ⟨_, h0⟩ | ⟨g, cap, cur, rfl, hb, hg, hnc, hcm, hs, ht⟩
    · omega
    · have hne' : vb ≠ g := fun e => hne (by rw [e]; rfl)
      rw [← ht]
      have hone : ∀ u ∈ cur.toList.take (l.length * 13), u.oneCell' = true := by rw [ht]; exact cellsL_one l
      by_cases hc : l.length + 1 ≤ cap
      · exact insert_room base g l.length cap i cur vb (rowC r).toList w hb hg hs hc hcm h hn hvs' (rowC_len r) hne' (rowC_one r) hone
      · exact insert_grow base g l.length cap i cur vb (rowC r).toList w hbase hg hs hnc (by omega) h hn hvs' (rowC_len r) (rowC_one r) hone
  · obtain rfl : i = l.length := by omega
    rw [← cellsL_len, List.take_length, List.drop_length, List.append_nil]
    exact insert_end base v l.length (cellsL l) vb (rowC r).toList w hown hn hvs' (rowC_len r) (rowC_one r) hbase

set_option maxHeartbeats 4000000 in
set_option maxRecDepth 100000 in
/-- A clone of rows. -/
theorem clone_calls (A : Option Addr) (c : Nat) (l : List S44) (w : World) (hr : Kd.C k44 w A l.length l) (hn : l.length ≤ 1000000) :
    Calls Tryd.prog 50 #[.slice A l.length c] w fun e w' => ∃ v', e = .returned v' ∧ w'.ownsRow w.heap.size 44 13 v' l.length (cellsL l) ∧ Below w.heap.size w w' := by
  have hu33 : Tryd.prog.underlying 33 = some (.slice 44) := by kernel_rfl
  obtain ⟨i0, hi0, hz0, hzs, hzb⟩ := info44r
  have q33 : ∀ (w : World) (a : Option Addr) (n c n' c' : Nat), (binOp .eql 33 (.slice a n c) (.slice none n' c')).run Tryd.prog w = .ok (.bool a.isNone) w := fun w a n c n' c' => Lib.run_eql_slice_nil w _ _ a n c n' c' hu33
  cases A with
  | none =>
    have h0 : l.length = 0 := by
      rcases Nat.eq_zero_or_pos l.length with h | h
      · exact h
      · obtain ⟨ad, e, _⟩ := hr.2.2 h
        cases e
    have hl : l = [] := List.length_eq_zero_iff.1 h0
    subst hl
    clear hr
    go_enter Tryd.func50, Tryd.ntmps50
    go_wp2
    go_ret
    exact ⟨_, rfl, World.ownsRow_nil _ _ _ _, Below.refl _ _⟩
  | some ad =>
    have HC := Aside0.mk (reads_cells hr)
    clear hr
    obtain ⟨b, o, sp⟩ := ad
    go_enter Tryd.func50, Tryd.ntmps50
    go_wp2_with (at_builtin; go_loud (refine wpList_append_own _ rfl _ _ 33 rfl w.heap.size 44 i0 (.agg zCells) 13 152 hu33 hi0 hz0 hzs hzb rfl (by decide) _ _ _ rfl (World.ownsRow_made w #[] 0 (Nat.le_refl _) (Nat.zero_le _) (by simp)) ⟨b, o, sp⟩ l.length c (cellsL l) rfl (cellsL_len l) ?qc2 (cellsL_one l) (by unfold maxLen; omega) (by omega) (by simp) ?_; (case qc2 => intro j u hj; exact Lib.cell?_alloc_some _ (HC.out j u hj)); intro v' w1 hown hgrow hnil))
    go_ret
    refine ⟨v', rfl, by simpa using hown, ((Below.refl _ w).alloc (Nat.le_refl _) _).grown hgrow (by simp) (by intro k hk; cases hk; exact Nat.le_refl _)⟩

/-- A struct stored among the elements of a row that is known whole. -/
theorem store_at_ev {P : Program} {ops : Array Oper} {rest : List Oper} {o : Oper} {a : Act} {W : World} {Q : Exit → Act → World → Prop} (hgd : o.guard = none) (ty : TypeId) (x y : Operand) (ho : o.op = .store ty x y)
    (g off : Nat) (cells : Array Value) (hx : a.eval x = .pointer (some ⟨g, off, none⟩)) (hy : a.eval y = .agg cells)
    (t : TypeId) (cur : Array Value) (hg : W.heap[g]? = some (.cells cur t (0, 0))) (hi : (P.info? ty).map (·.size) = some cells.size)
    (hfit : off + cells.size ≤ cur.size) (h1 : ∀ v ∈ cells.toList, v.oneCell' = true)
    (w : World) (hB : w.heap.size ≤ g) (hw : Below w.heap.size w W)
    (h : ∀ w1, w1.heap[g]? = some (.cells (cur.toList.take off ++ cells.toList ++ cur.toList.drop (off + cells.size)).toArray t (0, 0)) → (∀ k, k ≠ g → w1.heap[k]? = W.heap[k]?) → Below w.heap.size w w1 → wpList P ops Q rest (a.put o.dst undef) w1) : wpList P ops Q (o :: rest) a W := by
  refine wpList_plain hgd fun _ hK => ?_
  have hst := run_storeCells_at P g off t cells.toList 0 cur W hg (by simpa using hfit) h1
  have hrun : (storeVar ty ⟨g, off, none⟩ (.agg cells)).run P W = .ok () (W.setRow g (cur.toList.take off ++ cells.toList ++ cur.toList.drop (off + cells.size)).toArray) := by
    cases hq : P.info? ty with
    | none => simp [hq] at hi
    | some i =>
      have hs : i.size = cells.size := by simpa [hq] using hi
      simp only [Nat.add_zero] at hst
      simp [storeVar, sizeOf, typeInfo, hq, hs, Value.cells, hst]
  unfold Oper.wp execOp
  simp only [ho, hx, hy, Instr.storeAt, Instr.sureAddr, Sem.run_bind, Sem.run_pure, Result.andThen_ok, hrun]
  exact hK _ _ (h _ (setRow_heap _ _ _ _ _ _ hg) (fun k hk => setRow_other _ _ _ _ hk) (tree_below_row hB hw _))
theorem size35 : (Tryd.prog.info? 35).map (·.size) = some 2 := by kernel_rfl
theorem own_step {w w1 : World} {base n : Nat} {v : Value} {L : List Value} (h : w.ownsRow base 44 13 v n L) (hm : ∀ k, v.ownBlock = some k → w1.heap[k]? = w.heap[k]?) : w1.ownsRow base 44 13 v n L := own_move h hm
theorem own_slice {w : World} {base n : Nat} {v : Value} {L : List Value} (h : w.ownsRow base 44 13 v n L) : ∃ A c, v = .slice A n c := by
  rcases h.2 with ⟨rfl, rfl⟩ | ⟨g, cap, cur, rfl, _⟩
  · exact ⟨none, 0, rfl⟩
  · exact ⟨_, cap, rfl⟩
/-- The rows with one more, in the place of the one that it was. -/
def putL (l : List S44) (r : S44) : List S44 := if isAt l r.f0 = true then l.set (spot l r.f0) r else l.take (spot l r.f0) ++ r :: l.drop (spot l r.f0)
theorem set_lists (cur rowL : List Value) (sp n c : Nat) (hsp : sp < n) (hnc : n ≤ c) (hl : cur.length = c * 13) (hr : rowL.length = 13) :
    (cur.take (sp * 13) ++ rowL ++ cur.drop (sp * 13 + 13)).length = c * 13 ∧ (cur.take (sp * 13) ++ rowL ++ cur.drop (sp * 13 + 13)).take (n * 13) = (cur.take (n * 13)).take (sp * 13) ++ rowL ++ (cur.take (n * 13)).drop (sp * 13 + 13) := by
  have h1 : (sp + 1) * 13 ≤ n * 13 := Nat.mul_le_mul_right _ (by omega)
  have h2 : n * 13 ≤ c * 13 := Nat.mul_le_mul_right _ hnc
  refine ⟨by rw [List.length_append, List.length_append, List.length_take, List.length_drop]; omega, ?_⟩
  rw [List.take_take, Nat.min_eq_left (by omega), List.drop_take, List.take_append, List.take_of_length_le (by rw [List.length_append, List.length_take]; omega), List.length_append, List.length_take, hr]
  congr 2
  omega
theorem cellsL_set (l : List S44) (i : Nat) (r : S44) (hi : i < l.length) : cellsL (l.set i r) = (cellsL l).take (i * 13) ++ (rowC r).toList ++ (cellsL l).drop (i * 13 + 13) := by
  rw [List.set_eq_take_append_cons_drop, if_pos hi, cellsL_append, cellsL_cons, cellsL_take, show i * 13 + 13 = (i + 1) * 13 by omega, cellsL_drop, List.append_assoc]
set_option maxHeartbeats 4000000 in
set_option maxRecDepth 100000 in
theorem put_calls (A : Option Addr) (c : Nat) (l : List S44) (n : Int) (r : S44) (w : World) (hr : Kd.C k44 w A l.length l) (hc : l.length ≤ c) (hf : Fit l r.f0) (hn : l.length ≤ 1000000) :
    Calls Tryd.prog 52 #[.agg #[.slice A l.length c, .int .i64 n], .agg (rowC r)] w fun e w' => ∃ v0, e = .returned (.agg #[v0, .int .i64 n]) ∧ Kd.R k44 44 w' w.heap.size (fun _ => True) v0 (putL l r) ∧ Below w.heap.size w w' := by
  have hu44 := Tryd.underlying44
  have hu35 := Tryd.underlying35
  have HB := Aside0.mk (Below.refl w.heap.size w)
  have HCALL := Aside0.mk fun W hb => search_calls A c l r.f0 W (Kd.C_below hr hb) hc hf
  have HCL := Aside0.mk fun W hb => clone_calls A c l W (Kd.C_below hr hb) hn
  unfold putL
  by_cases hi : isAt l r.f0 = true
  · rw [if_pos hi]
    have hlt := isAt_lt hi
    rw [hi] at HCALL
    generalize hsp : spot l r.f0 = sp at HCALL hlt ⊢
    clear hsp hi
    go_enter Tryd.func52, Tryd.ntmps52
    go_upto_region 3 with (first
      | ((with_reducible refine gate_dst (N := 2) rfl ?_); refine box_event ?hg (N := 2) ?hd (cs := #[.slice A l.length c, .int .i64 n]) (t := 35) ?hr ?_; (case hd => rfl); (case hg => rfl); (case hr => first | (go_simp; done) | (go_simp; rfl)); intro g2 hg w2 hbox hb; have BA := Aside0.mk hbox; have GA := Aside0.mk (show w.heap.size ≤ g2 by rw [hg]; exact Nat.le_refl _); clear HB; have HB := Aside0.mk hb; clear hb hbox hg)
      | ((with_reducible refine gate_dst (N := 3) rfl ?_); refine box_event ?hg (N := 3) ?hd (cs := #[.string r.f0, .int .i64 r.f1, .int .i64 r.f2.f0, .int .i64 r.f2.f1, .int .i64 r.f2.f2, .int .i64 r.f2.f3, .int .i64 r.f2.f4, .string r.f2.f5, .string r.f2.f6, .string r.f2.f7, .slice none 0 0, .int .i64 r.f2.f8.f1, .bool r.f2.f9]) (t := 44) ?hr ?_; (case hd => rfl); (case hg => rfl); (case hr => first | (go_simp; done) | (go_simp; rfl)); intro g3 hg w3 hbox hb; have BR := Aside0.mk hbox; have GR := Aside0.mk (show w.heap.size ≤ g3 by rw [hg]; exact HB.out.size); have NAR := Aside0.mk (show g2 ≠ g3 by rw [hg]; exact Nat.ne_of_lt (blk_lt BA.out)); have n1 := Aside0.mk (HB.out.trans (hb.mono HB.out.size)); have n2 := Aside0.mk ((hb.block _ (blk_lt BA.out)).trans BA.out); clear HB BA hb hbox hg; have HB := n1; have BA := n2; clear n1 n2)
      | ((with_reducible refine gate_dst (N := 4) rfl ?_); refine box_event ?hg (N := 4) ?hd (cs := #[.slice none 0 0, .int .i64 0]) (t := 35) ?hr ?_; (case hd => rfl); (case hg => rfl); (case hr => first | (go_simp; done) | (go_simp; rfl)); intro g4 hg w4 hbox hb; have BO := Aside0.mk hbox; have GO := Aside0.mk (show w.heap.size ≤ g4 by rw [hg]; exact HB.out.size); have NAO := Aside0.mk (show g2 ≠ g4 by rw [hg]; exact Nat.ne_of_lt (blk_lt BA.out)); have NRO := Aside0.mk (show g3 ≠ g4 by rw [hg]; exact Nat.ne_of_lt (blk_lt BR.out)); have n1 := Aside0.mk (HB.out.trans (hb.mono HB.out.size)); have n2 := Aside0.mk ((hb.block _ (blk_lt BA.out)).trans BA.out); have n3 := Aside0.mk ((hb.block _ (blk_lt BR.out)).trans BR.out); clear HB BA BR hb hbox hg; have HB := n1; have BA := n2; have BR := n3; clear n1 n2 n3; have hcz0 : w4.cell? ⟨g2, 0, none⟩ = some (.slice A l.length c) := (blk_cell BA.out 0).trans rfl; have hcz3 : w4.cell? ⟨g3, 0, none⟩ = some (.string r.f0) := (blk_cell BR.out 0).trans rfl)
      | (go_at_call 47; (refine (HCALL.out _ HB.out).mono ?_); rintro e w5 ⟨rfl, hb⟩; clear hcz0 hcz3; have n1 := Aside0.mk (HB.out.trans (hb.mono HB.out.size)); have n2 := Aside0.mk ((hb.block _ (blk_lt BA.out)).trans BA.out); have n3 := Aside0.mk ((hb.block _ (blk_lt BR.out)).trans BR.out); have n4 := Aside0.mk ((hb.block _ (blk_lt BO.out)).trans BO.out); clear HB BA BR BO hb; have HB := n1; have BA := n2; have BR := n3; have BO := n4; clear n1 n2 n3 n4; have hcz0 : w5.cell? ⟨g2, 0, none⟩ = some (.slice A l.length c) := (blk_cell BA.out 0).trans rfl)
      | (go_at_call 50; (refine (HCL.out _ HB.out).mono ?_); rintro e w6 ⟨v6, rfl, hown, hb⟩; obtain ⟨A6, c6, rfl⟩ := own_slice hown; clear hcz0; have HV := Aside0.mk (own_weaken hown HB.out.size); have NVA := Aside0.mk (show some g2 ≠ (Value.slice A6 l.length c6).ownBlock from fun e => by have := (hown.lt g2 e.symm).1; have := blk_lt BA.out; omega); have NVR := Aside0.mk (show some g3 ≠ (Value.slice A6 l.length c6).ownBlock from fun e => by have := (hown.lt g3 e.symm).1; have := blk_lt BR.out; omega); have NVO := Aside0.mk (show some g4 ≠ (Value.slice A6 l.length c6).ownBlock from fun e => by have := (hown.lt g4 e.symm).1; have := blk_lt BO.out; omega); have GV := Aside0.mk (show ∀ k, (Value.slice A6 l.length c6).ownBlock = some k → w.heap.size ≤ k from fun k hk => Nat.le_trans HB.out.size (hown.lt k hk).1); have n1 := Aside0.mk (HB.out.trans (hb.mono HB.out.size)); have n2 := Aside0.mk ((hb.block _ (blk_lt BA.out)).trans BA.out); have n3 := Aside0.mk ((hb.block _ (blk_lt BR.out)).trans BR.out); have n4 := Aside0.mk ((hb.block _ (blk_lt BO.out)).trans BO.out); clear HB BA BR BO hb hown; have HB := n1; have BA := n2; have BR := n3; have BO := n4; clear n1 n2 n3 n4; have hcz0 : w6.cell? ⟨g2, 0, none⟩ = some (.slice A l.length c) := (blk_cell BA.out 0).trans rfl; have hfz0 := blk_frozen BA.out 0))
    obtain ⟨w7, hw7⟩ : ∃ w7, w7 = w6.setCell ⟨g2, 0, none⟩ (.slice A6 l.length c6) := ⟨_, rfl⟩
    rw [← hw7]
    have BA7 : w7.heap[g2]? = some (.cells #[.slice A6 l.length c6, .int .i64 n] 35 (0, 0)) := by rw [hw7]; exact blk_put (cs := #[.slice A l.length c, .int .i64 n]) BA.out 0 (.slice A6 l.length c6) rfl
    have BR7 : w7.heap[g3]? = some (.cells (rowC r) 44 (0, 0)) := by rw [hw7]; exact blk_far (p := ⟨g2, 0, none⟩) BR.out (fun e => NAR.out e.symm) _
    have BO7 : w7.heap[g4]? = some (.cells #[.slice none 0 0, .int .i64 0] 35 (0, 0)) := by rw [hw7]; exact blk_far (p := ⟨g2, 0, none⟩) BO.out (fun e => NAO.out e.symm) _
    have HB7 : Below w.heap.size w w7 := by rw [hw7]; exact below_set HB.out GA.out
    have HV7 := own_step (w1 := w7) HV.out (fun k hk => by rw [hw7]; exact Below.heap_setCell _ _ _ _ (fun e => NVA.out ((congrArg some (show k = g2 from e)).symm.trans hk.symm)))
    clear hw7 HV BA BR BO HB hcz0 hfz0
    obtain ⟨g, cap, cur, hsl, hb, hg, hnc, hcm, hs, ht⟩ : ∃ g cap cur, Value.slice A6 l.length c6 = .slice (some ⟨g, 0, none⟩) l.length cap ∧ w.heap.size ≤ g ∧ w7.heap[g]? = some (.cells cur 44 (0, 0)) ∧ l.length ≤ cap ∧ cap ≤ maxLen ∧ cur.size = cap * 13 ∧ cur.toList.take (l.length * 13) = cellsL l := by
      rcases HV7.2 with ⟨_, h0⟩ | ⟨g, cap, cur, e, h2, h3, h4, h5, h6, h7⟩
      · omega
      · exact ⟨g, cap, cur, e, GV.out g (by rw [e]; rfl), h3, h4, h5, h6, h7⟩
    injection hsl with hA6 _ hc6
    subst hA6 hc6
    have hlz : ((sp : Int) < (l.length : Int)) := by omega
    have hlen : (l.length : Int) ≤ 1000000 := by omega
    have hcz0 : w7.cell? ⟨g2, 0, none⟩ = some (.slice (some ⟨g, 0, none⟩) l.length c6) := (blk_cell BA7 0).trans rfl
    have BA := Aside0.mk BA7
    have BR := Aside0.mk BR7
    have BO := Aside0.mk BO7
    have HB := Aside0.mk HB7
    have HG := Aside0.mk hg
    have NGA : Aside0 (g2 ≠ g) := ⟨fun e => NVA.out (by rw [e]; rfl)⟩
    have NGO : Aside0 (g4 ≠ g) := ⟨fun e => NVO.out (by rw [e]; rfl)⟩
    have GG : Aside0 (w.heap.size ≤ g) := ⟨GV.out g rfl⟩
    have HFIT : Aside0 (sp * 13 + 13 ≤ cur.size) := ⟨by rw [hs]; have : (sp + 1) * 13 ≤ c6 * 13 := Nat.mul_le_mul_right _ (by omega); omega⟩
    have HT := Aside0.mk ht
    have HS := Aside0.mk hs
    clear BA7 BR7 BO7 HB7 HV7 hg hb ht hs NVA NVR NVO GV
    go_wp2_with (first
      | ((with_reducible refine wpList_load_row rfl 44 (.tmp 3) rfl g3 rfl 44 (rowC r) (0, 0) _ ?hg hu44 rfl ?hi ?_); (case hg => exact BR.out); (case hi => exact size44))
      | ((with_reducible refine store_at_ev rfl 44 (.tmp 24) (.tmp 23) rfl g (sp * 13) (rowC r) ?hx ?hy 44 cur ?hz ?hi ?hfit ?h1 w ?hB ?hw ?_); (case hx => first | rfl | (simp [Act.eval, Act.put, Addr.add_lit])); (case hy => rfl); (case hz => exact HG.out); (case hi => exact size44); (case hfit => exact HFIT.out); (case h1 => exact rowC_one r); (case hB => exact GG.out); (case hw => exact HB.out); intro w8 hs8 ho8 hb8; have n1 := Aside0.mk ((ho8 g2 NGA.out).trans BA.out); have n2 := Aside0.mk ((ho8 g4 NGO.out).trans BO.out); have HV8 := Aside0.mk hs8; clear hcz0 HG BA BO HB; have BA := n1; have BO := n2; have HB := Aside0.mk hb8; clear n1 n2 hs8 ho8 hb8)
      | ((with_reducible refine wpList_load_row rfl 35 (.tmp 2) rfl g2 rfl 35 #[.slice (some ⟨g, 0, none⟩) l.length c6, .int .i64 n] (0, 0) _ ?hg hu35 rfl ?hi ?_); (case hg => exact BA.out); (case hi => exact size35))
      | ((with_reducible refine store_ev rfl 35 (.tmp 4) (.tmp 32) rfl g4 #[.slice (some ⟨g, 0, none⟩) l.length c6, .int .i64 n] ?hx ?hy 35 #[.slice none 0 0, .int .i64 0] ?hz ?hi ?hold ?h1 w ?hB ?hw ?_); (case hx => rfl); (case hy => rfl); (case hz => exact BO.out); (case hi => exact size35); (case hold => rfl); (case h1 => simp [Value.oneCell']); (case hB => exact GO.out); (case hw => exact HB.out); intro w9 hs ho hb; have BO9 := Aside0.mk hs; have HV9 := Aside0.mk ((ho g (fun e => NGO.out e.symm)).trans HV8.out); have HB9 := Aside0.mk hb; clear hs ho hb))
    refine bodyPost_ret (results_cell_row rfl _ _ g4 35 #[.slice (some ⟨g, 0, none⟩) l.length c6, .int .i64 n] (0, 0) _ rfl BO9.out Tryd.underlying35 rfl (by kernel_rfl)) rfl ?_
    refine ⟨_, rfl, own_reads ?_, HB9.out⟩
    have hs := HS.out
    have hcl : cur.toList.length = c6 * 13 := by simpa using hs
    obtain ⟨hq1, hq2⟩ := set_lists cur.toList (rowC r).toList sp l.length c6 hlt hnc hcl (rowC_len r)
    refine ⟨by rw [cellsL_len], .inr ⟨g, c6, _, by rw [List.length_set], GG.out, HV9.out, by rw [List.length_set]; exact hnc, hcm, ?_, ?_⟩⟩
    · rw [List.size_toArray]; exact hq1
    · rw [List.length_set, cellsL_set l sp r hlt, ← HT.out]; exact hq2
  · rw [if_neg hi]
    rw [Bool.eq_false_iff.2 hi] at HCALL
    obtain ⟨sp, hspd⟩ : ∃ sp, spot l r.f0 = sp := ⟨_, rfl⟩
    rw [hspd] at HCALL ⊢
    clear hi
    have hsp := spot_le l r.f0
    rw [hspd] at hsp
    obtain ⟨L9, hL9⟩ : ∃ L9, L9 = l.take sp ++ r :: l.drop sp := ⟨_, rfl⟩
    rw [← hL9]
    have HINS : Aside0 (∀ (v : Value) (vb : Nat) (W : World), W.ownsRow w.heap.size 44 13 v l.length (cellsL l) → W.heap[vb]? = some (.cells (rowC r) 44 (0, 0)) → some vb ≠ v.ownBlock → w.heap.size ≤ W.heap.size → Calls Tryd.prog 68 #[v, .int .i64 (sp : Int), .slice (some ⟨vb, 0, none⟩) 1 1] W fun e w' => ∃ v', e = .returned v' ∧ w'.ownsRow w.heap.size 44 13 v' L9.length (cellsL L9) ∧ W.grownBy w' v.ownBlock) :=
      ⟨fun v vb W h1 h2 h3 h4 => by rw [hL9]; exact insert_calls w.heap.size v l sp r vb W h1 hsp hn h2 h3 h4⟩
    clear hL9
    go_enter Tryd.func52, Tryd.ntmps52
    go_upto_region 3 with (first
      | ((with_reducible refine gate_dst (N := 2) rfl ?_); refine box_event ?hg (N := 2) ?hd (cs := #[.slice A l.length c, .int .i64 n]) (t := 35) ?hr ?_; (case hd => rfl); (case hg => rfl); (case hr => first | (go_simp; done) | (go_simp; rfl)); intro g2 hg w2 hbox hb; have BA := Aside0.mk hbox; have GA := Aside0.mk (show w.heap.size ≤ g2 by rw [hg]; exact Nat.le_refl _); clear HB; have HB := Aside0.mk hb; clear hb hbox hg)
      | ((with_reducible refine gate_dst (N := 3) rfl ?_); refine box_event ?hg (N := 3) ?hd (cs := #[.string r.f0, .int .i64 r.f1, .int .i64 r.f2.f0, .int .i64 r.f2.f1, .int .i64 r.f2.f2, .int .i64 r.f2.f3, .int .i64 r.f2.f4, .string r.f2.f5, .string r.f2.f6, .string r.f2.f7, .slice none 0 0, .int .i64 r.f2.f8.f1, .bool r.f2.f9]) (t := 44) ?hr ?_; (case hd => rfl); (case hg => rfl); (case hr => first | (go_simp; done) | (go_simp; rfl)); intro g3 hg w3 hbox hb; have BR := Aside0.mk hbox; have GR := Aside0.mk (show w.heap.size ≤ g3 by rw [hg]; exact HB.out.size); have NAR := Aside0.mk (show g2 ≠ g3 by rw [hg]; exact Nat.ne_of_lt (blk_lt BA.out)); have n1 := Aside0.mk (HB.out.trans (hb.mono HB.out.size)); have n2 := Aside0.mk ((hb.block _ (blk_lt BA.out)).trans BA.out); clear HB BA hb hbox hg; have HB := n1; have BA := n2; clear n1 n2)
      | ((with_reducible refine gate_dst (N := 4) rfl ?_); refine box_event ?hg (N := 4) ?hd (cs := #[.slice none 0 0, .int .i64 0]) (t := 35) ?hr ?_; (case hd => rfl); (case hg => rfl); (case hr => first | (go_simp; done) | (go_simp; rfl)); intro g4 hg w4 hbox hb; have BO := Aside0.mk hbox; have GO := Aside0.mk (show w.heap.size ≤ g4 by rw [hg]; exact HB.out.size); have NAO := Aside0.mk (show g2 ≠ g4 by rw [hg]; exact Nat.ne_of_lt (blk_lt BA.out)); have NRO := Aside0.mk (show g3 ≠ g4 by rw [hg]; exact Nat.ne_of_lt (blk_lt BR.out)); have n1 := Aside0.mk (HB.out.trans (hb.mono HB.out.size)); have n2 := Aside0.mk ((hb.block _ (blk_lt BA.out)).trans BA.out); have n3 := Aside0.mk ((hb.block _ (blk_lt BR.out)).trans BR.out); clear HB BA BR hb hbox hg; have HB := n1; have BA := n2; have BR := n3; clear n1 n2 n3; have hcz0 : w4.cell? ⟨g2, 0, none⟩ = some (.slice A l.length c) := (blk_cell BA.out 0).trans rfl; have hcz3 : w4.cell? ⟨g3, 0, none⟩ = some (.string r.f0) := (blk_cell BR.out 0).trans rfl)
      | (go_at_call 47; (refine (HCALL.out _ HB.out).mono ?_); rintro e w5 ⟨rfl, hb⟩; clear hcz0 hcz3; have n1 := Aside0.mk (HB.out.trans (hb.mono HB.out.size)); have n2 := Aside0.mk ((hb.block _ (blk_lt BA.out)).trans BA.out); have n3 := Aside0.mk ((hb.block _ (blk_lt BR.out)).trans BR.out); have n4 := Aside0.mk ((hb.block _ (blk_lt BO.out)).trans BO.out); clear HB BA BR BO hb; have HB := n1; have BA := n2; have BR := n3; have BO := n4; clear n1 n2 n3 n4; have hcz0 : w5.cell? ⟨g2, 0, none⟩ = some (.slice A l.length c) := (blk_cell BA.out 0).trans rfl)
      | (go_at_call 50; (refine (HCL.out _ HB.out).mono ?_); rintro e w6 ⟨v6, rfl, hown, hb⟩; obtain ⟨A6, c6, rfl⟩ := own_slice hown; clear hcz0; have HV := Aside0.mk (own_weaken hown HB.out.size); have NVA := Aside0.mk (show some g2 ≠ (Value.slice A6 l.length c6).ownBlock from fun e => by have := (hown.lt g2 e.symm).1; have := blk_lt BA.out; omega); have NVR := Aside0.mk (show some g3 ≠ (Value.slice A6 l.length c6).ownBlock from fun e => by have := (hown.lt g3 e.symm).1; have := blk_lt BR.out; omega); have NVO := Aside0.mk (show some g4 ≠ (Value.slice A6 l.length c6).ownBlock from fun e => by have := (hown.lt g4 e.symm).1; have := blk_lt BO.out; omega); have GV := Aside0.mk (show ∀ k, (Value.slice A6 l.length c6).ownBlock = some k → w.heap.size ≤ k from fun k hk => Nat.le_trans HB.out.size (hown.lt k hk).1); have n1 := Aside0.mk (HB.out.trans (hb.mono HB.out.size)); have n2 := Aside0.mk ((hb.block _ (blk_lt BA.out)).trans BA.out); have n3 := Aside0.mk ((hb.block _ (blk_lt BR.out)).trans BR.out); have n4 := Aside0.mk ((hb.block _ (blk_lt BO.out)).trans BO.out); clear HB BA BR BO hb hown; have HB := n1; have BA := n2; have BR := n3; have BO := n4; clear n1 n2 n3 n4; have hcz0 : w6.cell? ⟨g2, 0, none⟩ = some (.slice A l.length c) := (blk_cell BA.out 0).trans rfl; have hfz0 := blk_frozen BA.out 0))
    obtain ⟨w7, hw7⟩ : ∃ w7, w7 = w6.setCell ⟨g2, 0, none⟩ (.slice A6 l.length c6) := ⟨_, rfl⟩
    rw [← hw7]
    have BA7 : w7.heap[g2]? = some (.cells #[.slice A6 l.length c6, .int .i64 n] 35 (0, 0)) := by rw [hw7]; exact blk_put (cs := #[.slice A l.length c, .int .i64 n]) BA.out 0 (.slice A6 l.length c6) rfl
    have BR7 : w7.heap[g3]? = some (.cells (rowC r) 44 (0, 0)) := by rw [hw7]; exact blk_far (p := ⟨g2, 0, none⟩) BR.out (fun e => NAR.out e.symm) _
    have BO7 : w7.heap[g4]? = some (.cells #[.slice none 0 0, .int .i64 0] 35 (0, 0)) := by rw [hw7]; exact blk_far (p := ⟨g2, 0, none⟩) BO.out (fun e => NAO.out e.symm) _
    have HB7 : Below w.heap.size w w7 := by rw [hw7]; exact below_set HB.out GA.out
    have HV7 := own_step (w1 := w7) HV.out (fun k hk => by rw [hw7]; exact Below.heap_setCell _ _ _ _ (fun e => NVA.out ((congrArg some (show k = g2 from e)).symm.trans hk.symm)))
    clear hw7 HV BA BR BO HB hcz0 hfz0
    have hlen : (l.length : Int) ≤ 1000000 := by omega
    have hcz0 : w7.cell? ⟨g2, 0, none⟩ = some (.slice A6 l.length c6) := (blk_cell BA7 0).trans rfl
    have HNE : ∀ {W : World} {v : Value} {n : Nat} {L : List Value} {g : Nat} {cs : Array Value}, W.ownsRow w.heap.size 44 13 v n L → W.heap[g]? = some (.cells cs 35 (0, 0)) → some g ≠ v.ownBlock := fun ho hg e => by
      obtain ⟨cells, hc⟩ := own_typed ho _ e.symm
      rw [hc] at hg
      injection hg with hg
      injection hg with _ hg
      exact absurd hg (by decide)
    have BA := Aside0.mk BA7
    have BR := Aside0.mk BR7
    have BO := Aside0.mk BO7
    have HB := Aside0.mk HB7
    have HV := Aside0.mk HV7
    clear BA7 BR7 BO7 HB7 HV7
    go_upto_region 6 with (first
      | ((with_reducible refine wpList_load_row rfl 44 (.tmp 3) rfl g3 rfl 44 #[.string r.f0, .int .i64 r.f1, .int .i64 r.f2.f0, .int .i64 r.f2.f1, .int .i64 r.f2.f2, .int .i64 r.f2.f3, .int .i64 r.f2.f4, .string r.f2.f5, .string r.f2.f6, .string r.f2.f7, .slice none 0 0, .int .i64 r.f2.f8.f1, .bool r.f2.f9] (0, 0) _ ?hg hu44 rfl ?hi ?_); (case hg => exact BR.out); (case hi => exact size44))
      | (go_at_call 68; (refine (HINS.out (.slice A6 l.length c6) w7.heap.size _ ?own ?hvs ?hne ?hbase).mono ?_); (case own => exact own_step HV.out (fun k hk => (below_alloc (Below.refl w7.heap.size w7) _).block k (HV.out.lt k hk).2)); (case hvs => exact heap_alloc_new w7 _); (case hne => exact fun e => by have := (HV.out.lt _ e.symm).2; omega); (case hbase => exact Nat.le_trans HB.out.size (below_alloc (Below.refl w7.heap.size w7) _).size); rintro e w9 ⟨v9, rfl, hown9, hg9⟩; obtain ⟨A9, c9, rfl⟩ := own_slice hown9; have n2 := Aside0.mk ((hg9.block g2 (Nat.lt_of_lt_of_le (blk_lt BA.out) (below_alloc (Below.refl w7.heap.size w7) _).size) NVA.out).trans (((below_alloc (Below.refl w7.heap.size w7) _).block g2 (blk_lt BA.out)).trans BA.out)); have n4 := Aside0.mk ((hg9.block g4 (Nat.lt_of_lt_of_le (blk_lt BO.out) (below_alloc (Below.refl w7.heap.size w7) _).size) NVO.out).trans (((below_alloc (Below.refl w7.heap.size w7) _).block g4 (blk_lt BO.out)).trans BO.out)); have n1 := Aside0.mk ((below_alloc HB.out _).grown hg9 (Nat.le_trans HB.out.size (below_alloc (Below.refl w7.heap.size w7) _).size) (fun k hk => GV.out k hk)); have NA9 := Aside0.mk (show some g2 ≠ (Value.slice A9 L9.length c9).ownBlock from HNE hown9 n2.out); have NO9 := Aside0.mk (show some g4 ≠ (Value.slice A9 L9.length c9).ownBlock from HNE hown9 n4.out); have HV9 := Aside0.mk hown9; clear hcz0 HB BA BO hg9 hown9; have HB := n1; have BA := n2; have BO := n4; clear n1 n2 n4; have hcz0 : w9.cell? ⟨g2, 0, none⟩ = some (.slice A6 l.length c6) := (blk_cell BA.out 0).trans rfl; have hfz0 := blk_frozen BA.out 0))
    obtain ⟨w10, hw10⟩ : ∃ w10, w10 = w9.setCell ⟨g2, 0, none⟩ (.slice A9 L9.length c9) := ⟨_, rfl⟩
    rw [← hw10]
    have BA10 : w10.heap[g2]? = some (.cells #[.slice A9 L9.length c9, .int .i64 n] 35 (0, 0)) := by rw [hw10]; exact blk_put (cs := #[.slice A6 l.length c6, .int .i64 n]) BA.out 0 (.slice A9 L9.length c9) rfl
    have BO10 : w10.heap[g4]? = some (.cells #[.slice none 0 0, .int .i64 0] 35 (0, 0)) := by rw [hw10]; exact blk_far (p := ⟨g2, 0, none⟩) BO.out (fun e => NAO.out e.symm) _
    have HB10 : Below w.heap.size w w10 := by rw [hw10]; exact below_set HB.out GA.out
    have HV10 := own_step (w1 := w10) HV9.out (fun k hk => by rw [hw10]; exact Below.heap_setCell _ _ _ _ (fun e => NA9.out ((congrArg some (show k = g2 from e)).symm.trans hk.symm)))
    clear hw10 HV HV9 BA BO HB hcz0 hfz0
    have BA := Aside0.mk BA10
    have BO := Aside0.mk BO10
    have HB := Aside0.mk HB10
    have HV := Aside0.mk HV10
    clear BA10 BO10 HB10 HV10
    go_wp2_with (first
      | ((with_reducible refine wpList_load_row rfl 35 (.tmp 2) rfl g2 rfl 35 #[.slice A9 L9.length c9, .int .i64 n] (0, 0) _ ?hg hu35 rfl ?hi ?_); (case hg => exact BA.out); (case hi => exact size35))
      | ((with_reducible refine store_ev rfl 35 (.tmp 4) (.tmp 32) rfl g4 #[.slice A9 L9.length c9, .int .i64 n] ?hx ?hy 35 #[.slice none 0 0, .int .i64 0] ?hz ?hi ?hold ?h1 w ?hB ?hw ?_); (case hx => rfl); (case hy => rfl); (case hz => exact BO.out); (case hi => exact size35); (case hold => rfl); (case h1 => simp [Value.oneCell']); (case hB => exact GO.out); (case hw => exact HB.out); intro w11 hs ho hb; have BO9 := Aside0.mk hs; have HV9 := Aside0.mk (own_step (w1 := w11) HV.out (fun k hk => ho k (fun e => NO9.out (by rw [hk, e])))); have HB9 := Aside0.mk hb; clear hs ho hb))
    refine bodyPost_ret (results_cell_row rfl _ _ g4 35 #[.slice A9 L9.length c9, .int .i64 n] (0, 0) _ rfl BO9.out Tryd.underlying35 rfl (by kernel_rfl)) rfl ?_
    exact ⟨_, rfl, own_reads HV9.out, HB9.out⟩

def tree_Tree_Put.f (l : List S44) (n : Int) (a0 : ByteArray) (a1 a2 a3 a4 a5 a6 : Int) (a7 a8 a9 : ByteArray) (a10 : Unit) (a11 : Int) (a12 : Bool) : Option (List S44 × Int) :=
  if Fit l a0 ∧ l.length ≤ 1000000 then some (putL l ⟨a0, a1, ⟨a2, a3, a4, a5, a6, a7, a8, a9, ⟨a10, a11⟩, a12⟩⟩, n) else none
theorem tree_Tree_Put.calls (A0_0 : Option Addr) (c0_0 : Nat) (l : List S44) (n : Int) (a0 : ByteArray) (a1 a2 a3 a4 a5 a6 : Int) (a7 a8 a9 : ByteArray) (a10 : Unit) (a11 : Int) (a12 : Bool) (r1 : List S44) (r2 : Int) (w : World) (hr : Kd.C k44 w A0_0 l.length l) (hc : l.length ≤ c0_0) (h : tree_Tree_Put.f l n a0 a1 a2 a3 a4 a5 a6 a7 a8 a9 a10 a11 a12 = some (r1, r2)) :
    Calls Tryd.prog 52 #[.agg #[.slice A0_0 l.length c0_0, .int .i64 n], .agg #[.string a0, .int .i64 a1, .int .i64 a2, .int .i64 a3, .int .i64 a4, .int .i64 a5, .int .i64 a6, .string a7, .string a8, .string a9, .slice none 0 0, .int .i64 a11, .bool a12]] w fun e w' => ∃ v0_ : Value, e = .returned (.agg #[v0_, .int .i64 r2]) ∧ Kd.R k44 44 w' w.heap.size (fun _ => True) v0_ r1 ∧ Below w.heap.size w w' := by
  unfold tree_Tree_Put.f at h
  split at h
  · rename_i hf
    obtain ⟨rfl, rfl⟩ := Prod.mk.inj (Option.some.inj h)
    exact put_calls A0_0 c0_0 l n ⟨a0, a1, ⟨a2, a3, a4, a5, a6, a7, a8, a9, ⟨a10, a11⟩, a12⟩⟩ w hr hc hf.1 hf.2
  · cases h
end Go.Proofs.YtolpamojbiipaaaDoor.XA
