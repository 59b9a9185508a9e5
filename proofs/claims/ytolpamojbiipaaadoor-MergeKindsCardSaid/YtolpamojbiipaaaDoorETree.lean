/- tree.Get, walked by hand: the search among the rows goes by a function value. -/
import Derived.Test.YtolpamojbiipaaaDoorUOrd
import Derived.Test.YtolpamojbiipaaaDoorXA3
import Derived.WalkMore
namespace Go.Proofs.YtolpamojbiipaaaDoor.XA
open Go.RowKit Go.Proofs.YtolpamojbiipaaaDoorW.PrintWords Go.Proofs.YtolpamojbiipaaaDoorW.PrintLast Go.Proofs.YtolpamojbiipaaaDoorW.PrintMore
set_option linter.unusedVariables false
set_option linter.unusedSimpArgs false

/-- The order of two paths. -/
def cmpB (a b : ByteArray) : Int := Pure.cmpP (Pure.partsS a.data.toList) (Pure.partsS b.data.toList)
/-- The search: the first place from i on, below j, where c isn't less than 0 (if c is ordered so). -/
def bsI (c : Nat → Int) (i j : Nat) : Nat :=
  if h : i < j then (if c ((i + j) / 2) < 0 then bsI c ((i + j) / 2 + 1) j else bsI c i ((i + j) / 2)) else i
termination_by j - i
decreasing_by all_goals omega
theorem bsI_le (c : Nat → Int) (i j : Nat) (h : i ≤ j) : i ≤ bsI c i j ∧ bsI c i j ≤ j := by
  induction i, j using bsI.induct (c := c) with
  | case1 i j hl hc ih => rw [bsI, dif_pos hl, if_pos hc]; have := ih (by omega); omega
  | case2 i j hl hc ih => rw [bsI, dif_pos hl, if_neg hc]; have := ih (by omega); omega
  | case3 i j hl => rw [bsI, dif_neg hl]; omega
/-- Where a path stands among rows, or would. -/
def spot (l : List S44) (s : ByteArray) : Nat := bsI (fun i => cmpB (l.getD i z44).f0 s) 0 l.length
def isAt (l : List S44) (s : ByteArray) : Bool := decide (spot l s < l.length) && decide (cmpB (l.getD (spot l s) z44).f0 s = 0)
theorem spot_le (l : List S44) (s : ByteArray) : spot l s ≤ l.length := (bsI_le _ 0 l.length (Nat.zero_le _)).2
/-- Rows and a path that may be searched. -/
def Fit (l : List S44) (s : ByteArray) : Prop := l.length ≤ 1099511627776 ∧ s.size ≤ 1000000 ∧ ∀ r ∈ l, r.f0.size ≤ 1000000
instance (l : List S44) (s : ByteArray) : Decidable (Fit l s) := by unfold Fit; infer_instance
theorem Fit.at_ {l : List S44} {s : ByteArray} (h : Fit l s) {i : Nat} (hi : i < l.length) : (l.getD i z44).f0.size ≤ 1000000 := by
  rw [List.getD_eq_getElem?_getD, List.getElem?_eq_getElem hi]
  exact h.2.2 _ (List.getElem_mem hi)

/-- An element as a value. -/
def rowV (r : S44) : Value := .agg #[.string r.f0, .int .i64 r.f1, .int .i64 r.f2.f0, .int .i64 r.f2.f1, .int .i64 r.f2.f2, .int .i64 r.f2.f3, .int .i64 r.f2.f4, .string r.f2.f5, .string r.f2.f6, .string r.f2.f7, .slice none 0 0, .int .i64 r.f2.f8.f1, .bool r.f2.f9]
theorem byPath_calls (r : S44) (s : ByteArray) (w : World) (hr : r.f0.size ≤ 1000000) (hs : s.size ≤ 1000000) :
    Calls Tryd.prog 48 #[rowV r, .string s] w fun e w' => e = .returned (.int .i64 (cmpB r.f0 s)) ∧ Below w.heap.size w w' := by
  have hev := Pure.compare_ev (a := r.f0.data.toList) (b := s.data.toList) (by rw [← Pure.size_dl]; exact hr) (by rw [← Pure.size_dl]; exact hs)
  obtain ⟨k, hk⟩ := hev
  rw [mkS_of, mkS_of] at hk
  exact tree_byPath.calls k r.f0 r.f1 r.f2.f0 r.f2.f1 r.f2.f2 r.f2.f3 r.f2.f4 r.f2.f5 r.f2.f6 r.f2.f7 () r.f2.f8.f1 r.f2.f9 s (cmpB r.f0 s) w (by unfold tree_byPath.f; rw [show path_Compare.f k r.f0 s = _ from hk k (Nat.le_refl _)]; rfl)

set_option maxHeartbeats 4000000 in
set_option maxRecDepth 100000 in
theorem search_calls (A : Option Addr) (c : Nat) (l : List S44) (s : ByteArray) (w : World) (hr : Kd.C k44 w A l.length l) (hc : l.length ≤ c) (hf : Fit l s) :
    Calls Tryd.prog 47 #[.slice A l.length c, .string s, .func (.func 48) #[] #[]] w fun e w' => e = .returned (.tuple #[.int .i64 (spot l s : Nat), .bool (isAt l s)]) ∧ Below w.heap.size w w' := by
  have hu44 := Tryd.underlying44
  have HC := Aside0.mk hr
  have HF := Aside0.mk hf
  have HB := Aside0.mk (Below.refl w.heap.size w)
  obtain ⟨sp, hsp⟩ : ∃ sp, sp = spot l s := ⟨_, rfl⟩
  obtain ⟨ia, hia⟩ : ∃ ia, ia = isAt l s := ⟨_, rfl⟩
  rw [← hsp, ← hia]
  have HS := Aside0.mk hsp
  have HS0 := Aside0.mk hsp
  have HI := Aside0.mk hia
  have hlen : (l.length : Int) ≤ 1099511627776 := by have := hf.1; omega
  clear hr hf hsp hia
  go_enter Tryd.func47, Tryd.ntmps47
  go_wp2
  go_loopg [9, 10] l.length (fun kx s9 s10 wr => ∃ lo hi : Nat, s9 = .int .i64 lo ∧ s10 = .int .i64 hi ∧ lo ≤ hi ∧ hi ≤ l.length ∧ hi - lo ≤ kx ∧ Aside0 (Below w.heap.size w wr) ∧
    Aside0 (sp = bsI (fun i => cmpB (l.getD i z44).f0 s) lo hi))
  case atStart => exact ⟨0, l.length, rfl, rfl, Nat.zero_le _, Nat.le_refl _, by omega, HB, HS⟩
  case round =>
    clear HB HS
    obtain ⟨lo, hi, rfl, rfl, hlh, hin, hg, HB, HS⟩ := hrel
    by_cases hlt : lo < hi
    · have hm : (lo + hi) / 2 < l.length := by omega
      obtain ⟨ad, ea, hx0, hx1, hx2, hx3, hx4, hx5, hx6, hx7, hx8, hx9, hx10, hx11, hx12⟩ := at_T44 (Kd.C_below HC.out HB.out) (((lo + hi) / 2 : Nat) : Int) (by omega) (by omega)
      have hcall := fun W => byPath_calls (l.getD ((lo + hi) / 2) z44) s W (HF.out.at_ hm) HF.out.2.1
      subst ea
      have hs := HS.out
      rw [bsI, dif_pos hlt] at hs
      rw [Int.toNat_natCast] at hx0 hx1 hx2 hx3 hx4 hx5 hx6 hx7 hx8 hx9 hx10 hx11 hx12
      have hrd : rd_T44 l (((lo + hi) / 2 : Nat) : Int) = l.getD ((lo + hi) / 2) z44 := by unfold rd_T44; rw [Int.toNat_natCast]
      rw [hrd] at hx0 hx1 hx2 hx3 hx4 hx5 hx6 hx7 hx8 hx9 hx11 hx12
      clear hrd
      unfold rowV at hcall
      by_cases hcy : cmpB (l.getD ((lo + hi) / 2) z44).f0 s < 0
      · rw [if_pos hcy] at hs
        have HS := Aside0.mk hs
        clear hs
        generalize l.getD ((lo + hi) / 2) z44 = y at hx0 hx1 hx2 hx3 hx4 hx5 hx6 hx7 hx8 hx9 hx11 hx12 hcall hcy
        have hd : decide (cmpB y.f0 s < 0) = true := decide_eq_true hcy
        clear hcy
        generalize cmpB y.f0 s = cy at hcall hd
        go_wp2_with (go_at_call 48; refine (hcall _).mono ?_; rintro e w5 ⟨rfl, hb⟩)
        go_roundg (hi - ((lo + hi) / 2 + 1))
        case measure => omega
        case rel => exact ⟨(lo + hi) / 2 + 1, hi, by rw [show ((lo : Int) + (hi : Int)) / 2 + 1 = (((lo + hi) / 2 + 1 : Nat) : Int) by omega], rfl, by omega, hin, Nat.le_refl _, ⟨HB.out.trans (hb.mono HB.out.size)⟩, HS⟩
      · rw [if_neg hcy] at hs
        have HS := Aside0.mk hs
        clear hs
        generalize l.getD ((lo + hi) / 2) z44 = y at hx0 hx1 hx2 hx3 hx4 hx5 hx6 hx7 hx8 hx9 hx11 hx12 hcall hcy
        have hd : decide (cmpB y.f0 s < 0) = false := decide_eq_false hcy
        clear hcy
        generalize cmpB y.f0 s = cy at hcall hd
        go_wp2_with (go_at_call 48; refine (hcall _).mono ?_; rintro e w5 ⟨rfl, hb⟩)
        go_roundg ((lo + hi) / 2 - lo)
        case measure => omega
        case rel => exact ⟨lo, (lo + hi) / 2, rfl, by rw [show ((lo : Int) + (hi : Int)) / 2 = (((lo + hi) / 2 : Nat) : Int) by omega], by omega, by omega, Nat.le_refl _, ⟨HB.out.trans (hb.mono HB.out.size)⟩, HS⟩
    · have hs := HS.out
      rw [bsI, dif_neg hlt] at hs
      subst hs
      have hi' := HI.out
      unfold isAt at hi'
      rw [← HS0.out] at hi'
      by_cases hn : sp < l.length
      · have hlz : ((sp : Int) < (l.length : Int)) := by omega
        obtain ⟨ad, ea, hx0, hx1, hx2, hx3, hx4, hx5, hx6, hx7, hx8, hx9, hx10, hx11, hx12⟩ := at_T44 (Kd.C_below HC.out HB.out) (sp : Int) (by omega) (by omega)
        have hcall := fun W => byPath_calls (l.getD sp z44) s W (HF.out.at_ hn) HF.out.2.1
        subst ea
        rw [Int.toNat_natCast] at hx0 hx1 hx2 hx3 hx4 hx5 hx6 hx7 hx8 hx9 hx10 hx11 hx12
        have hrd : rd_T44 l (sp : Int) = l.getD sp z44 := by unfold rd_T44; rw [Int.toNat_natCast]
        rw [hrd] at hx0 hx1 hx2 hx3 hx4 hx5 hx6 hx7 hx8 hx9 hx11 hx12
        clear hrd
        unfold rowV at hcall
        rw [decide_eq_true hn, Bool.true_and] at hi'
        generalize l.getD sp z44 = y at hx0 hx1 hx2 hx3 hx4 hx5 hx6 hx7 hx8 hx9 hx11 hx12 hcall hi'
        generalize cmpB y.f0 s = cy at hcall hi'
        have HI2 := Aside0.mk hi'
        clear hi' HI HS HS0
        go_wp2_with (go_at_call 48; refine (hcall _).mono ?_; rintro e w5 ⟨rfl, hb⟩)
        go_ret2
        exact ⟨by rw [HI2.out]; by_cases hz : cy = 0 <;> simp [hz], HB.out.trans (hb.mono HB.out.size)⟩
      · have hlz : ¬ ((sp : Int) < (l.length : Int)) := by omega
        rw [decide_eq_false hn, Bool.false_and] at hi'
        subst hi'
        clear HI HS HS0
        go_wp2
        go_ret2
        exact ⟨rfl, HB.out⟩

/-- A row's cells; an empty one's. -/
def rowC (r : S44) : Array Value := #[.string r.f0, .int .i64 r.f1, .int .i64 r.f2.f0, .int .i64 r.f2.f1, .int .i64 r.f2.f2, .int .i64 r.f2.f3, .int .i64 r.f2.f4, .string r.f2.f5, .string r.f2.f6, .string r.f2.f7, .slice none 0 0, .int .i64 r.f2.f8.f1, .bool r.f2.f9]
abbrev zCells : Array Value := #[.string (⟨#[]⟩ : ByteArray), .int .i64 0, .int .i64 0, .int .i64 0, .int .i64 0, .int .i64 0, .int .i64 0, .string (⟨#[]⟩ : ByteArray), .string (⟨#[]⟩ : ByteArray), .string (⟨#[]⟩ : ByteArray), .slice none 0 0, .int .i64 0, .bool false]
theorem size44 : (Tryd.prog.info? 44).map (·.size) = some 13 := by kernel_rfl
theorem tree_below_row {w W : World} {g : Nat} (hB : w.heap.size ≤ g) (hw : Below w.heap.size w W) (cells : Array Value) : Below w.heap.size w (W.setRow g cells) := by
  exact ⟨hw.os, hw.tape, hw.output, by rw [show (W.setRow g cells).heap.size = W.heap.size from by simp [World.setRow]]; exact hw.size, fun k hk => (setRow_other _ _ _ _ (by omega)).trans (hw.block k hk)⟩
theorem store_ev {P : Program} {ops : Array Oper} {rest : List Oper} {o : Oper} {a : Act} {W : World} {Q : Exit → Act → World → Prop} (hgd : o.guard = none) (ty : TypeId) (x y : Operand) (ho : o.op = .store ty x y)
    (g : Nat) (cells : Array Value) (hx : a.eval x = .pointer (some ⟨g, 0, none⟩)) (hy : a.eval y = .agg cells)
    (t : TypeId) (old : Array Value) (hg : W.heap[g]? = some (.cells old t (0, 0))) (hi : (P.info? ty).map (·.size) = some cells.size)
    (hold : old.size = cells.size) (h1 : cells.all (·.oneCell') = true) (w : World) (hB : w.heap.size ≤ g) (hw : Below w.heap.size w W)
    (h : ∀ w1, w1.heap[g]? = some (.cells cells t (0, 0)) → (∀ k, k ≠ g → w1.heap[k]? = W.heap[k]?) → Below w.heap.size w w1 → wpList P ops Q rest (a.put o.dst undef) w1) : wpList P ops Q (o :: rest) a W :=
  wpList_store_row hgd ty x y ho g cells hx hy t old hg hi hold h1 (h _ (setRow_heap _ _ _ _ _ _ hg) (fun k hk => setRow_other _ _ _ _ hk) (tree_below_row hB hw cells))
/-- What stands at a path, its cells one by one; and is there anything? -/
def tree_Tree_Get.f (l : List S44) (n : Int) (s : ByteArray) : Option (ByteArray × Int × Int × Int × Int × Int × Int × ByteArray × ByteArray × ByteArray × Unit × Int × Bool × Bool) :=
  if Fit l s then (let r := if isAt l s = true then l.getD (spot l s) z44 else z44; some (r.f0, r.f1, r.f2.f0, r.f2.f1, r.f2.f2, r.f2.f3, r.f2.f4, r.f2.f5, r.f2.f6, r.f2.f7, r.f2.f8.f0, r.f2.f8.f1, r.f2.f9, isAt l s)) else none
theorem isAt_lt {l : List S44} {s : ByteArray} (h : isAt l s = true) : spot l s < l.length := by
  unfold isAt at h
  rw [Bool.and_eq_true, decide_eq_true_eq] at h
  exact h.1
set_option maxHeartbeats 4000000 in
set_option maxRecDepth 100000 in
theorem get_calls (A : Option Addr) (c : Nat) (l : List S44) (n : Int) (s : ByteArray) (w : World) (hr : Kd.C k44 w A l.length l) (hc : l.length ≤ c) (hf : Fit l s) :
    Calls Tryd.prog 23 #[.agg #[.slice A l.length c, .int .i64 n], .string s] w fun e w' => e = .returned (.tuple #[rowV (if isAt l s = true then l.getD (spot l s) z44 else z44), .bool (isAt l s)]) ∧ Below w.heap.size w w' := by
  have hu44 := Tryd.underlying44
  have hu35 := Tryd.underlying35
  have HB := Aside0.mk (Below.refl w.heap.size w)
  have hcall := fun W hb => search_calls A c l s W (Kd.C_below hr hb) hc hf
  by_cases hi : isAt l s = true
  · rw [if_pos hi, hi]
    simp only [hi] at hcall
    have hlt := isAt_lt hi
    have hlen : (l.length : Int) ≤ 1099511627776 := by have := hf.1; omega
    generalize hsp : spot l s = sp at hcall hlt ⊢
    have hlz : ((sp : Int) < (l.length : Int)) := by omega
    have hx := fun W hb => at_T44 (Kd.C_below (w1 := W) hr hb) (sp : Int) (by omega) (by omega)
    have hrd : rd_T44 l (sp : Int) = l.getD sp z44 := by unfold rd_T44; rw [Int.toNat_natCast]
    rw [hrd, Int.toNat_natCast] at hx
    clear hrd hsp hi
    unfold rowV
    generalize l.getD sp z44 = y at hx ⊢
    have HCALL := Aside0.mk hcall
    have HX := Aside0.mk hx
    clear hcall hx hr
    go_enter Tryd.func23, Tryd.ntmps23
    go_wp2_with (first
      | ((with_reducible refine gate_dst (N := 2) rfl ?_); refine box_event ?hg (N := 2) ?hd (cs := #[.slice A l.length c, .int .i64 n]) (t := 35) ?hr ?_; (case hd => rfl); (case hg => rfl); (case hr => first | (go_simp; done) | (go_simp; rfl)); intro g2 hg w2 hbox hb; have BA := Aside0.mk hbox; clear HB; have HB := Aside0.mk hb; clear hb hbox hg)
      | ((with_reducible refine gate_dst (N := 4) rfl ?_); refine box_event ?hg (N := 4) ?hd (cs := zCells) (t := 44) ?hr ?_; (case hd => rfl); (case hg => rfl); (case hr => first | (go_simp; done) | (go_simp; rfl)); intro g4 hg w4 hbox hb; have BR := Aside0.mk hbox; have GR := Aside0.mk (show w.heap.size ≤ g4 by rw [hg]; exact HB.out.size); have n1 := Aside0.mk (HB.out.trans (hb.mono HB.out.size)); have n2 := Aside0.mk ((hb.block _ (blk_lt BA.out)).trans BA.out); clear HB BA hb hbox hg; have HB := n1; have BA := n2; clear n1 n2; have hcz0 : w4.cell? ⟨g2, 0, none⟩ = some (.slice A l.length c) := (blk_cell BA.out 0).trans rfl)
      | (go_at_call 47; (refine (HCALL.out _ HB.out).mono ?_); rintro e w5 ⟨rfl, hb⟩; clear hcz0; have n1 := Aside0.mk (HB.out.trans (hb.mono HB.out.size)); have n2 := Aside0.mk ((hb.block _ (blk_lt BA.out)).trans BA.out); have n3 := Aside0.mk ((hb.block _ (blk_lt BR.out)).trans BR.out); clear HB BA BR hb; have HB := n1; have BA := n2; have BR := n3; clear n1 n2 n3; have hcz0 : w5.cell? ⟨g2, 0, none⟩ = some (.slice A l.length c) := (blk_cell BA.out 0).trans rfl; obtain ⟨ad, ea, hx0, hx1, hx2, hx3, hx4, hx5, hx6, hx7, hx8, hx9, hx10, hx11, hx12⟩ := HX.out _ HB.out; subst ea)
      | ((with_reducible refine store_ev rfl 44 (.tmp 4) (.tmp 22) rfl g4 (rowC y) ?hx ?hy 44 zCells ?hz ?hi ?hold ?h1 w ?hB ?hw ?_); (case hx => rfl); (case hy => rfl); (case hz => exact BR.out); (case hi => exact size44); (case hold => rfl); (case h1 => simp [rowC, Value.oneCell']); (case hB => exact GR.out); (case hw => exact HB.out); intro w6 hs ho hb; have BR2 := Aside0.mk hs; have HB2 := Aside0.mk hb; clear hs ho hb))
    refine bodyPost_ret (results_ct rfl _ _ g4 44 (rowC y) (0, 0) _ rfl BR2.out Tryd.underlying44 rfl (by kernel_rfl)) rfl ?_
    exact ⟨rfl, HB2.out⟩
  · rw [if_neg hi, (Bool.eq_false_iff.2 hi : isAt l s = false)]
    simp only [(Bool.eq_false_iff.2 hi : isAt l s = false)] at hcall
    generalize spot l s = sp at hcall
    have HCALL := Aside0.mk hcall
    clear hcall hr hi
    go_enter Tryd.func23, Tryd.ntmps23
    go_wp2_with (first
      | ((with_reducible refine gate_dst (N := 2) rfl ?_); refine box_event ?hg (N := 2) ?hd (cs := #[.slice A l.length c, .int .i64 n]) (t := 35) ?hr ?_; (case hd => rfl); (case hg => rfl); (case hr => first | (go_simp; done) | (go_simp; rfl)); intro g2 hg w2 hbox hb; have BA := Aside0.mk hbox; clear HB; have HB := Aside0.mk hb; clear hb hbox hg)
      | ((with_reducible refine gate_dst (N := 4) rfl ?_); refine box_event ?hg (N := 4) ?hd (cs := zCells) (t := 44) ?hr ?_; (case hd => rfl); (case hg => rfl); (case hr => first | (go_simp; done) | (go_simp; rfl)); intro g4 hg w4 hbox hb; have BR := Aside0.mk hbox; have GR := Aside0.mk (show w.heap.size ≤ g4 by rw [hg]; exact HB.out.size); have n1 := Aside0.mk (HB.out.trans (hb.mono HB.out.size)); have n2 := Aside0.mk ((hb.block _ (blk_lt BA.out)).trans BA.out); clear HB BA hb hbox hg; have HB := n1; have BA := n2; clear n1 n2; have hcz0 : w4.cell? ⟨g2, 0, none⟩ = some (.slice A l.length c) := (blk_cell BA.out 0).trans rfl)
      | (go_at_call 47; (refine (HCALL.out _ HB.out).mono ?_); rintro e w5 ⟨rfl, hb⟩; clear hcz0; have n1 := Aside0.mk (HB.out.trans (hb.mono HB.out.size)); have n3 := Aside0.mk ((hb.block _ (blk_lt BR.out)).trans BR.out); clear HB BA BR hb; have HB := n1; have BR := n3; clear n1 n3)
      | ((with_reducible refine store_ev rfl 44 (.tmp 4) (.tmp 17) rfl g4 (rowC z44) ?hx ?hy 44 zCells ?hz ?hi ?hold ?h1 w ?hB ?hw ?_); (case hx => rfl); (case hy => rfl); (case hz => exact BR.out); (case hi => exact size44); (case hold => rfl); (case h1 => simp [rowC, Value.oneCell']); (case hB => exact GR.out); (case hw => exact HB.out); intro w6 hs ho hb; have BR2 := Aside0.mk hs; have HB2 := Aside0.mk hb; clear hs ho hb))
    refine bodyPost_ret (results_ct rfl _ _ g4 44 (rowC z44) (0, 0) _ rfl BR2.out Tryd.underlying44 rfl (by kernel_rfl)) rfl ?_
    exact ⟨rfl, HB2.out⟩
theorem tree_Tree_Get.calls (A : Option Addr) (c : Nat) (l : List S44) (n : Int) (s : ByteArray) (r1 : ByteArray) (r2 r3 r4 r5 r6 r7 : Int) (r8 r9 r10 : ByteArray) (r11 : Unit) (r12 : Int) (r13 r14 : Bool) (w : World) (hr : Kd.C k44 w A l.length l) (hc : l.length ≤ c) (h : tree_Tree_Get.f l n s = some (r1, r2, r3, r4, r5, r6, r7, r8, r9, r10, r11, r12, r13, r14)) :
    Calls Tryd.prog 23 #[.agg #[.slice A l.length c, .int .i64 n], .string s] w fun e w' => e = .returned (.tuple #[.agg #[.string r1, .int .i64 r2, .int .i64 r3, .int .i64 r4, .int .i64 r5, .int .i64 r6, .int .i64 r7, .string r8, .string r9, .string r10, .slice none 0 0, .int .i64 r12, .bool r13], .bool r14]) ∧ Below w.heap.size w w' := by
  unfold tree_Tree_Get.f at h
  split at h
  · rename_i hf
    have h2 := get_calls A c l n s w hr hc hf
    generalize (if isAt l s = true then l.getD (spot l s) z44 else z44) = y at h h2
    simp only [Option.some.injEq, Prod.mk.injEq] at h
    obtain ⟨rfl, rfl, rfl, rfl, rfl, rfl, rfl, rfl, rfl, rfl, _, rfl, rfl, rfl⟩ := h
    exact h2
  · cases h
end Go.Proofs.YtolpamojbiipaaaDoor.XA
