/- usage.Of, walked by hand: it keeps a set. Printed by wip/tools/gen_usageof.py. -/
import Derived.Test.YtolpamojbiipaaaDoorEParents
import Derived.Test.YtolpamojbiipaaaDoorETreePut2
import Derived.Test.YtolpamojbiipaaaDoorXA3
import Derived.Deep.RegionHeld3
import Derived.Deep.RegionLaw
namespace Go.Proofs.YtolpamojbiipaaaDoor.XA
open Go.RowKit Go.Proofs.YtolpamojbiipaaaDoorW.PrintWords Go.Proofs.YtolpamojbiipaaaDoorW.PrintLast Go.Proofs.YtolpamojbiipaaaDoorW.PrintMore
set_option linter.unusedVariables false
set_option linter.unusedSimpArgs false

def maxI (a b : Int) : Int := if a < b then b else a
theorem max2_I (k k' : IntKind) (x y : Int) : Builtin.max2 (.int k x) (.int k' y) = pure (.int k (maxI x y)) := max2_int k k' x y
attribute [local go_sem] max2_I max_two
/-- Usage of rows, some numbers seen before. -/
def ofGo : List S44 → List Int → Int → Int → Int → Int → Int × Int × Int × Int
  | [], _, b, i, d, n => (b, i, d, n)
  | r :: t, S, b, i, d, n =>
    if r.f1 ∈ S then ofGo t (r.f1 :: S) b i (maxI d ((Pure.partsS r.f0.data.toList).length : Int)) (maxI n (r.f0.size : Int))
    else if r.f2.f0 = 1 then ofGo t (r.f1 :: S) (wrap64 (b + r.f2.f8.f1)) (wrap64 (i + 1)) (maxI d ((Pure.partsS r.f0.data.toList).length : Int)) (maxI n (r.f0.size : Int))
    else ofGo t (r.f1 :: S) b (wrap64 (i + 1)) (maxI d ((Pure.partsS r.f0.data.toList).length : Int)) (maxI n (r.f0.size : Int))
def Told (l : List S44) : Prop := l.length ≤ 1000000 ∧ ∀ r ∈ l, r.f0.size ≤ 1000000 ∧ (Lit.int .i64 r.f1).wf = true
instance (l : List S44) : Decidable (Told l) := by unfold Told; infer_instance
theorem SetAt.below {W W' : World} {b : Nat} {S : List Int} (h : SetAt W b S) (hb : Below W.heap.size W W') : SetAt W' b S := h.kept (row := none) ⟨hb.os, hb.tape, hb.output, hb.size, fun k hk _ => hb.block k hk⟩ (by simp)
theorem SetAt.others {W W' : World} {b g : Nat} {S : List Int} (h : SetAt W b S) (ho : ∀ k, k ≠ g → W'.heap[k]? = W.heap[k]?) (hne : b ≠ g) : SetAt W' b S := by
  obtain ⟨n, D, ⟨es, clock, hb, F, hs, hD⟩, hn, ha⟩ := h
  exact ⟨n, D, ⟨es, clock, (ho b hne).trans hb, F, hs, hD⟩, hn, ha⟩
theorem size23 : (Tryd.prog.info? 23).map (·.size) = some 4 := by kernel_rfl
def usage_Of.f (l : List S44) (n : Int) : Option (Int × Int × Int × Int) := if Told l then some (ofGo l [] 0 0 0 0) else none

set_option maxHeartbeats 8000000 in
set_option maxRecDepth 100000 in
theorem usage_Of.calls (A : Option Addr) (c : Nat) (l : List S44) (n : Int) (r1 r2 r3 r4 : Int) (w : World) (hr : Kd.C k44 w A l.length l) (hc : l.length ≤ c) (h : usage_Of.f l n = some (r1, r2, r3, r4)) :
    Calls Tryd.prog 20 #[.agg #[.slice A l.length c, .int .i64 n]] w fun e w' => e = .returned (.agg #[.int .i64 r1, .int .i64 r2, .int .i64 r3, .int .i64 r4]) ∧ Below w.heap.size w w' := by
  unfold usage_Of.f at h
  split at h
  case isFalse => cases h
  rename_i hf
  replace h := Option.some.inj h
  have hu35 := Tryd.underlying35
  have hu44 := Tryd.underlying44
  have hu42 := Tryd.underlying42
  have hu40 := Tryd.underlying40
  have hu23 := Tryd.underlying23
  have hmm := @run_makeMap Tryd.prog
  have hlen : (l.length : Int) ≤ 1000000 := by have := hf.1; omega
  have HC := Aside0.mk hr
  have HF := Aside0.mk hf
  have HH := Aside0.mk h
  have HB := Aside0.mk (Below.refl w.heap.size w)
  clear hr hf h
  go_enter Tryd.func20, Tryd.ntmps20
  go_upto_region 2 with (first
      | ((with_reducible refine gate_dst (N := 1) rfl ?_); refine box_event ?hg (N := 1) ?hd (cs := #[.slice A l.length c, .int .i64 n]) (t := 35) ?hr ?_; (case hd => rfl); (case hg => rfl); (case hr => first | (go_simp; done) | (go_simp; rfl)); intro g1 hg w2 hbox hb; have Bg1 := Aside0.mk hbox; have Gg1 := Aside0.mk (show w.heap.size ≤ g1 by rw [hg]; exact HB.out.size); have n0 := Aside0.mk (HB.out.trans (hb.mono HB.out.size)); clear HB; have HB := n0; clear n0; have hczg1_0 : w2.cell? ⟨g1, 0, none⟩ = some (.slice A l.length c) := (blk_cell Bg1.out 0).trans rfl; clear hb hbox hg)
      | ((with_reducible refine gate_dst (N := 2) rfl ?_); refine box_event ?hg (N := 2) ?hd (cs := #[.int .i64 0, .int .i64 0, .int .i64 0, .int .i64 0]) (t := 23) ?hr ?_; (case hd => rfl); (case hg => rfl); (case hr => first | (go_simp; done) | (go_simp; rfl)); intro g2 hg w3 hbox hb; clear hczg1_0; have Bg2 := Aside0.mk hbox; have Gg2 := Aside0.mk (show w.heap.size ≤ g2 by rw [hg]; exact HB.out.size); have Ng1_g2 := Aside0.mk (show g1 ≠ g2 by rw [hg]; exact Nat.ne_of_lt (blk_lt Bg1.out)); have Ng2_g1 := Aside0.mk (fun e => Ng1_g2.out e.symm : g2 ≠ g1); have n0 := Aside0.mk (HB.out.trans (hb.mono HB.out.size)); have m0 := Aside0.mk ((hb.block _ (blk_lt Bg1.out)).trans Bg1.out); clear HB; clear Bg1; have HB := n0; have Bg1 := m0; clear n0 m0; have hczg1_0 : w3.cell? ⟨g1, 0, none⟩ = some (.slice A l.length c) := (blk_cell Bg1.out 0).trans rfl; clear hb hbox hg)
      | ((with_reducible refine gate_dst (N := 3) rfl ?_); refine box_event ?hg (N := 3) ?hd (cs := #[.int .i64 0, .int .i64 0, .int .i64 0, .int .i64 0]) (t := 23) ?hr ?_; (case hd => rfl); (case hg => rfl); (case hr => first | (go_simp; done) | (go_simp; rfl)); intro g3 hg w4 hbox hb; clear hczg1_0; have Bg3 := Aside0.mk hbox; have Gg3 := Aside0.mk (show w.heap.size ≤ g3 by rw [hg]; exact HB.out.size); have Ng1_g3 := Aside0.mk (show g1 ≠ g3 by rw [hg]; exact Nat.ne_of_lt (blk_lt Bg1.out)); have Ng3_g1 := Aside0.mk (fun e => Ng1_g3.out e.symm : g3 ≠ g1); have Ng2_g3 := Aside0.mk (show g2 ≠ g3 by rw [hg]; exact Nat.ne_of_lt (blk_lt Bg2.out)); have Ng3_g2 := Aside0.mk (fun e => Ng2_g3.out e.symm : g3 ≠ g2); have n0 := Aside0.mk (HB.out.trans (hb.mono HB.out.size)); have m0 := Aside0.mk ((hb.block _ (blk_lt Bg1.out)).trans Bg1.out); have m1 := Aside0.mk ((hb.block _ (blk_lt Bg2.out)).trans Bg2.out); clear HB; clear Bg1; clear Bg2; have HB := n0; have Bg1 := m0; have Bg2 := m1; clear n0 m0 m1; have hczg1_0 : w4.cell? ⟨g1, 0, none⟩ = some (.slice A l.length c) := (blk_cell Bg1.out 0).trans rfl; clear hb hbox hg))
  obtain ⟨gm, hgm⟩ : ∃ gm, gm = w4.heap.size := ⟨_, rfl⟩
  have NMg2 := Aside0.mk (show gm ≠ g2 by rw [hgm]; exact (Nat.ne_of_lt (blk_lt Bg2.out)).symm)
  have NMg3 := Aside0.mk (show gm ≠ g3 by rw [hgm]; exact (Nat.ne_of_lt (blk_lt Bg3.out)).symm)
  have HGM := Aside0.mk hgm
  have GM := Aside0.mk (show w.heap.size ≤ gm by rw [hgm]; exact HB.out.size)
  clear hgm
  go_upto_region 3 with (fail)
  obtain ⟨w5, hw5⟩ : ∃ w5, w5 = w4.alloc (.map #[] 0) := ⟨_, rfl⟩
  rw [← HGM.out, ← hw5]
  have HS0 : Aside0 (SetAt w5 gm []) := ⟨by rw [hw5, HGM.out]; exact SetAt.made w4⟩
  have hb5 : Below w4.heap.size w4 w5 := by rw [hw5]; exact below_alloc (Below.refl _ _) _
  clear hw5 hczg1_0
  have hczg1_0 : w5.cell? ⟨g1, 0, none⟩ = some (.slice A l.length c) := (blk_cell ((hb5.block _ (blk_lt Bg1.out)).trans Bg1.out) 0).trans rfl
  have B2 := Aside0.mk ((hb5.block _ (blk_lt Bg2.out)).trans Bg2.out)
  have B3 := Aside0.mk ((hb5.block _ (blk_lt Bg3.out)).trans Bg3.out)
  have HB5 := Aside0.mk (HB.out.trans (hb5.mono HB.out.size))
  clear Bg1 Bg2 Bg3 HB hb5 HGM
  go_wp2
  go_loopw [11] (fun v11 wr => ∃ (i : Nat) (S : List Int) (b ii d nn : Int), v11 = .int .i64 i ∧ Aside0 (i ≤ l.length) ∧ Aside0 (S.length = i) ∧ Aside0 (ofGo (l.drop i) S b ii d nn = (r1, r2, r3, r4)) ∧ Aside0 (SetAt wr gm S) ∧ Aside0 (Below w.heap.size w wr) ∧ Aside0 (wr.heap[g2]? = some (.cells #[.int .i64 0, .int .i64 0, .int .i64 0, .int .i64 0] 23 (0, 0))) ∧ Aside0 (wr.heap[g3]? = some (.cells #[.int .i64 b, .int .i64 ii, .int .i64 d, .int .i64 nn] 23 (0, 0)))) (fun v11 _ => l.length - (intOf v11).toNat)
  case atStart => exact ⟨0, [], 0, 0, 0, 0, rfl, ⟨Nat.zero_le _⟩, ⟨rfl⟩, HH, HS0, HB5, B2, B3⟩
  case round =>
    clear HH HS0 HB5 B2 B3 hczg1_0
    obtain ⟨i, S, b, ii, d, nn, rfl, HI, HSL, HO, HSET, HB, Bg2, Bg3⟩ := hrel
    have hib : (i : Int) ≤ 1000000 := by have := HI.out; omega
    by_cases hlt : i < l.length
    · have hlz : (i : Int) < (l.length : Int) := by omega
      obtain ⟨ad, ea, hx0, hx1, hx2, hx3, hx4, hx5, hx6, hx7, hx8, hx9, hx10, hx11, hx12⟩ := at_T44 (Kd.C_below HC.out HB.out) (i : Int) (by omega) (by omega)
      have hrd : rd_T44 l (i : Int) = l[i] := by unfold rd_T44; rw [Int.toNat_natCast, List.getD_eq_getElem?_getD, List.getElem?_eq_getElem hlt]; rfl
      have hfy := HF.out.2 l[i] (List.getElem_mem hlt)
      have ho := HO.out
      rw [List.drop_eq_getElem_cons hlt] at ho
      rw [Int.toNat_natCast, hrd] at hx0 hx1 hx2 hx3 hx4 hx5 hx6 hx7 hx8 hx9 hx11 hx12
      rw [Int.toNat_natCast] at hx10
      generalize l[i] = y at hx0 hx1 hx2 hx3 hx4 hx5 hx6 hx7 hx8 hx9 hx11 hx12 hfy ho
      clear hrd HO
      have HO := Aside0.mk ho
      clear ho
      have hps := Pure.parts_f (s := y.f0) hfy.1
      obtain ⟨ps, hpd⟩ : ∃ ps, ps = (Pure.partsS y.f0.data.toList).map mkS := ⟨_, rfl⟩
      rw [← hpd] at hps
      have HPL := Aside0.mk (show (ps.length : Int) = ((Pure.partsS y.f0.data.toList).length : Int) by rw [hpd, List.length_map])
      have HPS := Aside0.mk hps
      have HFY := Aside0.mk hfy
      clear hps hpd hfy
      subst ea
      go_upto_region 6 with (first
      | ((with_reducible refine gate_dst (N := 6) rfl ?_); refine box_event ?hg (N := 6) ?hd (cs := zCells) (t := 44) ?hr ?_; (case hd => rfl); (case hg => rfl); (case hr => first | (go_simp; done) | (go_simp; rfl)); intro g6 hg w12 hbox hb; have NMg6 := Aside0.mk (show gm ≠ g6 by rw [hg]; exact Nat.ne_of_lt HSET.out.lt); have Bg6 := Aside0.mk hbox; have Gg6 := Aside0.mk (show w.heap.size ≤ g6 by rw [hg]; exact HB.out.size); have Ng2_g6 := Aside0.mk (show g2 ≠ g6 by rw [hg]; exact Nat.ne_of_lt (blk_lt Bg2.out)); have Ng6_g2 := Aside0.mk (fun e => Ng2_g6.out e.symm : g6 ≠ g2); have Ng3_g6 := Aside0.mk (show g3 ≠ g6 by rw [hg]; exact Nat.ne_of_lt (blk_lt Bg3.out)); have Ng6_g3 := Aside0.mk (fun e => Ng3_g6.out e.symm : g6 ≠ g3); have n0 := Aside0.mk (HB.out.trans (hb.mono HB.out.size)); have m0 := Aside0.mk ((hb.block _ (blk_lt Bg2.out)).trans Bg2.out); have m1 := Aside0.mk ((hb.block _ (blk_lt Bg3.out)).trans Bg3.out); have xHSET := Aside0.mk (SetAt.below HSET.out hb); clear HB; clear Bg2; clear Bg3; clear HSET; have HB := n0; have Bg2 := m0; have Bg3 := m1; have HSET := xHSET; clear n0 m0 m1 xHSET; clear hb hbox hg)
      | ((with_reducible refine gate_store (t := 44) (p := 6) rfl ?_); (with_reducible refine store_ev rfl 44 (.tmp 6) (.tmp 14) rfl g6 #[.string y.f0, .int .i64 y.f1, .int .i64 y.f2.f0, .int .i64 y.f2.f1, .int .i64 y.f2.f2, .int .i64 y.f2.f3, .int .i64 y.f2.f4, .string y.f2.f5, .string y.f2.f6, .string y.f2.f7, .slice none 0 0, .int .i64 y.f2.f8.f1, .bool y.f2.f9] ?hx ?hy 44 #[(.string (⟨#[]⟩ : ByteArray)), .int .i64 0, .int .i64 0, .int .i64 0, .int .i64 0, .int .i64 0, .int .i64 0, (.string (⟨#[]⟩ : ByteArray)), (.string (⟨#[]⟩ : ByteArray)), (.string (⟨#[]⟩ : ByteArray)), .slice none 0 0, .int .i64 0, .bool false] ?hz ?hi ?hold ?h1 w ?hB ?hw ?_); (case hx => rfl); (case hy => rfl); (case hz => exact Bg6.out); (case hi => exact size44); (case hold => rfl); (case h1 => simp [rowC, Value.oneCell']); (case hB => exact Gg6.out); (case hw => exact HB.out); intro w13 hs ho hb; have m0 := Aside0.mk ((ho g2 Ng2_g6.out).trans Bg2.out); have m1 := Aside0.mk ((ho g3 Ng3_g6.out).trans Bg3.out); have m2 := Aside0.mk hs; have xHSET := Aside0.mk (SetAt.others HSET.out ho NMg6.out); clear HSET; have HSET := xHSET; clear xHSET; clear HB; clear Bg2; clear Bg3; clear Bg6; have HB := Aside0.mk hb; have Bg2 := m0; have Bg3 := m1; have Bg6 := m2; clear m0 m1 m2 hs ho hb))
      have hcA : w13.cell? ⟨g3, 2, none⟩ = some (.int .i64 d) := (blk_cell Bg3.out 2).trans rfl
      have hcB : w13.cell? ⟨g6, 0, none⟩ = some (.string y.f0) := (blk_cell Bg6.out 0).trans rfl
      go_region_law (first | (go_simp; go_at_call 43; (refine (path_Parts.calls y.f0 ps _ HPS.out).mono ?_); rintro e w7 ⟨v7, rfl, hv7, hb7⟩; obtain ⟨A7, c7, rfl⟩ := Kd.R_slice hv7; have hq2 := ((hb7.cell (p := ⟨g3, 2, none⟩) (blk_lt Bg3.out)).trans ((blk_cell Bg3.out 2).trans rfl)); have hfq2 := blk_frozen ((hb7.block _ (blk_lt Bg3.out)).trans Bg3.out) 2))
      all_goals
        obtain ⟨w14, hw14⟩ : ∃ w14, w14 = w7.setCell ⟨g3, 2, none⟩ (.int .i64 (maxI d (ps.length : Int))) := ⟨_, rfl⟩
        rw [← hw14]
        have c3 : w14.heap[g3]? = some (.cells #[.int .i64 b, .int .i64 ii, .int .i64 (maxI d (ps.length : Int)), .int .i64 nn] 23 (0, 0)) := by rw [hw14]; exact blk_put (cs := #[.int .i64 b, .int .i64 ii, .int .i64 d, .int .i64 nn]) ((hb7.block _ (blk_lt Bg3.out)).trans Bg3.out) 2 _ rfl
        have c2 : w14.heap[g2]? = some (.cells #[.int .i64 0, .int .i64 0, .int .i64 0, .int .i64 0] 23 (0, 0)) := by rw [hw14]; exact blk_far (p := ⟨g3, 2, none⟩) ((hb7.block _ (blk_lt Bg2.out)).trans Bg2.out) Ng2_g3.out _
        have c6 : w14.heap[g6]? = some (.cells #[.string y.f0, .int .i64 y.f1, .int .i64 y.f2.f0, .int .i64 y.f2.f1, .int .i64 y.f2.f2, .int .i64 y.f2.f3, .int .i64 y.f2.f4, .string y.f2.f5, .string y.f2.f6, .string y.f2.f7, .slice none 0 0, .int .i64 y.f2.f8.f1, .bool y.f2.f9] 44 (0, 0)) := by rw [hw14]; exact blk_far (p := ⟨g3, 2, none⟩) ((hb7.block _ (blk_lt Bg6.out)).trans Bg6.out) Ng6_g3.out _
        have cb : Below w.heap.size w w14 := by rw [hw14]; exact below_set (below_step (by repeat (first | (with_reducible first | exact HB.out | apply below_alloc | apply pw_below_drewN | apply below_drew1) | exact HB.out)) hb7) Gg3.out
        have cs : SetAt w14 gm S := by
          rw [hw14]
          exact SetAt.others (SetAt.below (W := w13.drew) (show SetAt w13.drew gm S from HSET.out) hb7) (fun k hk => Below.heap_setCell _ _ _ _ hk) NMg3.out
        clear hw14 hq2 hfq2 hb7 hv7 Bg2 Bg3 Bg6 HB HSET
        try clear hcA
        try clear hcB
        have Bg2 := Aside0.mk c2
        have Bg3 := Aside0.mk c3
        have Bg6 := Aside0.mk c6
        have HB := Aside0.mk cb
        have HSET := Aside0.mk cs
        clear c2 c3 c6 cb cs
        have HRG := Aside0.mk (HSET.out.lt)
        have hczg3_0 : w14.cell? ⟨g3, 0, none⟩ = some (.int .i64 b) := (blk_cell Bg3.out 0).trans rfl
        have hczg3_1 : w14.cell? ⟨g3, 1, none⟩ = some (.int .i64 ii) := (blk_cell Bg3.out 1).trans rfl
        have hczg3_2 : w14.cell? ⟨g3, 2, none⟩ = some (.int .i64 (maxI d (ps.length : Int))) := (blk_cell Bg3.out 2).trans rfl
        have hczg3_3 : w14.cell? ⟨g3, 3, none⟩ = some (.int .i64 nn) := (blk_cell Bg3.out 3).trans rfl
        have hczg6_0 : w14.cell? ⟨g6, 0, none⟩ = some (.string y.f0) := (blk_cell Bg6.out 0).trans rfl
        have hczg6_1 : w14.cell? ⟨g6, 1, none⟩ = some (.int .i64 y.f1) := (blk_cell Bg6.out 1).trans rfl
        have hczg6_2 : w14.cell? ⟨g6, 2, none⟩ = some (.int .i64 y.f2.f0) := (blk_cell Bg6.out 2).trans rfl
        have hczg6_11 : w14.cell? ⟨g6, 11, none⟩ = some (.int .i64 y.f2.f8.f1) := (blk_cell Bg6.out 11).trans rfl
        by_cases hm : y.f1 ∈ S
        · have HAG : Aside0 (∀ W : World, SetAt W gm S → Calls Tryd.prog 44 #[.map (some gm), .int .i64 y.f1] W fun e w' => e = .returned (.bool true) ∧ SetAt w' gm (y.f1 :: S) ∧ W.grownBy w' (some gm)) :=
            ⟨fun W hs => by have := again_calls S gm y.f1 W hs HFY.out.2 (by have := HSL.out; omega); rwa [decide_eq_true hm] at this⟩
          have HO2 : Aside0 (ofGo (l.drop (i + 1)) (y.f1 :: S) b ii (maxI d (ps.length : Int)) (maxI nn (y.f0.size : Int)) = (r1, r2, r3, r4)) := ⟨by have := HO.out; rw [ofGo, if_pos hm, ← HPL.out] at this; exact this⟩
          clear hm
          go_wp2_with (first
      | ((with_reducible refine gate_store (t := 3) (p := 29) rfl ?_); (with_reducible refine store_field_ev rfl 3 (.tmp 29) (.tmp 28) rfl g3 3 (.int .i64 (maxI nn (y.f0.size : Int))) ?hx ?hy 23 #[.int .i64 b, .int .i64 ii, .int .i64 (maxI d (ps.length : Int)), .int .i64 nn] #[.int .i64 b, .int .i64 ii, .int .i64 (maxI d (ps.length : Int)), .int .i64 (maxI nn (y.f0.size : Int))] ?hz ?hi ?he ?h1 w ?hB ?hw ?hlt ?hcl ?_); (case hlt => simp); (case hcl => rfl); (case hx => rfl); (case hy => rfl); (case hz => exact Bg3.out); (case hi => kernel_rfl); (case he => rfl); (case h1 => rfl); (case hB => exact Gg3.out); (case hw => exact HB.out); intro w22 hs ho hb; clear hczg3_0; clear hczg3_1; clear hczg3_2; clear hczg3_3; clear hczg6_0; clear hczg6_1; clear hczg6_2; clear hczg6_11; have m0 := Aside0.mk ((ho g2 Ng2_g3.out).trans Bg2.out); have m1 := Aside0.mk hs; have m2 := Aside0.mk ((ho g6 Ng6_g3.out).trans Bg6.out); have xHSET := Aside0.mk (SetAt.others HSET.out ho NMg3.out); clear HSET; have HSET := xHSET; clear xHSET; clear HB; clear Bg2; clear Bg3; clear Bg6; have HB := Aside0.mk hb; have Bg2 := m0; have Bg3 := m1; have Bg6 := m2; clear m0 m1 m2 hs ho hb; have hczg3_0 : w22.cell? ⟨g3, 0, none⟩ = some (.int .i64 b) := (blk_cell Bg3.out 0).trans rfl; have hczg3_1 : w22.cell? ⟨g3, 1, none⟩ = some (.int .i64 ii) := (blk_cell Bg3.out 1).trans rfl; have hczg3_2 : w22.cell? ⟨g3, 2, none⟩ = some (.int .i64 (maxI d (ps.length : Int))) := (blk_cell Bg3.out 2).trans rfl; have hczg3_3 : w22.cell? ⟨g3, 3, none⟩ = some (.int .i64 (maxI nn (y.f0.size : Int))) := (blk_cell Bg3.out 3).trans rfl; have hczg6_0 : w22.cell? ⟨g6, 0, none⟩ = some (.string y.f0) := (blk_cell Bg6.out 0).trans rfl; have hczg6_1 : w22.cell? ⟨g6, 1, none⟩ = some (.int .i64 y.f1) := (blk_cell Bg6.out 1).trans rfl; have hczg6_2 : w22.cell? ⟨g6, 2, none⟩ = some (.int .i64 y.f2.f0) := (blk_cell Bg6.out 2).trans rfl; have hczg6_11 : w22.cell? ⟨g6, 11, none⟩ = some (.int .i64 y.f2.f8.f1) := (blk_cell Bg6.out 11).trans rfl)
      | (go_at_call 44; (refine (HAG.out _ HSET.out).mono ?_); rintro e w23 ⟨rfl, hset, hg⟩; clear hczg3_0; clear hczg3_1; clear hczg3_2; clear hczg3_3; clear hczg6_0; clear hczg6_1; clear hczg6_2; clear hczg6_11; have n0 := Aside0.mk (HB.out.grown hg HB.out.size (fun k hk => by cases hk; exact GM.out)); have m0 := Aside0.mk ((hg.block _ (blk_lt Bg2.out) (fun e => NMg2.out (Option.some.inj e).symm)).trans Bg2.out); have m1 := Aside0.mk ((hg.block _ (blk_lt Bg3.out) (fun e => NMg3.out (Option.some.inj e).symm)).trans Bg3.out); have m2 := Aside0.mk ((hg.block _ (blk_lt Bg6.out) (fun e => NMg6.out (Option.some.inj e).symm)).trans Bg6.out); clear HB HSET; clear Bg2; clear Bg3; clear Bg6; have HB := n0; have HSET := Aside0.mk hset; have Bg2 := m0; have Bg3 := m1; have Bg6 := m2; clear n0 hset m0 m1 m2; have hczg3_0 : w23.cell? ⟨g3, 0, none⟩ = some (.int .i64 b) := (blk_cell Bg3.out 0).trans rfl; have hczg3_1 : w23.cell? ⟨g3, 1, none⟩ = some (.int .i64 ii) := (blk_cell Bg3.out 1).trans rfl; have hczg3_2 : w23.cell? ⟨g3, 2, none⟩ = some (.int .i64 (maxI d (ps.length : Int))) := (blk_cell Bg3.out 2).trans rfl; have hczg3_3 : w23.cell? ⟨g3, 3, none⟩ = some (.int .i64 (maxI nn (y.f0.size : Int))) := (blk_cell Bg3.out 3).trans rfl; have hczg6_0 : w23.cell? ⟨g6, 0, none⟩ = some (.string y.f0) := (blk_cell Bg6.out 0).trans rfl; have hczg6_1 : w23.cell? ⟨g6, 1, none⟩ = some (.int .i64 y.f1) := (blk_cell Bg6.out 1).trans rfl; have hczg6_2 : w23.cell? ⟨g6, 2, none⟩ = some (.int .i64 y.f2.f0) := (blk_cell Bg6.out 2).trans rfl; have hczg6_11 : w23.cell? ⟨g6, 11, none⟩ = some (.int .i64 y.f2.f8.f1) := (blk_cell Bg6.out 11).trans rfl; clear hg))
          go_roundw
          case rel => exact ⟨i + 1, y.f1 :: S, b, ii, maxI d (ps.length : Int), maxI nn (y.f0.size : Int), by go_num, ⟨by omega⟩, ⟨by rw [List.length_cons, HSL.out]⟩, HO2, HSET, HB, Bg2, Bg3⟩
          case measure => simp [intOf]; omega
        · have HAG : Aside0 (∀ W : World, SetAt W gm S → Calls Tryd.prog 44 #[.map (some gm), .int .i64 y.f1] W fun e w' => e = .returned (.bool false) ∧ SetAt w' gm (y.f1 :: S) ∧ W.grownBy w' (some gm)) :=
            ⟨fun W hs => by have := again_calls S gm y.f1 W hs HFY.out.2 (by have := HSL.out; omega); rwa [decide_eq_false hm] at this⟩
          by_cases hk : y.f2.f0 = 1
          · have HO2 : Aside0 (ofGo (l.drop (i + 1)) (y.f1 :: S) (wrap64 (b + y.f2.f8.f1)) (wrap64 (ii + 1)) (maxI d (ps.length : Int)) (maxI nn (y.f0.size : Int)) = (r1, r2, r3, r4)) := ⟨by have := HO.out; rw [ofGo, if_neg hm, if_pos hk, ← HPL.out] at this; exact this⟩
            have b3 : (y.f2.f0 == 1) = true := beq_iff_eq.2 hk
            clear hm hk
            go_wp2_with (first
      | ((with_reducible refine gate_store (t := 3) (p := 29) rfl ?_); (with_reducible refine store_field_ev rfl 3 (.tmp 29) (.tmp 28) rfl g3 3 (.int .i64 (maxI nn (y.f0.size : Int))) ?hx ?hy 23 #[.int .i64 b, .int .i64 ii, .int .i64 (maxI d (ps.length : Int)), .int .i64 nn] #[.int .i64 b, .int .i64 ii, .int .i64 (maxI d (ps.length : Int)), .int .i64 (maxI nn (y.f0.size : Int))] ?hz ?hi ?he ?h1 w ?hB ?hw ?hlt ?hcl ?_); (case hlt => simp); (case hcl => rfl); (case hx => rfl); (case hy => rfl); (case hz => exact Bg3.out); (case hi => kernel_rfl); (case he => rfl); (case h1 => rfl); (case hB => exact Gg3.out); (case hw => exact HB.out); intro w22 hs ho hb; clear hczg3_0; clear hczg3_1; clear hczg3_2; clear hczg3_3; clear hczg6_0; clear hczg6_1; clear hczg6_2; clear hczg6_11; have m0 := Aside0.mk ((ho g2 Ng2_g3.out).trans Bg2.out); have m1 := Aside0.mk hs; have m2 := Aside0.mk ((ho g6 Ng6_g3.out).trans Bg6.out); have xHSET := Aside0.mk (SetAt.others HSET.out ho NMg3.out); clear HSET; have HSET := xHSET; clear xHSET; clear HB; clear Bg2; clear Bg3; clear Bg6; have HB := Aside0.mk hb; have Bg2 := m0; have Bg3 := m1; have Bg6 := m2; clear m0 m1 m2 hs ho hb; have hczg3_0 : w22.cell? ⟨g3, 0, none⟩ = some (.int .i64 b) := (blk_cell Bg3.out 0).trans rfl; have hczg3_1 : w22.cell? ⟨g3, 1, none⟩ = some (.int .i64 ii) := (blk_cell Bg3.out 1).trans rfl; have hczg3_2 : w22.cell? ⟨g3, 2, none⟩ = some (.int .i64 (maxI d (ps.length : Int))) := (blk_cell Bg3.out 2).trans rfl; have hczg3_3 : w22.cell? ⟨g3, 3, none⟩ = some (.int .i64 (maxI nn (y.f0.size : Int))) := (blk_cell Bg3.out 3).trans rfl; have hczg6_0 : w22.cell? ⟨g6, 0, none⟩ = some (.string y.f0) := (blk_cell Bg6.out 0).trans rfl; have hczg6_1 : w22.cell? ⟨g6, 1, none⟩ = some (.int .i64 y.f1) := (blk_cell Bg6.out 1).trans rfl; have hczg6_2 : w22.cell? ⟨g6, 2, none⟩ = some (.int .i64 y.f2.f0) := (blk_cell Bg6.out 2).trans rfl; have hczg6_11 : w22.cell? ⟨g6, 11, none⟩ = some (.int .i64 y.f2.f8.f1) := (blk_cell Bg6.out 11).trans rfl)
      | (go_at_call 44; (refine (HAG.out _ HSET.out).mono ?_); rintro e w23 ⟨rfl, hset, hg⟩; clear hczg3_0; clear hczg3_1; clear hczg3_2; clear hczg3_3; clear hczg6_0; clear hczg6_1; clear hczg6_2; clear hczg6_11; have n0 := Aside0.mk (HB.out.grown hg HB.out.size (fun k hk => by cases hk; exact GM.out)); have m0 := Aside0.mk ((hg.block _ (blk_lt Bg2.out) (fun e => NMg2.out (Option.some.inj e).symm)).trans Bg2.out); have m1 := Aside0.mk ((hg.block _ (blk_lt Bg3.out) (fun e => NMg3.out (Option.some.inj e).symm)).trans Bg3.out); have m2 := Aside0.mk ((hg.block _ (blk_lt Bg6.out) (fun e => NMg6.out (Option.some.inj e).symm)).trans Bg6.out); clear HB HSET; clear Bg2; clear Bg3; clear Bg6; have HB := n0; have HSET := Aside0.mk hset; have Bg2 := m0; have Bg3 := m1; have Bg6 := m2; clear n0 hset m0 m1 m2; have hczg3_0 : w23.cell? ⟨g3, 0, none⟩ = some (.int .i64 b) := (blk_cell Bg3.out 0).trans rfl; have hczg3_1 : w23.cell? ⟨g3, 1, none⟩ = some (.int .i64 ii) := (blk_cell Bg3.out 1).trans rfl; have hczg3_2 : w23.cell? ⟨g3, 2, none⟩ = some (.int .i64 (maxI d (ps.length : Int))) := (blk_cell Bg3.out 2).trans rfl; have hczg3_3 : w23.cell? ⟨g3, 3, none⟩ = some (.int .i64 (maxI nn (y.f0.size : Int))) := (blk_cell Bg3.out 3).trans rfl; have hczg6_0 : w23.cell? ⟨g6, 0, none⟩ = some (.string y.f0) := (blk_cell Bg6.out 0).trans rfl; have hczg6_1 : w23.cell? ⟨g6, 1, none⟩ = some (.int .i64 y.f1) := (blk_cell Bg6.out 1).trans rfl; have hczg6_2 : w23.cell? ⟨g6, 2, none⟩ = some (.int .i64 y.f2.f0) := (blk_cell Bg6.out 2).trans rfl; have hczg6_11 : w23.cell? ⟨g6, 11, none⟩ = some (.int .i64 y.f2.f8.f1) := (blk_cell Bg6.out 11).trans rfl; clear hg)
      | ((with_reducible refine gate_store (t := 3) (p := 37) rfl ?_); (with_reducible refine store_field_ev rfl 3 (.tmp 37) (.tmp 36) rfl g3 1 (.int .i64 (wrap64 (ii + 1))) ?hx ?hy 23 #[.int .i64 b, .int .i64 ii, .int .i64 (maxI d (ps.length : Int)), .int .i64 (maxI nn (y.f0.size : Int))] #[.int .i64 b, .int .i64 (wrap64 (ii + 1)), .int .i64 (maxI d (ps.length : Int)), .int .i64 (maxI nn (y.f0.size : Int))] ?hz ?hi ?he ?h1 w ?hB ?hw ?hlt ?hcl ?_); (case hlt => simp); (case hcl => rfl); (case hx => rfl); (case hy => rfl); (case hz => exact Bg3.out); (case hi => kernel_rfl); (case he => rfl); (case h1 => rfl); (case hB => exact Gg3.out); (case hw => exact HB.out); intro w24 hs ho hb; clear hczg3_0; clear hczg3_1; clear hczg3_2; clear hczg3_3; clear hczg6_0; clear hczg6_1; clear hczg6_2; clear hczg6_11; have m0 := Aside0.mk ((ho g2 Ng2_g3.out).trans Bg2.out); have m1 := Aside0.mk hs; have m2 := Aside0.mk ((ho g6 Ng6_g3.out).trans Bg6.out); have xHSET := Aside0.mk (SetAt.others HSET.out ho NMg3.out); clear HSET; have HSET := xHSET; clear xHSET; clear HB; clear Bg2; clear Bg3; clear Bg6; have HB := Aside0.mk hb; have Bg2 := m0; have Bg3 := m1; have Bg6 := m2; clear m0 m1 m2 hs ho hb; have hczg3_0 : w24.cell? ⟨g3, 0, none⟩ = some (.int .i64 b) := (blk_cell Bg3.out 0).trans rfl; have hczg3_1 : w24.cell? ⟨g3, 1, none⟩ = some (.int .i64 (wrap64 (ii + 1))) := (blk_cell Bg3.out 1).trans rfl; have hczg3_2 : w24.cell? ⟨g3, 2, none⟩ = some (.int .i64 (maxI d (ps.length : Int))) := (blk_cell Bg3.out 2).trans rfl; have hczg3_3 : w24.cell? ⟨g3, 3, none⟩ = some (.int .i64 (maxI nn (y.f0.size : Int))) := (blk_cell Bg3.out 3).trans rfl; have hczg6_0 : w24.cell? ⟨g6, 0, none⟩ = some (.string y.f0) := (blk_cell Bg6.out 0).trans rfl; have hczg6_1 : w24.cell? ⟨g6, 1, none⟩ = some (.int .i64 y.f1) := (blk_cell Bg6.out 1).trans rfl; have hczg6_2 : w24.cell? ⟨g6, 2, none⟩ = some (.int .i64 y.f2.f0) := (blk_cell Bg6.out 2).trans rfl; have hczg6_11 : w24.cell? ⟨g6, 11, none⟩ = some (.int .i64 y.f2.f8.f1) := (blk_cell Bg6.out 11).trans rfl)
      | ((with_reducible refine gate_store (t := 2) (p := 49) rfl ?_); (with_reducible refine store_field_ev rfl 2 (.tmp 49) (.tmp 48) rfl g3 0 (.int .i64 (wrap64 (b + y.f2.f8.f1))) ?hx ?hy 23 #[.int .i64 b, .int .i64 (wrap64 (ii + 1)), .int .i64 (maxI d (ps.length : Int)), .int .i64 (maxI nn (y.f0.size : Int))] #[.int .i64 (wrap64 (b + y.f2.f8.f1)), .int .i64 (wrap64 (ii + 1)), .int .i64 (maxI d (ps.length : Int)), .int .i64 (maxI nn (y.f0.size : Int))] ?hz ?hi ?he ?h1 w ?hB ?hw ?hlt ?hcl ?_); (case hlt => simp); (case hcl => rfl); (case hx => rfl); (case hy => rfl); (case hz => exact Bg3.out); (case hi => kernel_rfl); (case he => rfl); (case h1 => rfl); (case hB => exact Gg3.out); (case hw => exact HB.out); intro w25 hs ho hb; clear hczg3_0; clear hczg3_1; clear hczg3_2; clear hczg3_3; clear hczg6_0; clear hczg6_1; clear hczg6_2; clear hczg6_11; have m0 := Aside0.mk ((ho g2 Ng2_g3.out).trans Bg2.out); have m1 := Aside0.mk hs; have m2 := Aside0.mk ((ho g6 Ng6_g3.out).trans Bg6.out); have xHSET := Aside0.mk (SetAt.others HSET.out ho NMg3.out); clear HSET; have HSET := xHSET; clear xHSET; clear HB; clear Bg2; clear Bg3; clear Bg6; have HB := Aside0.mk hb; have Bg2 := m0; have Bg3 := m1; have Bg6 := m2; clear m0 m1 m2 hs ho hb; have hczg3_0 : w25.cell? ⟨g3, 0, none⟩ = some (.int .i64 (wrap64 (b + y.f2.f8.f1))) := (blk_cell Bg3.out 0).trans rfl; have hczg3_1 : w25.cell? ⟨g3, 1, none⟩ = some (.int .i64 (wrap64 (ii + 1))) := (blk_cell Bg3.out 1).trans rfl; have hczg3_2 : w25.cell? ⟨g3, 2, none⟩ = some (.int .i64 (maxI d (ps.length : Int))) := (blk_cell Bg3.out 2).trans rfl; have hczg3_3 : w25.cell? ⟨g3, 3, none⟩ = some (.int .i64 (maxI nn (y.f0.size : Int))) := (blk_cell Bg3.out 3).trans rfl; have hczg6_0 : w25.cell? ⟨g6, 0, none⟩ = some (.string y.f0) := (blk_cell Bg6.out 0).trans rfl; have hczg6_1 : w25.cell? ⟨g6, 1, none⟩ = some (.int .i64 y.f1) := (blk_cell Bg6.out 1).trans rfl; have hczg6_2 : w25.cell? ⟨g6, 2, none⟩ = some (.int .i64 y.f2.f0) := (blk_cell Bg6.out 2).trans rfl; have hczg6_11 : w25.cell? ⟨g6, 11, none⟩ = some (.int .i64 y.f2.f8.f1) := (blk_cell Bg6.out 11).trans rfl))
            go_roundw
            case rel => exact ⟨i + 1, y.f1 :: S, wrap64 (b + y.f2.f8.f1), wrap64 (ii + 1), maxI d (ps.length : Int), maxI nn (y.f0.size : Int), by go_num, ⟨by omega⟩, ⟨by rw [List.length_cons, HSL.out]⟩, HO2, HSET, HB, Bg2, Bg3⟩
            case measure => simp [intOf]; omega
          · have HO2 : Aside0 (ofGo (l.drop (i + 1)) (y.f1 :: S) b (wrap64 (ii + 1)) (maxI d (ps.length : Int)) (maxI nn (y.f0.size : Int)) = (r1, r2, r3, r4)) := ⟨by have := HO.out; rw [ofGo, if_neg hm, if_neg hk, ← HPL.out] at this; exact this⟩
            have b3 : (y.f2.f0 == 1) = false := beq_eq_false_iff_ne.2 hk
            clear hm hk
            go_wp2_with (first
      | ((with_reducible refine gate_store (t := 3) (p := 29) rfl ?_); (with_reducible refine store_field_ev rfl 3 (.tmp 29) (.tmp 28) rfl g3 3 (.int .i64 (maxI nn (y.f0.size : Int))) ?hx ?hy 23 #[.int .i64 b, .int .i64 ii, .int .i64 (maxI d (ps.length : Int)), .int .i64 nn] #[.int .i64 b, .int .i64 ii, .int .i64 (maxI d (ps.length : Int)), .int .i64 (maxI nn (y.f0.size : Int))] ?hz ?hi ?he ?h1 w ?hB ?hw ?hlt ?hcl ?_); (case hlt => simp); (case hcl => rfl); (case hx => rfl); (case hy => rfl); (case hz => exact Bg3.out); (case hi => kernel_rfl); (case he => rfl); (case h1 => rfl); (case hB => exact Gg3.out); (case hw => exact HB.out); intro w22 hs ho hb; clear hczg3_0; clear hczg3_1; clear hczg3_2; clear hczg3_3; clear hczg6_0; clear hczg6_1; clear hczg6_2; clear hczg6_11; have m0 := Aside0.mk ((ho g2 Ng2_g3.out).trans Bg2.out); have m1 := Aside0.mk hs; have m2 := Aside0.mk ((ho g6 Ng6_g3.out).trans Bg6.out); have xHSET := Aside0.mk (SetAt.others HSET.out ho NMg3.out); clear HSET; have HSET := xHSET; clear xHSET; clear HB; clear Bg2; clear Bg3; clear Bg6; have HB := Aside0.mk hb; have Bg2 := m0; have Bg3 := m1; have Bg6 := m2; clear m0 m1 m2 hs ho hb; have hczg3_0 : w22.cell? ⟨g3, 0, none⟩ = some (.int .i64 b) := (blk_cell Bg3.out 0).trans rfl; have hczg3_1 : w22.cell? ⟨g3, 1, none⟩ = some (.int .i64 ii) := (blk_cell Bg3.out 1).trans rfl; have hczg3_2 : w22.cell? ⟨g3, 2, none⟩ = some (.int .i64 (maxI d (ps.length : Int))) := (blk_cell Bg3.out 2).trans rfl; have hczg3_3 : w22.cell? ⟨g3, 3, none⟩ = some (.int .i64 (maxI nn (y.f0.size : Int))) := (blk_cell Bg3.out 3).trans rfl; have hczg6_0 : w22.cell? ⟨g6, 0, none⟩ = some (.string y.f0) := (blk_cell Bg6.out 0).trans rfl; have hczg6_1 : w22.cell? ⟨g6, 1, none⟩ = some (.int .i64 y.f1) := (blk_cell Bg6.out 1).trans rfl; have hczg6_2 : w22.cell? ⟨g6, 2, none⟩ = some (.int .i64 y.f2.f0) := (blk_cell Bg6.out 2).trans rfl; have hczg6_11 : w22.cell? ⟨g6, 11, none⟩ = some (.int .i64 y.f2.f8.f1) := (blk_cell Bg6.out 11).trans rfl)
      | (go_at_call 44; (refine (HAG.out _ HSET.out).mono ?_); rintro e w23 ⟨rfl, hset, hg⟩; clear hczg3_0; clear hczg3_1; clear hczg3_2; clear hczg3_3; clear hczg6_0; clear hczg6_1; clear hczg6_2; clear hczg6_11; have n0 := Aside0.mk (HB.out.grown hg HB.out.size (fun k hk => by cases hk; exact GM.out)); have m0 := Aside0.mk ((hg.block _ (blk_lt Bg2.out) (fun e => NMg2.out (Option.some.inj e).symm)).trans Bg2.out); have m1 := Aside0.mk ((hg.block _ (blk_lt Bg3.out) (fun e => NMg3.out (Option.some.inj e).symm)).trans Bg3.out); have m2 := Aside0.mk ((hg.block _ (blk_lt Bg6.out) (fun e => NMg6.out (Option.some.inj e).symm)).trans Bg6.out); clear HB HSET; clear Bg2; clear Bg3; clear Bg6; have HB := n0; have HSET := Aside0.mk hset; have Bg2 := m0; have Bg3 := m1; have Bg6 := m2; clear n0 hset m0 m1 m2; have hczg3_0 : w23.cell? ⟨g3, 0, none⟩ = some (.int .i64 b) := (blk_cell Bg3.out 0).trans rfl; have hczg3_1 : w23.cell? ⟨g3, 1, none⟩ = some (.int .i64 ii) := (blk_cell Bg3.out 1).trans rfl; have hczg3_2 : w23.cell? ⟨g3, 2, none⟩ = some (.int .i64 (maxI d (ps.length : Int))) := (blk_cell Bg3.out 2).trans rfl; have hczg3_3 : w23.cell? ⟨g3, 3, none⟩ = some (.int .i64 (maxI nn (y.f0.size : Int))) := (blk_cell Bg3.out 3).trans rfl; have hczg6_0 : w23.cell? ⟨g6, 0, none⟩ = some (.string y.f0) := (blk_cell Bg6.out 0).trans rfl; have hczg6_1 : w23.cell? ⟨g6, 1, none⟩ = some (.int .i64 y.f1) := (blk_cell Bg6.out 1).trans rfl; have hczg6_2 : w23.cell? ⟨g6, 2, none⟩ = some (.int .i64 y.f2.f0) := (blk_cell Bg6.out 2).trans rfl; have hczg6_11 : w23.cell? ⟨g6, 11, none⟩ = some (.int .i64 y.f2.f8.f1) := (blk_cell Bg6.out 11).trans rfl; clear hg)
      | ((with_reducible refine gate_store (t := 3) (p := 37) rfl ?_); (with_reducible refine store_field_ev rfl 3 (.tmp 37) (.tmp 36) rfl g3 1 (.int .i64 (wrap64 (ii + 1))) ?hx ?hy 23 #[.int .i64 b, .int .i64 ii, .int .i64 (maxI d (ps.length : Int)), .int .i64 (maxI nn (y.f0.size : Int))] #[.int .i64 b, .int .i64 (wrap64 (ii + 1)), .int .i64 (maxI d (ps.length : Int)), .int .i64 (maxI nn (y.f0.size : Int))] ?hz ?hi ?he ?h1 w ?hB ?hw ?hlt ?hcl ?_); (case hlt => simp); (case hcl => rfl); (case hx => rfl); (case hy => rfl); (case hz => exact Bg3.out); (case hi => kernel_rfl); (case he => rfl); (case h1 => rfl); (case hB => exact Gg3.out); (case hw => exact HB.out); intro w24 hs ho hb; clear hczg3_0; clear hczg3_1; clear hczg3_2; clear hczg3_3; clear hczg6_0; clear hczg6_1; clear hczg6_2; clear hczg6_11; have m0 := Aside0.mk ((ho g2 Ng2_g3.out).trans Bg2.out); have m1 := Aside0.mk hs; have m2 := Aside0.mk ((ho g6 Ng6_g3.out).trans Bg6.out); have xHSET := Aside0.mk (SetAt.others HSET.out ho NMg3.out); clear HSET; have HSET := xHSET; clear xHSET; clear HB; clear Bg2; clear Bg3; clear Bg6; have HB := Aside0.mk hb; have Bg2 := m0; have Bg3 := m1; have Bg6 := m2; clear m0 m1 m2 hs ho hb; have hczg3_0 : w24.cell? ⟨g3, 0, none⟩ = some (.int .i64 b) := (blk_cell Bg3.out 0).trans rfl; have hczg3_1 : w24.cell? ⟨g3, 1, none⟩ = some (.int .i64 (wrap64 (ii + 1))) := (blk_cell Bg3.out 1).trans rfl; have hczg3_2 : w24.cell? ⟨g3, 2, none⟩ = some (.int .i64 (maxI d (ps.length : Int))) := (blk_cell Bg3.out 2).trans rfl; have hczg3_3 : w24.cell? ⟨g3, 3, none⟩ = some (.int .i64 (maxI nn (y.f0.size : Int))) := (blk_cell Bg3.out 3).trans rfl; have hczg6_0 : w24.cell? ⟨g6, 0, none⟩ = some (.string y.f0) := (blk_cell Bg6.out 0).trans rfl; have hczg6_1 : w24.cell? ⟨g6, 1, none⟩ = some (.int .i64 y.f1) := (blk_cell Bg6.out 1).trans rfl; have hczg6_2 : w24.cell? ⟨g6, 2, none⟩ = some (.int .i64 y.f2.f0) := (blk_cell Bg6.out 2).trans rfl; have hczg6_11 : w24.cell? ⟨g6, 11, none⟩ = some (.int .i64 y.f2.f8.f1) := (blk_cell Bg6.out 11).trans rfl))
            go_roundw
            case rel => exact ⟨i + 1, y.f1 :: S, b, wrap64 (ii + 1), maxI d (ps.length : Int), maxI nn (y.f0.size : Int), by go_num, ⟨by omega⟩, ⟨by rw [List.length_cons, HSL.out]⟩, HO2, HSET, HB, Bg2, Bg3⟩
            case measure => simp [intOf]; omega
    · have hil : i = l.length := by have := HI.out; omega
      have ho := HO.out
      rw [hil, List.drop_length, ofGo] at ho
      have e1 := congrArg (fun x : Int × Int × Int × Int => x.1) ho
      have e2 := congrArg (fun x : Int × Int × Int × Int => x.2.1) ho
      have e3 := congrArg (fun x : Int × Int × Int × Int => x.2.2.1) ho
      have e4 := congrArg (fun x : Int × Int × Int × Int => x.2.2.2) ho
      simp only at e1 e2 e3 e4
      subst e1 e2 e3 e4
      have hlz : ¬ ((i : Int) < (l.length : Int)) := by omega
      clear ho HO HSET hil
      go_wp2_with (first
      | ((with_reducible refine gate_dst (N := 51) rfl ?_); (with_reducible refine wpList_load_row rfl 23 (.tmp 3) rfl g3 rfl 23 #[.int .i64 b, .int .i64 ii, .int .i64 d, .int .i64 nn] (0, 0) _ ?hg hu23 rfl ?hi ?_); (case hg => exact Bg3.out); (case hi => exact size23))
      | ((with_reducible refine gate_store (t := 23) (p := 2) rfl ?_); (with_reducible refine store_ev rfl 23 (.tmp 2) (.tmp 51) rfl g2 #[.int .i64 b, .int .i64 ii, .int .i64 d, .int .i64 nn] ?hx ?hy 23 #[.int .i64 0, .int .i64 0, .int .i64 0, .int .i64 0] ?hz ?hi ?hold ?h1 w ?hB ?hw ?_); (case hx => rfl); (case hy => rfl); (case hz => exact Bg2.out); (case hi => exact size23); (case hold => rfl); (case h1 => simp [rowC, Value.oneCell']); (case hB => exact Gg2.out); (case hw => exact HB.out); intro w42 hs ho hb; have m0 := Aside0.mk hs; have m1 := Aside0.mk ((ho g3 Ng3_g2.out).trans Bg3.out); clear HB; clear Bg2; clear Bg3; have HB := Aside0.mk hb; have Bg2 := m0; have Bg3 := m1; clear m0 m1 hs ho hb))
      refine bodyPost_ret (results_cell_row rfl _ _ g2 23 #[.int .i64 b, .int .i64 ii, .int .i64 d, .int .i64 nn] (0, 0) _ rfl Bg2.out Tryd.underlying23 rfl (by kernel_rfl)) rfl ?_
      exact ⟨rfl, HB.out⟩
end Go.Proofs.YtolpamojbiipaaaDoor.XA
