/- UsageOf's walk over Mem. Printed by wip/tools/gen_usageof_law.py. -/
import Derived.Test.YtolpamojbiipaaaDoorEMeasures
import Derived.Test.YtolpamojbiipaaaDoorEMemRow
import Derived.Test.YtolpamojbiipaaaDoorXA10
namespace Go.Proofs.YtolpamojbiipaaaDoor.XA
open Go.RowKit Go.Proofs.YtolpamojbiipaaaDoorW.PrintWords Go.Proofs.YtolpamojbiipaaaDoorW.PrintLast Go.Proofs.YtolpamojbiipaaaDoorW.PrintMore Go.Proofs.YtolpamojbiipaaaDoor.Mem Go.Proofs.YtolpamojbiipaaaDoor.Pure
attribute [local go_sem] max2_I max_two
attribute [local go_sem high] eqA23
set_option linter.unusedVariables false
set_option linter.unusedSimpArgs false

theorem ofGo_app (l : List S44) (ids : List Int) (x b d m : Int) (hn : ids.length ≤ 900000) : ofGo l (x :: ids) b (wrap64 ((ids.length : Int) + 1)) d m = ofGo l (ids ++ [x]) b ((ids ++ [x]).length : Int) d m := by
  rw [w64 (by omega) (by omega), ofGo_congr l (x :: ids) (ids ++ [x]) _ _ _ _ (fun y => by simp only [List.mem_cons, List.mem_append, List.not_mem_nil, or_false]; exact or_comm)]
  simp
theorem ofGo_in (l : List S44) (ids : List Int) (x b i d m : Int) (h : x ∈ ids) : ofGo l ids b i d m = ofGo l (x :: ids) b i d m :=
  ofGo_congr l _ _ _ _ _ _ (fun y => by
    simp only [List.mem_cons]
    exact ⟨.inr, fun h2 => by
      rcases h2 with rfl | h2
      · exact h
      · exact h2⟩)
theorem take_mem_dec (ids : List Int) (j : Nat) (h : j < ids.length) (x : Int) : decide (x ∈ ids.take (j + 1)) = (decide (x ∈ ids.take j) || (ids[j] == x)) := by
  have e : ids.take (j + 1) = ids.take j ++ [ids[j]] := List.take_succ_eq_append_getElem h
  rw [e, Bool.eq_iff_iff]
  simp only [decide_eq_true_eq, Bool.or_eq_true, beq_iff_eq, List.mem_append, List.mem_singleton]
  exact ⟨fun h => h.imp id Eq.symm, fun h => h.imp id Eq.symm⟩
set_option maxHeartbeats 8000000 in
set_option maxRecDepth 100000 in
theorem UsageOf_walk (w : World) (HG0 : GG w) (A0 : Option Addr) (c0 : Nat) (xs : List S49) (hr0 : Kd.C k49 w A0 xs.length xs) (hm0 : xs.length ≤ 9223372036854775807) (hw0 : ∀ x ∈ xs, (x.f0.size ≤ 9223372036854775807 ∧ x.f1.size ≤ 9223372036854775807 ∧ (Lit.int .i64 x.f2).wf = true ∧ (Lit.int .i64 x.f3).wf = true)) :
    Calls Tryd.prog 5 #[.slice A0 xs.length c0] w fun e w' => e = .returned (.bool true) ∧ Below w.heap.size w w' := by
  have HM : Aside0 (Mem w (fun k => k < w.heap.size) w [] (fun w => Kd.C k49 w A0 xs.length xs)) := ⟨Mem.start (fun W' h => heap49.C (fun k hk => h k hk hk) hr0)⟩
  clear hw0
  obtain ⟨i0, hi0, hz0, hz1, hz2⟩ := info_parts infoI3
  by_cases hlen : 40 < xs.length
  · have b0 : decide ((40 : Int) < (xs.length : Int)) = true := decide_eq_true (by omega)
    clear hlen
    go_enter Tryd.func5, Tryd.ntmps5
    go_wp2_with (first
      | go_skip
      | (go_at_call 16; (refine (measures_M HM.out).mono ?_); rintro e _ ⟨rfl, hM⟩; clear HM; have HM := Aside0.mk hM; clear hM))
    go_ret
    exact ⟨rfl, HM.out.below⟩
  have b0 : decide ((40 : Int) < (xs.length : Int)) = false := decide_eq_false (by omega)
  have HPL : Aside0 (∀ (W : World), Mem w (fun k => k < w.heap.size) W [] (fun w => Kd.C k49 w A0 xs.length xs) → Calls Tryd.prog 19 #[.slice A0 xs.length c0] W fun e w' => ∃ A c, e = .returned (.agg #[.slice A (planted14 xs).1.length c, .int .i64 (planted14 xs).2]) ∧ (planted14 xs).1.length ≤ c ∧ Mem w (fun k => k < w.heap.size) w' [] (fun w => Kd.C k49 w A0 xs.length xs ∧ Tr A (planted14 xs).1 w)) :=
    ⟨fun W hM => planted14_M HG0 hM (fun _ h => h) (by omega)⟩
  have hok := planted14_ok xs
  have HI := Aside0.mk hok.1
  have HL := Aside0.mk (show (planted14 xs).1.length ≤ 900000 by have := hok.2.2; omega)
  have HN := Aside0.mk (show (planted14 xs).2 ≤ 900000 by have := hok.2.1; omega)
  clear hok hlen hr0 HG0
  generalize planted14 xs = t at HPL HI HL HN
  obtain ⟨l, n⟩ := t
  simp only at HPL HI HL HN
  have hll : (l.length : Int) ≤ 900000 := by have := HL.out; omega
  go_enter Tryd.func5, Tryd.ntmps5
  go_wp2_with (first
      | go_skip
      | ((with_reducible refine' load_cell HM.out ?hw rfl ?hx ?hm ?ha ?hv ?_); (case hw => rfl); (case hx => rfl); (case ha => exact nag _ (by decide)); (case hm => first | exact m0 | exact m1 | exact m2 | exact m3); (case hv => rfl))
      | ((with_reducible refine' load_all (ty := 35) HM.out ?hw rfl ?hx ?hm agg35 ?hl ?_); (case hw => rfl); (case hx => rfl); (case hm => first | exact m0 | exact m1 | exact m2 | exact m3); (case hl => rfl))
      | ((with_reducible refine' store_all (ty := 35) HM.out ?hw rfl ?hx ?hm _ ?hy ?hs ?h1 ?hi ?_); (case hw => rfl); (case hx => rfl); (case hm => first | exact at0 | exact at1 | exact at2 | exact at3); (case hy => rfl); (case hs => exact size35); (case h1 => first | exact rowL_one _ | exact nodeL_one _ | simp [Value.oneCell']); (case hi => rfl); intro _ hM; simp only [List.set_cons_zero, List.set_cons_succ] at hM; clear HM; have HM := Aside0.mk hM; clear hM)
      | ((with_reducible refine' store_all (ty := 44) HM.out ?hw rfl ?hx ?hm _ ?hy ?hs ?h1 ?hi ?_); (case hw => rfl); (case hx => rfl); (case hm => first | exact at0 | exact at1 | exact at2 | exact at3); (case hy => rfl); (case hs => exact size44); (case h1 => first | exact rowL_one _ | exact nodeL_one _ | simp [Value.oneCell']); (case hi => rfl); intro _ hM; simp only [List.set_cons_zero, List.set_cons_succ] at hM; clear HM; have HM := Aside0.mk hM; clear hM)
      | ((with_reducible refine' store_all (ty := 23) HM.out ?hw rfl ?hx ?hm _ ?hy ?hs ?h1 ?hi ?_); (case hw => rfl); (case hx => rfl); (case hm => first | exact at0 | exact at1 | exact at2 | exact at3); (case hy => rfl); (case hs => exact size23); (case h1 => first | exact usL_one _ | exact rowL_one _ | exact nodeL_one _ | simp [Value.oneCell']); (case hi => rfl); intro _ hM; simp only [List.set_cons_zero, List.set_cons_succ] at hM; clear HM; have HM := Aside0.mk hM; clear hM)
      | ((with_reducible refine gate_dst (N := 3) rfl ?_); (with_reducible refine' box_zero (ty := 35) HM.out ?hw rfl zero35 _ ?hc ?_); (case hw => rfl); (case hc => rfl); intro g3 _ hM; clear HM; have HM := Aside0.mk hM; clear hM)
      | ((with_reducible refine gate_dst (N := 4) rfl ?_); (with_reducible refine' box_zero (ty := 23) HM.out ?hw rfl zero23 _ ?hc ?_); (case hw => rfl); (case hc => rfl); intro g4 _ hM; clear HM; have HM := Aside0.mk hM; clear hM)
      | (go_at_call 16; (refine (measures_M HM.out).mono ?_); rintro e _ ⟨rfl, hM⟩; clear HM; have HM := Aside0.mk hM; clear hM)
      | (go_at_call 19; (refine (HPL.out _ HM.out).mono ?_); rintro e _ ⟨A, c, rfl, hc, hM⟩; have HC := Aside0.mk hc; clear hc; clear HM; have HM := Aside0.mk hM; clear hM)
      | (go_at_call 20; (refine (of_M HM.out ?hS HI.out HC.out HL.out HN.out).mono ?_); (case hS => first | exact fun _ h => h | exact fun _ h => h.2 | exact fun _ h => h.1 | exact fun _ h => h.1.2 | exact fun _ h => h.1.1 | exact fun _ h => h.1.1.2 | exact fun _ h => h.1.1.1); rintro e _ ⟨rfl, hM⟩; clear HM; have HM := Aside0.mk hM; clear hM))
  go_loopw [5, 6, 7, 8, 26] (fun v5 v6 v7 v8 v26 wr => ∃ (i : Nat) (ids : List Int) (b d m : Int) (v : Value) (X : List Bx), v26 = .int .i64 i ∧ v5 = v ∧ v6 = .int .i64 b ∧ v7 = .int .i64 d ∧ v8 = .int .i64 m ∧ Aside0 (i ≤ l.length) ∧ Aside0 (ids.length ≤ i) ∧
    Aside0 (ofGo (l.drop i) ids b (ids.length : Int) d m = ofL l) ∧ Aside0 (OwnB 3 1 v ids.length (ids.map (Value.int .i64)) X) ∧ Aside0 (Mem w (fun k => k < w.heap.size) wr ((g4, usL (ofL l), 23) :: (g3, [.slice A l.length c, .int .i64 n], 35) :: X) (fun w => Kd.C k49 w A0 xs.length xs ∧ Tr A l w))) (fun _ _ _ _ v26 _ => l.length - (intOf v26).toNat)
  case atStart => exact ⟨0, [], 0, 0, 0, _, [], rfl, rfl, rfl, rfl, rfl, ⟨Nat.zero_le _⟩, ⟨Nat.le_refl _⟩, ⟨rfl⟩, ⟨OwnB.nil _ _⟩, HM⟩
  case round =>
    clear HM HPL
    obtain ⟨i, ids, b, d, m, v, X, rfl, rfl, rfl, rfl, rfl, HIX, HNI, HO, HOW, HM⟩ := hrel
    have hib : (i : Int) ≤ 900000 := by have := HIX.out; omega
    have HNS := Aside0.mk (show ids.length ≤ 900000 by have := HNI.out; omega)
    by_cases hlt : i < l.length
    · have hlz : (i : Int) < (l.length : Int) := by omega
      obtain ⟨ad, ea, hx0, hx1, hx2, hx3, hx4, hx5, hx6, hx7, hx8, hx9, hx10, hx11, hx12⟩ := at_T44 HM.out.now.2 (i : Int) (by omega) (by omega)
      have hrd : rd_T44 l (i : Int) = l[i] := by unfold rd_T44; rw [Int.toNat_natCast, List.getD_eq_getElem?_getD, List.getElem?_eq_getElem hlt]; rfl
      have ho := HO.out
      rw [List.drop_eq_getElem_cons hlt] at ho
      have HY := Aside0.mk (List.getElem_mem hlt)
      rw [Int.toNat_natCast, hrd] at hx0 hx1 hx2 hx3 hx4 hx5 hx6 hx7 hx8 hx9 hx11 hx12
      rw [Int.toNat_natCast] at hx10
      generalize l[i] = y at hx0 hx1 hx2 hx3 hx4 hx5 hx6 hx7 hx8 hx9 hx11 hx12 ho HY
      clear hrd HO
      have HO := Aside0.mk ho
      clear ho
      subst ea
      obtain ⟨Ao, co, rfl⟩ := HOW.out.slice
      have hnn : (ids.length : Int) ≤ 900000 := by have := HNS.out; omega
      go_upto_region 12 with (first
      | go_skip
      | ((with_reducible refine' load_cell HM.out ?hw rfl ?hx ?hm ?ha ?hv ?_); (case hw => rfl); (case hx => rfl); (case ha => exact nag _ (by decide)); (case hm => first | exact m0 | exact m1 | exact m2 | exact m3); (case hv => rfl))
      | ((with_reducible refine' load_all (ty := 35) HM.out ?hw rfl ?hx ?hm agg35 ?hl ?_); (case hw => rfl); (case hx => rfl); (case hm => first | exact m0 | exact m1 | exact m2 | exact m3); (case hl => rfl))
      | ((with_reducible refine' store_all (ty := 35) HM.out ?hw rfl ?hx ?hm _ ?hy ?hs ?h1 ?hi ?_); (case hw => rfl); (case hx => rfl); (case hm => first | exact at0 | exact at1 | exact at2 | exact at3); (case hy => rfl); (case hs => exact size35); (case h1 => first | exact rowL_one _ | exact nodeL_one _ | simp [Value.oneCell']); (case hi => rfl); intro _ hM; simp only [List.set_cons_zero, List.set_cons_succ] at hM; clear HM; have HM := Aside0.mk hM; clear hM)
      | ((with_reducible refine' store_all (ty := 44) HM.out ?hw rfl ?hx ?hm _ ?hy ?hs ?h1 ?hi ?_); (case hw => rfl); (case hx => rfl); (case hm => first | exact at0 | exact at1 | exact at2 | exact at3); (case hy => rfl); (case hs => exact size44); (case h1 => first | exact rowL_one _ | exact nodeL_one _ | simp [Value.oneCell']); (case hi => rfl); intro _ hM; simp only [List.set_cons_zero, List.set_cons_succ] at hM; clear HM; have HM := Aside0.mk hM; clear hM)
      | ((with_reducible refine' store_all (ty := 23) HM.out ?hw rfl ?hx ?hm _ ?hy ?hs ?h1 ?hi ?_); (case hw => rfl); (case hx => rfl); (case hm => first | exact at0 | exact at1 | exact at2 | exact at3); (case hy => rfl); (case hs => exact size23); (case h1 => first | exact usL_one _ | exact rowL_one _ | exact nodeL_one _ | simp [Value.oneCell']); (case hi => rfl); intro _ hM; simp only [List.set_cons_zero, List.set_cons_succ] at hM; clear HM; have HM := Aside0.mk hM; clear hM)
      | ((with_reducible refine gate_dst (N := 10) rfl ?_); (with_reducible refine' box_zero (ty := 44) HM.out ?hw rfl zero44 _ ?hc ?_); (case hw => rfl); (case hc => rfl); intro g10 _ hM; clear HM; have HM := Aside0.mk hM; clear hM))
      clear hx0 hx1 hx2 hx3 hx4 hx5 hx6 hx7 hx8 hx9 hx10 hx11 hx12
      go_wp2_with (first
      | go_skip
      | ((with_reducible refine' load_cell HM.out ?hw rfl ?hx ?hm ?ha ?hv ?_); (case hw => rfl); (case hx => rfl); (case ha => exact nag _ (by decide)); (case hm => first | exact m0 | exact m1 | exact m2 | exact m3); (case hv => rfl))
      | ((with_reducible refine' load_all (ty := 35) HM.out ?hw rfl ?hx ?hm agg35 ?hl ?_); (case hw => rfl); (case hx => rfl); (case hm => first | exact m0 | exact m1 | exact m2 | exact m3); (case hl => rfl))
      | ((with_reducible refine' store_all (ty := 35) HM.out ?hw rfl ?hx ?hm _ ?hy ?hs ?h1 ?hi ?_); (case hw => rfl); (case hx => rfl); (case hm => first | exact at0 | exact at1 | exact at2 | exact at3); (case hy => rfl); (case hs => exact size35); (case h1 => first | exact rowL_one _ | exact nodeL_one _ | simp [Value.oneCell']); (case hi => rfl); intro _ hM; simp only [List.set_cons_zero, List.set_cons_succ] at hM; clear HM; have HM := Aside0.mk hM; clear hM)
      | ((with_reducible refine' store_all (ty := 44) HM.out ?hw rfl ?hx ?hm _ ?hy ?hs ?h1 ?hi ?_); (case hw => rfl); (case hx => rfl); (case hm => first | exact at0 | exact at1 | exact at2 | exact at3); (case hy => rfl); (case hs => exact size44); (case h1 => first | exact rowL_one _ | exact nodeL_one _ | simp [Value.oneCell']); (case hi => rfl); intro _ hM; simp only [List.set_cons_zero, List.set_cons_succ] at hM; clear HM; have HM := Aside0.mk hM; clear hM)
      | ((with_reducible refine' store_all (ty := 23) HM.out ?hw rfl ?hx ?hm _ ?hy ?hs ?h1 ?hi ?_); (case hw => rfl); (case hx => rfl); (case hm => first | exact at0 | exact at1 | exact at2 | exact at3); (case hy => rfl); (case hs => exact size23); (case h1 => first | exact usL_one _ | exact rowL_one _ | exact nodeL_one _ | simp [Value.oneCell']); (case hi => rfl); intro _ hM; simp only [List.set_cons_zero, List.set_cons_succ] at hM; clear HM; have HM := Aside0.mk hM; clear hM)
      | ((with_reducible refine' box_zero (ty := 44) HM.out ?hw rfl zero44 _ ?hc ?_); (case hw => rfl); (case hc => rfl); intro _ _ hM; clear HM; have HM := Aside0.mk hM; clear hM)
      | (go_at_call 21; (refine (split_row HM.out HI.out HY.out).mono ?_); rintro e wq ⟨A5, c5, rfl, hM⟩; clear HM; have HM := Aside0.mk hM; clear hM))
      go_loop [11, 43] (fun v11 v43 => ∃ j : Nat, j ≤ ids.length ∧ v43 = .int .i64 j ∧ v11 = .bool (decide (y.f1 ∈ ids.take j))) (fun _ v43 => ids.length - (intOf v43).toNat)
      case atStart => exact ⟨0, Nat.zero_le _, rfl, by simp⟩
      case round =>
        obtain ⟨j, hj, rfl, rfl⟩ := hrel
        by_cases hjl : j < ids.length
        · have hjz : (j : Int) < (ids.length : Int) := by omega
          have hcell : ∃ gr, Ao = some ⟨gr, 0, none⟩ ∧ World.cell? wq ⟨gr, j, none⟩ = some (.int .i64 ids[j]) := by
            rcases HOW.out with ⟨_, hn, _⟩ | ⟨gr, cap, sp, e, hX, _⟩
            · omega
            · injection e with e1 e2 e3
              refine ⟨gr, e1, ?_⟩
              have hb := HM.out.box (gr, ids.map (Value.int .i64) ++ sp, 3) (by rw [hX]; simp)
              refine (blk_cell hb.1 j).trans ?_
              simp [List.getElem?_append_left, hjl]
          obtain ⟨gr, rfl, hcell⟩ := hcell
          have HK := Aside0.mk (take_mem_dec ids j hjl y.f1)
          generalize ids[j] = z at hcell HK
          by_cases hk : y.f1 ∈ ids.take j
          · have d1 : decide (y.f1 ∈ ids.take j) = true := decide_eq_true hk
            have HK2 : Aside0 (decide (y.f1 ∈ ids.take (j + 1)) = true) := ⟨by rw [HK.out, d1]; rfl⟩
            rw [d1]
            clear hk d1
            go_wp2_with (first
      | go_skip
      | ((with_reducible refine' load_cell HM.out ?hw rfl ?hx ?hm ?ha ?hv ?_); (case hw => rfl); (case hx => rfl); (case ha => exact nag _ (by decide)); (case hm => first | exact m0 | exact m1 | exact m2 | exact m3); (case hv => rfl)))
            go_round
            case rel => exact ⟨j + 1, by omega, by go_num, by rw [HK2.out]⟩
            case measure => simp [intOf]; omega
          · have d1 : decide (y.f1 ∈ ids.take j) = false := decide_eq_false hk
            have HK2 : Aside0 (decide (y.f1 ∈ ids.take (j + 1)) = (z == y.f1)) := ⟨by rw [HK.out, d1]; rfl⟩
            rw [d1]
            clear hk d1
            go_wp2_with (first
      | go_skip
      | ((with_reducible refine' load_cell HM.out ?hw rfl ?hx ?hm ?ha ?hv ?_); (case hw => rfl); (case hx => rfl); (case ha => exact nag _ (by decide)); (case hm => first | exact m0 | exact m1 | exact m2 | exact m3); (case hv => rfl)))
            all_goals
              go_round
              case rel => exact ⟨j + 1, by omega, by go_num, by rw [HK2.out] <;> simp_all⟩
              case measure => simp [intOf]; omega
        · obtain rfl : j = ids.length := by omega
          have hjz : ¬ ((ids.length : Int) < (ids.length : Int)) := by omega
          rw [List.take_length]
          by_cases hk : y.f1 ∈ ids
          · have HO2 : Aside0 (ofGo (l.drop (i + 1)) ids b (ids.length : Int) (maxI d ((pp y).length : Int)) (maxI m (y.f0.size : Int)) = ofL l) := ⟨by
              have := HO.out; rw [ofGo, if_pos hk] at this; rw [← this]; exact ofGo_in _ _ _ _ _ _ _ hk⟩
            have HOW2 := Aside0.mk HOW.out
            rw [decide_eq_true hk]
            clear hk
            go_wp2_with (first
      | go_skip
      | ((with_reducible refine' load_cell HM.out ?hw rfl ?hx ?hm ?ha ?hv ?_); (case hw => rfl); (case hx => rfl); (case ha => exact nag _ (by decide)); (case hm => first | exact m0 | exact m1 | exact m2 | exact m3); (case hv => rfl)))
            go_roundw
            case rel => exact ⟨i + 1, ids, b, _, _, _, X, by go_num, rfl, rfl, rfl, rfl, ⟨by omega⟩, ⟨by have := HNI.out; omega⟩, HO2, HOW2, ⟨HM.out.drop⟩⟩
            case measure => simp [intOf]; omega
          · have hkk := HO.out
            rw [ofGo, if_neg hk] at hkk
            rw [decide_eq_false hk]
            clear hk
            have hcg := fun b' : Int => ofGo_app (l.drop (i + 1)) ids y.f1 b' (maxI d ((pp y).length : Int)) (maxI m (y.f0.size : Int)) HNS.out
            by_cases hf : y.f2.f0 = 1
            · have HO2 : Aside0 (ofGo (l.drop (i + 1)) (ids ++ [y.f1]) (wrap64 (b + y.f2.f8.f1)) ((ids ++ [y.f1]).length : Int) (maxI d ((pp y).length : Int)) (maxI m (y.f0.size : Int)) = ofL l) := ⟨by rw [if_pos hf] at hkk; rw [← hcg]; exact hkk⟩
              have b3 : (y.f2.f0 == 1) = true := beq_iff_eq.2 hf
              clear hf hkk hcg
              go_wp2_with (first
      | go_skip
      | ((with_reducible refine' load_cell HM.out ?hw rfl ?hx ?hm ?ha ?hv ?_); (case hw => rfl); (case hx => rfl); (case ha => exact nag _ (by decide)); (case hm => first | exact m0 | exact m1 | exact m2 | exact m3); (case hv => rfl))
      | (at_builtin; refine append_tail (B := [_, _, _]) (news := [.int .i64 y.f1]) (HM.out.call (below_alloc (Below.refl _ _) _)) rfl rfl rfl Tryd.underlying38 hi0 hz0 hz1 hz2 rfl (by decide) HOW.out rfl _ rfl rfl ?hnews ?hone (by decide) ?hc1 ?hc2 ?_; (case hnews => intro j u hu; cases j with | zero => (injection hu with hu; subst hu; exact (blk_cell (blk_new _ _) 0).trans rfl) | succ j => simp at hu); (case hone => intro u hu; rw [List.mem_singleton.1 hu]; rfl); (case hc1 => have := HNS.out; unfold maxLen; omega); (case hc2 => have := HNS.out; omega); intro v2 X2 _ hO hM; clear HOW; have HOW := Aside0.mk hO; simp only [List.cons_append, List.nil_append] at hM; clear HM; have HM := Aside0.mk hM; clear hM; obtain ⟨Ao2, co2, rfl⟩ := hO.slice; clear hO))
              have HOW2 : Aside0 (OwnB 3 1 (.slice Ao2 (ids.length + 1) co2) (ids ++ [y.f1]).length ((ids ++ [y.f1]).map (Value.int .i64)) X2) := ⟨by simpa using HOW.out⟩
              go_roundw
              case rel => exact ⟨i + 1, ids ++ [y.f1], _, _, _, _, X2, by go_num, rfl, rfl, rfl, rfl, ⟨by omega⟩, ⟨by have := HNI.out; simp; omega⟩, HO2, HOW2, ⟨HM.out.drop⟩⟩
              case measure => simp [intOf]; omega
            · have HO2 : Aside0 (ofGo (l.drop (i + 1)) (ids ++ [y.f1]) b ((ids ++ [y.f1]).length : Int) (maxI d ((pp y).length : Int)) (maxI m (y.f0.size : Int)) = ofL l) := ⟨by rw [if_neg hf] at hkk; rw [← hcg]; exact hkk⟩
              have b3 : (y.f2.f0 == 1) = false := beq_eq_false_iff_ne.2 hf
              clear hf hkk hcg
              go_wp2_with (first
      | go_skip
      | ((with_reducible refine' load_cell HM.out ?hw rfl ?hx ?hm ?ha ?hv ?_); (case hw => rfl); (case hx => rfl); (case ha => exact nag _ (by decide)); (case hm => first | exact m0 | exact m1 | exact m2 | exact m3); (case hv => rfl))
      | (at_builtin; refine append_tail (B := [_, _, _]) (news := [.int .i64 y.f1]) (HM.out.call (below_alloc (Below.refl _ _) _)) rfl rfl rfl Tryd.underlying38 hi0 hz0 hz1 hz2 rfl (by decide) HOW.out rfl _ rfl rfl ?hnews ?hone (by decide) ?hc1 ?hc2 ?_; (case hnews => intro j u hu; cases j with | zero => (injection hu with hu; subst hu; exact (blk_cell (blk_new _ _) 0).trans rfl) | succ j => simp at hu); (case hone => intro u hu; rw [List.mem_singleton.1 hu]; rfl); (case hc1 => have := HNS.out; unfold maxLen; omega); (case hc2 => have := HNS.out; omega); intro v2 X2 _ hO hM; clear HOW; have HOW := Aside0.mk hO; simp only [List.cons_append, List.nil_append] at hM; clear HM; have HM := Aside0.mk hM; clear hM; obtain ⟨Ao2, co2, rfl⟩ := hO.slice; clear hO))
              have HOW2 : Aside0 (OwnB 3 1 (.slice Ao2 (ids.length + 1) co2) (ids ++ [y.f1]).length ((ids ++ [y.f1]).map (Value.int .i64)) X2) := ⟨by simpa using HOW.out⟩
              go_roundw
              case rel => exact ⟨i + 1, ids ++ [y.f1], _, _, _, _, X2, by go_num, rfl, rfl, rfl, rfl, ⟨by omega⟩, ⟨by have := HNI.out; simp; omega⟩, HO2, HOW2, ⟨HM.out.drop⟩⟩
              case measure => simp [intOf]; omega
    · have hil : i = l.length := by have := HIX.out; omega
      have hlz : ¬ ((i : Int) < (l.length : Int)) := by omega
      have HE : Aside0 (ofL l = (b, (ids.length : Int), d, m)) := ⟨by have := HO.out; rw [hil, List.drop_length, ofGo] at this; exact this.symm⟩
      clear HO hil
      rw [HE.out] at HM
      obtain ⟨Ao, co, rfl⟩ := HOW.out.slice
      simp only [usL] at HM
      go_wp2_with (first
      | go_skip
      | ((with_reducible refine' load_all (ty := 23) HM.out ?hw rfl ?hx ?hm agg23 ?hl ?_); (case hw => rfl); (case hx => rfl); (case hm => first | exact m0 | exact m1 | exact m2 | exact m3); (case hl => rfl)))
      go_ret
      exact ⟨by simp, HM.out.below⟩
end Go.Proofs.YtolpamojbiipaaaDoor.XA
