/- MergeKinds's walk over Mem. Printed by wip/tools. -/
import Derived.Test.YtolpamojbiipaaaDoorEMemMerge
namespace Go.Proofs.YtolpamojbiipaaaDoor.XA
open Go.RowKit Go.Proofs.YtolpamojbiipaaaDoorW.PrintWords Go.Proofs.YtolpamojbiipaaaDoorW.PrintLast Go.Proofs.YtolpamojbiipaaaDoorW.PrintMore Go.Proofs.YtolpamojbiipaaaDoor.Mem Go.Proofs.YtolpamojbiipaaaDoor.Pure
set_option linter.unusedVariables false
set_option linter.unusedSimpArgs false

set_option maxHeartbeats 8000000 in
set_option maxRecDepth 100000 in
theorem MergeKinds_walk (w : World) (HG0 : GG w) (A0 : Option Addr) (c0 : Nat) (xs : List S104) (hr0 : Kd.C k104 w A0 xs.length xs) (hm0 : xs.length ≤ 9223372036854775807) (hw0 : ∀ x ∈ xs, ((Lit.int .i64 x.f0).wf = true ∧ (Lit.int .i64 x.f1).wf = true ∧ x.f2.size ≤ 9223372036854775807 ∧ x.f3.size ≤ 9223372036854775807)) (A1 : Option Addr) (c1 : Nat) (ys : List S104) (hr1 : Kd.C k104 w A1 ys.length ys) (hm1 : ys.length ≤ 9223372036854775807) (hw1 : ∀ x ∈ ys, ((Lit.int .i64 x.f0).wf = true ∧ (Lit.int .i64 x.f1).wf = true ∧ x.f2.size ≤ 9223372036854775807 ∧ x.f3.size ≤ 9223372036854775807)) :
    Calls Tryd.prog 10 #[.slice A0 xs.length c0, .slice A1 ys.length c1] w fun e w' => e = .returned (.bool true) ∧ Below w.heap.size w w' := by
  have HM : Aside0 (Mem w (fun k => k < w.heap.size) w [] (Two A0 A1 xs ys)) := ⟨two_M hr0 hr1⟩
  clear hw0 hw1 hr0 hr1
  by_cases hl0 : 30 < xs.length
  · have b0 : decide ((30 : Int) < (xs.length : Int)) = true := decide_eq_true (by omega)
    clear hl0
    go_enter Tryd.func10, Tryd.ntmps10
    go_wp2_with (first
      | go_skip
      | (go_at_call 27; (refine (lays_M HM.out).mono ?_); rintro e _ ⟨rfl, hM⟩; clear HM; have HM := Aside0.mk hM; clear hM))
    go_ret
    exact ⟨rfl, HM.out.below⟩
  have b0 : decide ((30 : Int) < (xs.length : Int)) = false := decide_eq_false (by omega)
  by_cases hl1 : 30 < ys.length
  · have b1 : decide ((30 : Int) < (ys.length : Int)) = true := decide_eq_true (by omega)
    clear hl1
    go_enter Tryd.func10, Tryd.ntmps10
    go_wp2_with (first
      | go_skip
      | (go_at_call 27; (refine (lays_M HM.out).mono ?_); rintro e _ ⟨rfl, hM⟩; clear HM; have HM := Aside0.mk hM; clear hM))
    go_ret
    exact ⟨rfl, HM.out.below⟩
  have b1 : decide ((30 : Int) < (ys.length : Int)) = false := decide_eq_false (by omega)
  obtain ⟨a, na, ws, nw, ea, hIa, hLa, hNa, hLw, hNw0, hNw, hPa⟩ := plants (P := fun k => k < w.heap.size) HG0 xs (by omega) 0 (by omega)
  obtain ⟨b, nb, ws2, nw2, eb, hIb, hLb, hNb, hLw2, hNw20, hNw2, hPb⟩ := plants (P := fun k => k < w.heap.size) HG0 ys (by omega) 5000 (by omega)
  have HIA := Aside0.mk hIa
  have HIB := Aside0.mk hIb
  have HLA := Aside0.mk hLa
  have HLB := Aside0.mk hLb
  have HNA := Aside0.mk hNa
  have HNB := Aside0.mk hNb
  have HPA := Aside0.mk hPa
  have HPB := Aside0.mk hPb
  clear hl0 hl1 HG0 hPa hPb hIa hIb
  clear ea eb
  have hlbz : (b.length : Int) ≤ 4530 := by have := HLB.out; omega
  go_enter Tryd.func10, Tryd.ntmps10
  go_upto_region 6 with (first
      | go_skip
      | ((with_reducible refine' load_cell HM.out ?hw rfl ?hx ?hm ?ha ?hv ?_); (case hw => rfl); (case hx => rfl); (case ha => exact nag _ (by decide)); (case hm => first | exact m0 | exact m1 | exact m2 | exact m3 | exact m4 | exact m5 | exact m6); (case hv => rfl))
      | ((with_reducible refine' load_all (ty := 35) HM.out ?hw rfl ?hx ?hm agg35 ?hl ?_); (case hw => rfl); (case hx => rfl); (case hm => first | exact m0 | exact m1 | exact m2 | exact m3 | exact m4 | exact m5 | exact m6); (case hl => rfl))
      | ((with_reducible refine' load_all (ty := 44) HM.out ?hw rfl ?hx ?hm agg44 ?hl ?_); (case hw => rfl); (case hx => rfl); (case hm => first | exact m0 | exact m1 | exact m2 | exact m3 | exact m4 | exact m5 | exact m6); (case hl => rfl))
      | ((with_reducible refine' load_all (ty := 64) HM.out ?hw rfl ?hx ?hm agg64 ?hl ?_); (case hw => rfl); (case hx => rfl); (case hm => first | exact m0 | exact m1 | exact m2 | exact m3 | exact m4 | exact m5 | exact m6); (case hl => rfl))
      | ((with_reducible refine' store_all (ty := 35) HM.out ?hw rfl ?hx ?hm _ ?hy ?hs ?h1 ?hi ?_); (case hw => rfl); (case hx => rfl); (case hm => first | exact at0 | exact at1 | exact at2 | exact at3 | exact at4 | exact at5 | exact at6); (case hy => rfl); (case hs => exact size35); (case h1 => first | exact rowL_one _ | exact nodeL_one _ | simp [Value.oneCell']); (case hi => rfl); intro _ hM; simp only [List.set_cons_zero, List.set_cons_succ] at hM; clear HM; have HM := Aside0.mk hM; clear hM)
      | ((with_reducible refine' store_all (ty := 64) HM.out ?hw rfl ?hx ?hm _ ?hy ?hs ?h1 ?hi ?_); (case hw => rfl); (case hx => rfl); (case hm => first | exact at0 | exact at1 | exact at2 | exact at3 | exact at4 | exact at5 | exact at6); (case hy => rfl); (case hs => exact size64); (case h1 => first | exact rowL_one _ | exact nodeL_one _ | simp [Value.oneCell']); (case hi => rfl); intro _ hM; simp only [List.set_cons_zero, List.set_cons_succ] at hM; clear HM; have HM := Aside0.mk hM; clear hM)
      | ((with_reducible refine' store_all (ty := 44) HM.out ?hw rfl ?hx ?hm _ ?hy ?hs ?h1 ?hi ?_); (case hw => rfl); (case hx => rfl); (case hm => first | exact at0 | exact at1 | exact at2 | exact at3 | exact at4 | exact at5 | exact at6); (case hy => rfl); (case hs => exact size44); (case h1 => first | exact rowL_one _ | exact nodeL_one _ | simp [Value.oneCell']); (case hi => rfl); intro _ hM; simp only [List.set_cons_zero, List.set_cons_succ] at hM; clear HM; have HM := Aside0.mk hM; clear hM)
      | ((with_reducible refine gate_dst (N := 5) rfl ?_); (with_reducible refine' box_zero (ty := 35) HM.out ?hw rfl zero35 _ ?hc ?_); (case hw => rfl); (case hc => rfl); intro g5 _ hM; clear HM; have HM := Aside0.mk hM; clear hM)
      | ((with_reducible refine gate_dst (N := 6) rfl ?_); (with_reducible refine' box_zero (ty := 64) HM.out ?hw rfl zero64 _ ?hc ?_); (case hw => rfl); (case hc => rfl); intro g6 _ hM; clear HM; have HM := Aside0.mk hM; clear hM)
      | ((with_reducible refine gate_dst (N := 7) rfl ?_); (with_reducible refine' box_zero (ty := 35) HM.out ?hw rfl zero35 _ ?hc ?_); (case hw => rfl); (case hc => rfl); intro g7 _ hM; clear HM; have HM := Aside0.mk hM; clear hM)
      | ((with_reducible refine gate_dst (N := 8) rfl ?_); (with_reducible refine' box_zero (ty := 64) HM.out ?hw rfl zero64 _ ?hc ?_); (case hw => rfl); (case hc => rfl); intro g8 _ hM; clear HM; have HM := Aside0.mk hM; clear hM)
      | ((with_reducible refine' box_zero (ty := 44) HM.out ?hw rfl zero44 _ ?hc ?_); (case hw => rfl); (case hc => rfl); intro _ _ hM; clear HM; have HM := Aside0.mk hM; clear hM)
      | (go_at_call 27; (refine (lays_M HM.out).mono ?_); rintro e _ ⟨rfl, hM⟩; clear HM; have HM := Aside0.mk hM; clear hM)
      | (go_at_call 28; (refine (HPA.out.tree HM.out ?hS).mono ?_); (case hS => exact fun _ h => h.1); rintro e _ ⟨Aa, ca, Awa, cwa, rfl, hc, hM⟩; have HCa := Aside0.mk hc; clear hc; clear HM; have HM := Aside0.mk hM; clear hM))
  go_wp2_with (first
      | go_skip
      | ((with_reducible refine' load_cell HM.out ?hw rfl ?hx ?hm ?ha ?hv ?_); (case hw => rfl); (case hx => rfl); (case ha => exact nag _ (by decide)); (case hm => first | exact m0 | exact m1 | exact m2 | exact m3 | exact m4 | exact m5 | exact m6); (case hv => rfl))
      | ((with_reducible refine' load_all (ty := 35) HM.out ?hw rfl ?hx ?hm agg35 ?hl ?_); (case hw => rfl); (case hx => rfl); (case hm => first | exact m0 | exact m1 | exact m2 | exact m3 | exact m4 | exact m5 | exact m6); (case hl => rfl))
      | ((with_reducible refine' load_all (ty := 44) HM.out ?hw rfl ?hx ?hm agg44 ?hl ?_); (case hw => rfl); (case hx => rfl); (case hm => first | exact m0 | exact m1 | exact m2 | exact m3 | exact m4 | exact m5 | exact m6); (case hl => rfl))
      | ((with_reducible refine' load_all (ty := 64) HM.out ?hw rfl ?hx ?hm agg64 ?hl ?_); (case hw => rfl); (case hx => rfl); (case hm => first | exact m0 | exact m1 | exact m2 | exact m3 | exact m4 | exact m5 | exact m6); (case hl => rfl))
      | ((with_reducible refine' store_all (ty := 35) HM.out ?hw rfl ?hx ?hm _ ?hy ?hs ?h1 ?hi ?_); (case hw => rfl); (case hx => rfl); (case hm => first | exact at0 | exact at1 | exact at2 | exact at3 | exact at4 | exact at5 | exact at6); (case hy => rfl); (case hs => exact size35); (case h1 => first | exact rowL_one _ | exact nodeL_one _ | simp [Value.oneCell']); (case hi => rfl); intro _ hM; simp only [List.set_cons_zero, List.set_cons_succ] at hM; clear HM; have HM := Aside0.mk hM; clear hM)
      | ((with_reducible refine' store_all (ty := 64) HM.out ?hw rfl ?hx ?hm _ ?hy ?hs ?h1 ?hi ?_); (case hw => rfl); (case hx => rfl); (case hm => first | exact at0 | exact at1 | exact at2 | exact at3 | exact at4 | exact at5 | exact at6); (case hy => rfl); (case hs => exact size64); (case h1 => first | exact rowL_one _ | exact nodeL_one _ | simp [Value.oneCell']); (case hi => rfl); intro _ hM; simp only [List.set_cons_zero, List.set_cons_succ] at hM; clear HM; have HM := Aside0.mk hM; clear hM)
      | ((with_reducible refine' store_all (ty := 44) HM.out ?hw rfl ?hx ?hm _ ?hy ?hs ?h1 ?hi ?_); (case hw => rfl); (case hx => rfl); (case hm => first | exact at0 | exact at1 | exact at2 | exact at3 | exact at4 | exact at5 | exact at6); (case hy => rfl); (case hs => exact size44); (case h1 => first | exact rowL_one _ | exact nodeL_one _ | simp [Value.oneCell']); (case hi => rfl); intro _ hM; simp only [List.set_cons_zero, List.set_cons_succ] at hM; clear HM; have HM := Aside0.mk hM; clear hM)
      | ((with_reducible refine gate_dst (N := 5) rfl ?_); (with_reducible refine' box_zero (ty := 35) HM.out ?hw rfl zero35 _ ?hc ?_); (case hw => rfl); (case hc => rfl); intro g5 _ hM; clear HM; have HM := Aside0.mk hM; clear hM)
      | ((with_reducible refine gate_dst (N := 6) rfl ?_); (with_reducible refine' box_zero (ty := 64) HM.out ?hw rfl zero64 _ ?hc ?_); (case hw => rfl); (case hc => rfl); intro g6 _ hM; clear HM; have HM := Aside0.mk hM; clear hM)
      | ((with_reducible refine gate_dst (N := 7) rfl ?_); (with_reducible refine' box_zero (ty := 35) HM.out ?hw rfl zero35 _ ?hc ?_); (case hw => rfl); (case hc => rfl); intro g7 _ hM; clear HM; have HM := Aside0.mk hM; clear hM)
      | ((with_reducible refine gate_dst (N := 8) rfl ?_); (with_reducible refine' box_zero (ty := 64) HM.out ?hw rfl zero64 _ ?hc ?_); (case hw => rfl); (case hc => rfl); intro g8 _ hM; clear HM; have HM := Aside0.mk hM; clear hM)
      | ((with_reducible refine' box_zero (ty := 44) HM.out ?hw rfl zero44 _ ?hc ?_); (case hw => rfl); (case hc => rfl); intro _ _ hM; clear HM; have HM := Aside0.mk hM; clear hM)
      | (go_at_call 28; (refine (HPB.out.tree HM.out ?hS).mono ?_); (case hS => exact fun _ h => h.1.2); rintro e _ ⟨Ab, cb, Awb, cwb, rfl, hc, hM⟩; have HCb := Aside0.mk hc; clear hc; clear HM; have HM := Aside0.mk hM; clear hM))
  go_loopw [9, 43] (fun v9 v43 wr => ∃ (i : Nat) (cl : Bool), v43 = .int .i64 i ∧ v9 = .bool cl ∧ Aside0 (i ≤ b.length) ∧ Aside0 (cl = clB a (b.take i)) ∧
    Aside0 (Mem w (fun k => k < w.heap.size) wr ((g8, [.slice Awb ws2.length cwb, .int .i64 nw2], 64) :: (g7, [.slice Ab b.length cb, .int .i64 nb], 35) :: (g6, [.slice Awa ws.length cwa, .int .i64 nw], 64) :: (g5, [.slice Aa a.length ca, .int .i64 na], 35) :: []) (fun w => (Two A0 A1 xs ys w ∧ Tr Aa a w) ∧ Tr Ab b w))) (fun _ v43 _ => b.length - (intOf v43).toNat)
  case atStart => exact ⟨0, false, rfl, rfl, ⟨Nat.zero_le _⟩, ⟨rfl⟩, HM⟩
  case round =>
    clear HM
    obtain ⟨i, cl, rfl, rfl, HIX, HCL, HM⟩ := hrel
    have hib : (i : Int) ≤ 4530 := by have := HIX.out; omega
    by_cases hlt : i < b.length
    · have hsu : clB a (b.take (i + 1)) = (cl || badb (lookR a (pp b[i])) b[i]) := by
        rw [HCL.out]; unfold clB; rw [List.take_succ_eq_append_getElem hlt, List.any_append]; simp
      have hlz : (i : Int) < (b.length : Int) := by omega
      obtain ⟨ad, ea, hx0, hx1, hx2, hx3, hx4, hx5, hx6, hx7, hx8, hx9, hx10, hx11, hx12⟩ := at_T44 (HM.out.now.2) (i : Int) (by omega) (by omega)
      have hrd : rd_T44 b (i : Int) = b[i] := by unfold rd_T44; rw [Int.toNat_natCast, List.getD_eq_getElem?_getD, List.getElem?_eq_getElem hlt]; rfl
      rw [Int.toNat_natCast, hrd] at hx0 hx1 hx2 hx3 hx4 hx5 hx6 hx7 hx8 hx9 hx11 hx12
      rw [Int.toNat_natCast] at hx10
      have HY := Aside0.mk (HIB.out.clean _ (List.getElem_mem hlt))
      generalize b[i] = y at hx0 hx1 hx2 hx3 hx4 hx5 hx6 hx7 hx8 hx9 hx11 hx12 hsu HY
      clear hrd
      subst ea
      obtain ⟨x, hx⟩ : ∃ x, lookR a (pp y) = x := ⟨_, rfl⟩
      rw [hx] at hsu
      have HX := Aside0.mk hx
      have HSU := Aside0.mk hsu
      clear hx hsu HCL
      cases cl
      · cases x with
        | none =>
          go_upto_region 11 with (first
                | go_skip
                | ((with_reducible refine' load_cell HM.out ?hw rfl ?hx ?hm ?ha ?hv ?_); (case hw => rfl); (case hx => rfl); (case ha => exact nag _ (by decide)); (case hm => first | exact m0 | exact m1 | exact m2 | exact m3 | exact m4 | exact m5 | exact m6); (case hv => rfl))
                | ((with_reducible refine' load_all (ty := 35) HM.out ?hw rfl ?hx ?hm agg35 ?hl ?_); (case hw => rfl); (case hx => rfl); (case hm => first | exact m0 | exact m1 | exact m2 | exact m3 | exact m4 | exact m5 | exact m6); (case hl => rfl))
                | ((with_reducible refine' load_all (ty := 44) HM.out ?hw rfl ?hx ?hm agg44 ?hl ?_); (case hw => rfl); (case hx => rfl); (case hm => first | exact m0 | exact m1 | exact m2 | exact m3 | exact m4 | exact m5 | exact m6); (case hl => rfl))
                | ((with_reducible refine' load_all (ty := 64) HM.out ?hw rfl ?hx ?hm agg64 ?hl ?_); (case hw => rfl); (case hx => rfl); (case hm => first | exact m0 | exact m1 | exact m2 | exact m3 | exact m4 | exact m5 | exact m6); (case hl => rfl))
                | ((with_reducible refine' store_all (ty := 35) HM.out ?hw rfl ?hx ?hm _ ?hy ?hs ?h1 ?hi ?_); (case hw => rfl); (case hx => rfl); (case hm => first | exact at0 | exact at1 | exact at2 | exact at3 | exact at4 | exact at5 | exact at6); (case hy => rfl); (case hs => exact size35); (case h1 => first | exact rowL_one _ | exact nodeL_one _ | simp [Value.oneCell']); (case hi => rfl); intro _ hM; simp only [List.set_cons_zero, List.set_cons_succ] at hM; clear HM; have HM := Aside0.mk hM; clear hM)
                | ((with_reducible refine' store_all (ty := 64) HM.out ?hw rfl ?hx ?hm _ ?hy ?hs ?h1 ?hi ?_); (case hw => rfl); (case hx => rfl); (case hm => first | exact at0 | exact at1 | exact at2 | exact at3 | exact at4 | exact at5 | exact at6); (case hy => rfl); (case hs => exact size64); (case h1 => first | exact rowL_one _ | exact nodeL_one _ | simp [Value.oneCell']); (case hi => rfl); intro _ hM; simp only [List.set_cons_zero, List.set_cons_succ] at hM; clear HM; have HM := Aside0.mk hM; clear hM)
                | ((with_reducible refine' store_all (ty := 44) HM.out ?hw rfl ?hx ?hm _ ?hy ?hs ?h1 ?hi ?_); (case hw => rfl); (case hx => rfl); (case hm => first | exact at0 | exact at1 | exact at2 | exact at3 | exact at4 | exact at5 | exact at6); (case hy => rfl); (case hs => exact size44); (case h1 => first | exact rowL_one _ | exact nodeL_one _ | simp [Value.oneCell']); (case hi => rfl); intro _ hM; simp only [List.set_cons_zero, List.set_cons_succ] at hM; clear HM; have HM := Aside0.mk hM; clear hM)
                | ((with_reducible refine' box_zero (ty := 35) HM.out ?hw rfl zero35 _ ?hc ?_); (case hw => rfl); (case hc => rfl); intro _ _ hM; clear HM; have HM := Aside0.mk hM; clear hM)
                | ((with_reducible refine' box_zero (ty := 64) HM.out ?hw rfl zero64 _ ?hc ?_); (case hw => rfl); (case hc => rfl); intro _ _ hM; clear HM; have HM := Aside0.mk hM; clear hM)
                | ((with_reducible refine' box_zero (ty := 44) HM.out ?hw rfl zero44 _ ?hc ?_); (case hw => rfl); (case hc => rfl); intro _ _ hM; clear HM; have HM := Aside0.mk hM; clear hM))
          clear hx0 hx1 hx2 hx3 hx4 hx5 hx6 hx7 hx8 hx9 hx10 hx11 hx12
          have hrow : ∀ (q : S44), [Value.string q.f0, .int .i64 q.f1, .int .i64 q.f2.f0, .int .i64 q.f2.f1, .int .i64 q.f2.f2, .int .i64 q.f2.f3, .int .i64 q.f2.f4, .string q.f2.f5, .string q.f2.f6, .string q.f2.f7, .slice none 0 0, .int .i64 q.f2.f8.f1, .bool q.f2.f9] = rowL q := fun _ => rfl
          rw [hrow] at HM
          clear hrow
          go_wp2_with (first
                | go_skip
                | ((with_reducible refine' load_cell HM.out ?hw rfl ?hx ?hm ?ha ?hv ?_); (case hw => rfl); (case hx => rfl); (case ha => exact nag _ (by decide)); (case hm => first | exact m0 | exact m1 | exact m2 | exact m3 | exact m4 | exact m5 | exact m6); (case hv => rfl))
                | ((with_reducible refine' load_all (ty := 35) HM.out ?hw rfl ?hx ?hm agg35 ?hl ?_); (case hw => rfl); (case hx => rfl); (case hm => first | exact m0 | exact m1 | exact m2 | exact m3 | exact m4 | exact m5 | exact m6); (case hl => rfl))
                | ((with_reducible refine' load_all (ty := 44) HM.out ?hw rfl ?hx ?hm agg44 ?hl ?_); (case hw => rfl); (case hx => rfl); (case hm => first | exact m0 | exact m1 | exact m2 | exact m3 | exact m4 | exact m5 | exact m6); (case hl => rfl))
                | ((with_reducible refine' load_all (ty := 64) HM.out ?hw rfl ?hx ?hm agg64 ?hl ?_); (case hw => rfl); (case hx => rfl); (case hm => first | exact m0 | exact m1 | exact m2 | exact m3 | exact m4 | exact m5 | exact m6); (case hl => rfl))
                | ((with_reducible refine' store_all (ty := 35) HM.out ?hw rfl ?hx ?hm _ ?hy ?hs ?h1 ?hi ?_); (case hw => rfl); (case hx => rfl); (case hm => first | exact at0 | exact at1 | exact at2 | exact at3 | exact at4 | exact at5 | exact at6); (case hy => rfl); (case hs => exact size35); (case h1 => first | exact rowL_one _ | exact nodeL_one _ | simp [Value.oneCell']); (case hi => rfl); intro _ hM; simp only [List.set_cons_zero, List.set_cons_succ] at hM; clear HM; have HM := Aside0.mk hM; clear hM)
                | ((with_reducible refine' store_all (ty := 64) HM.out ?hw rfl ?hx ?hm _ ?hy ?hs ?h1 ?hi ?_); (case hw => rfl); (case hx => rfl); (case hm => first | exact at0 | exact at1 | exact at2 | exact at3 | exact at4 | exact at5 | exact at6); (case hy => rfl); (case hs => exact size64); (case h1 => first | exact rowL_one _ | exact nodeL_one _ | simp [Value.oneCell']); (case hi => rfl); intro _ hM; simp only [List.set_cons_zero, List.set_cons_succ] at hM; clear HM; have HM := Aside0.mk hM; clear hM)
                | ((with_reducible refine' store_all (ty := 44) HM.out ?hw rfl ?hx ?hm _ ?hy ?hs ?h1 ?hi ?_); (case hw => rfl); (case hx => rfl); (case hm => first | exact at0 | exact at1 | exact at2 | exact at3 | exact at4 | exact at5 | exact at6); (case hy => rfl); (case hs => exact size44); (case h1 => first | exact rowL_one _ | exact nodeL_one _ | simp [Value.oneCell']); (case hi => rfl); intro _ hM; simp only [List.set_cons_zero, List.set_cons_succ] at hM; clear HM; have HM := Aside0.mk hM; clear hM)
                | ((with_reducible refine' box_zero (ty := 35) HM.out ?hw rfl zero35 _ ?hc ?_); (case hw => rfl); (case hc => rfl); intro _ _ hM; clear HM; have HM := Aside0.mk hM; clear hM)
                | ((with_reducible refine' box_zero (ty := 64) HM.out ?hw rfl zero64 _ ?hc ?_); (case hw => rfl); (case hc => rfl); intro _ _ hM; clear HM; have HM := Aside0.mk hM; clear hM)
                | ((with_reducible refine' box_zero (ty := 44) HM.out ?hw rfl zero44 _ ?hc ?_); (case hw => rfl); (case hc => rfl); intro _ _ hM; clear HM; have HM := Aside0.mk hM; clear hM)
                | (go_at_call 23; (refine (get_rowN HM.out ?hS HIA.out HCa.out (by have := HLA.out; omega) HY.out HX.out).mono ?_); (case hS => exact fun _ h => h.1.2); rintro e _ ⟨rfl, hM⟩; clear HM; have HM := Aside0.mk hM; clear hM))
          go_roundw
          case rel => exact ⟨i + 1, _, by go_num, rfl, ⟨by omega⟩, ⟨by rw [HSU.out]; simp [badb, bne]⟩, ⟨HM.out.drop.drop⟩⟩
          case measure => simp [intOf]; omega
        | some o =>
          go_upto_region 11 with (first
                | go_skip
                | ((with_reducible refine' load_cell HM.out ?hw rfl ?hx ?hm ?ha ?hv ?_); (case hw => rfl); (case hx => rfl); (case ha => exact nag _ (by decide)); (case hm => first | exact m0 | exact m1 | exact m2 | exact m3 | exact m4 | exact m5 | exact m6); (case hv => rfl))
                | ((with_reducible refine' load_all (ty := 35) HM.out ?hw rfl ?hx ?hm agg35 ?hl ?_); (case hw => rfl); (case hx => rfl); (case hm => first | exact m0 | exact m1 | exact m2 | exact m3 | exact m4 | exact m5 | exact m6); (case hl => rfl))
                | ((with_reducible refine' load_all (ty := 44) HM.out ?hw rfl ?hx ?hm agg44 ?hl ?_); (case hw => rfl); (case hx => rfl); (case hm => first | exact m0 | exact m1 | exact m2 | exact m3 | exact m4 | exact m5 | exact m6); (case hl => rfl))
                | ((with_reducible refine' load_all (ty := 64) HM.out ?hw rfl ?hx ?hm agg64 ?hl ?_); (case hw => rfl); (case hx => rfl); (case hm => first | exact m0 | exact m1 | exact m2 | exact m3 | exact m4 | exact m5 | exact m6); (case hl => rfl))
                | ((with_reducible refine' store_all (ty := 35) HM.out ?hw rfl ?hx ?hm _ ?hy ?hs ?h1 ?hi ?_); (case hw => rfl); (case hx => rfl); (case hm => first | exact at0 | exact at1 | exact at2 | exact at3 | exact at4 | exact at5 | exact at6); (case hy => rfl); (case hs => exact size35); (case h1 => first | exact rowL_one _ | exact nodeL_one _ | simp [Value.oneCell']); (case hi => rfl); intro _ hM; simp only [List.set_cons_zero, List.set_cons_succ] at hM; clear HM; have HM := Aside0.mk hM; clear hM)
                | ((with_reducible refine' store_all (ty := 64) HM.out ?hw rfl ?hx ?hm _ ?hy ?hs ?h1 ?hi ?_); (case hw => rfl); (case hx => rfl); (case hm => first | exact at0 | exact at1 | exact at2 | exact at3 | exact at4 | exact at5 | exact at6); (case hy => rfl); (case hs => exact size64); (case h1 => first | exact rowL_one _ | exact nodeL_one _ | simp [Value.oneCell']); (case hi => rfl); intro _ hM; simp only [List.set_cons_zero, List.set_cons_succ] at hM; clear HM; have HM := Aside0.mk hM; clear hM)
                | ((with_reducible refine' store_all (ty := 44) HM.out ?hw rfl ?hx ?hm _ ?hy ?hs ?h1 ?hi ?_); (case hw => rfl); (case hx => rfl); (case hm => first | exact at0 | exact at1 | exact at2 | exact at3 | exact at4 | exact at5 | exact at6); (case hy => rfl); (case hs => exact size44); (case h1 => first | exact rowL_one _ | exact nodeL_one _ | simp [Value.oneCell']); (case hi => rfl); intro _ hM; simp only [List.set_cons_zero, List.set_cons_succ] at hM; clear HM; have HM := Aside0.mk hM; clear hM)
                | ((with_reducible refine' box_zero (ty := 35) HM.out ?hw rfl zero35 _ ?hc ?_); (case hw => rfl); (case hc => rfl); intro _ _ hM; clear HM; have HM := Aside0.mk hM; clear hM)
                | ((with_reducible refine' box_zero (ty := 64) HM.out ?hw rfl zero64 _ ?hc ?_); (case hw => rfl); (case hc => rfl); intro _ _ hM; clear HM; have HM := Aside0.mk hM; clear hM)
                | ((with_reducible refine' box_zero (ty := 44) HM.out ?hw rfl zero44 _ ?hc ?_); (case hw => rfl); (case hc => rfl); intro _ _ hM; clear HM; have HM := Aside0.mk hM; clear hM))
          clear hx0 hx1 hx2 hx3 hx4 hx5 hx6 hx7 hx8 hx9 hx10 hx11 hx12
          have hrow : ∀ (q : S44), [Value.string q.f0, .int .i64 q.f1, .int .i64 q.f2.f0, .int .i64 q.f2.f1, .int .i64 q.f2.f2, .int .i64 q.f2.f3, .int .i64 q.f2.f4, .string q.f2.f5, .string q.f2.f6, .string q.f2.f7, .slice none 0 0, .int .i64 q.f2.f8.f1, .bool q.f2.f9] = rowL q := fun _ => rfl
          rw [hrow] at HM
          clear hrow
          go_wp2_with (first
                | go_skip
                | ((with_reducible refine' load_cell HM.out ?hw rfl ?hx ?hm ?ha ?hv ?_); (case hw => rfl); (case hx => rfl); (case ha => exact nag _ (by decide)); (case hm => first | exact m0 | exact m1 | exact m2 | exact m3 | exact m4 | exact m5 | exact m6); (case hv => rfl))
                | ((with_reducible refine' load_all (ty := 35) HM.out ?hw rfl ?hx ?hm agg35 ?hl ?_); (case hw => rfl); (case hx => rfl); (case hm => first | exact m0 | exact m1 | exact m2 | exact m3 | exact m4 | exact m5 | exact m6); (case hl => rfl))
                | ((with_reducible refine' load_all (ty := 44) HM.out ?hw rfl ?hx ?hm agg44 ?hl ?_); (case hw => rfl); (case hx => rfl); (case hm => first | exact m0 | exact m1 | exact m2 | exact m3 | exact m4 | exact m5 | exact m6); (case hl => rfl))
                | ((with_reducible refine' load_all (ty := 64) HM.out ?hw rfl ?hx ?hm agg64 ?hl ?_); (case hw => rfl); (case hx => rfl); (case hm => first | exact m0 | exact m1 | exact m2 | exact m3 | exact m4 | exact m5 | exact m6); (case hl => rfl))
                | ((with_reducible refine' store_all (ty := 35) HM.out ?hw rfl ?hx ?hm _ ?hy ?hs ?h1 ?hi ?_); (case hw => rfl); (case hx => rfl); (case hm => first | exact at0 | exact at1 | exact at2 | exact at3 | exact at4 | exact at5 | exact at6); (case hy => rfl); (case hs => exact size35); (case h1 => first | exact rowL_one _ | exact nodeL_one _ | simp [Value.oneCell']); (case hi => rfl); intro _ hM; simp only [List.set_cons_zero, List.set_cons_succ] at hM; clear HM; have HM := Aside0.mk hM; clear hM)
                | ((with_reducible refine' store_all (ty := 64) HM.out ?hw rfl ?hx ?hm _ ?hy ?hs ?h1 ?hi ?_); (case hw => rfl); (case hx => rfl); (case hm => first | exact at0 | exact at1 | exact at2 | exact at3 | exact at4 | exact at5 | exact at6); (case hy => rfl); (case hs => exact size64); (case h1 => first | exact rowL_one _ | exact nodeL_one _ | simp [Value.oneCell']); (case hi => rfl); intro _ hM; simp only [List.set_cons_zero, List.set_cons_succ] at hM; clear HM; have HM := Aside0.mk hM; clear hM)
                | ((with_reducible refine' store_all (ty := 44) HM.out ?hw rfl ?hx ?hm _ ?hy ?hs ?h1 ?hi ?_); (case hw => rfl); (case hx => rfl); (case hm => first | exact at0 | exact at1 | exact at2 | exact at3 | exact at4 | exact at5 | exact at6); (case hy => rfl); (case hs => exact size44); (case h1 => first | exact rowL_one _ | exact nodeL_one _ | simp [Value.oneCell']); (case hi => rfl); intro _ hM; simp only [List.set_cons_zero, List.set_cons_succ] at hM; clear HM; have HM := Aside0.mk hM; clear hM)
                | ((with_reducible refine' box_zero (ty := 35) HM.out ?hw rfl zero35 _ ?hc ?_); (case hw => rfl); (case hc => rfl); intro _ _ hM; clear HM; have HM := Aside0.mk hM; clear hM)
                | ((with_reducible refine' box_zero (ty := 64) HM.out ?hw rfl zero64 _ ?hc ?_); (case hw => rfl); (case hc => rfl); intro _ _ hM; clear HM; have HM := Aside0.mk hM; clear hM)
                | ((with_reducible refine' box_zero (ty := 44) HM.out ?hw rfl zero44 _ ?hc ?_); (case hw => rfl); (case hc => rfl); intro _ _ hM; clear HM; have HM := Aside0.mk hM; clear hM)
                | (go_at_call 23; (refine (get_rowS HM.out ?hS HIA.out HCa.out (by have := HLA.out; omega) HY.out HX.out).mono ?_); (case hS => exact fun _ h => h.1.2); rintro e _ ⟨rfl, hM⟩; clear HM; have HM := Aside0.mk hM; clear hM))
          go_roundw
          case rel => exact ⟨i + 1, _, by go_num, rfl, ⟨by omega⟩, ⟨by rw [HSU.out]; simp [badb, bne]⟩, ⟨HM.out.drop.drop⟩⟩
          case measure => simp [intOf]; omega
      · cases x with
        | none =>
          go_upto_region 11 with (first
                | go_skip
                | ((with_reducible refine' load_cell HM.out ?hw rfl ?hx ?hm ?ha ?hv ?_); (case hw => rfl); (case hx => rfl); (case ha => exact nag _ (by decide)); (case hm => first | exact m0 | exact m1 | exact m2 | exact m3 | exact m4 | exact m5 | exact m6); (case hv => rfl))
                | ((with_reducible refine' load_all (ty := 35) HM.out ?hw rfl ?hx ?hm agg35 ?hl ?_); (case hw => rfl); (case hx => rfl); (case hm => first | exact m0 | exact m1 | exact m2 | exact m3 | exact m4 | exact m5 | exact m6); (case hl => rfl))
                | ((with_reducible refine' load_all (ty := 44) HM.out ?hw rfl ?hx ?hm agg44 ?hl ?_); (case hw => rfl); (case hx => rfl); (case hm => first | exact m0 | exact m1 | exact m2 | exact m3 | exact m4 | exact m5 | exact m6); (case hl => rfl))
                | ((with_reducible refine' load_all (ty := 64) HM.out ?hw rfl ?hx ?hm agg64 ?hl ?_); (case hw => rfl); (case hx => rfl); (case hm => first | exact m0 | exact m1 | exact m2 | exact m3 | exact m4 | exact m5 | exact m6); (case hl => rfl))
                | ((with_reducible refine' store_all (ty := 35) HM.out ?hw rfl ?hx ?hm _ ?hy ?hs ?h1 ?hi ?_); (case hw => rfl); (case hx => rfl); (case hm => first | exact at0 | exact at1 | exact at2 | exact at3 | exact at4 | exact at5 | exact at6); (case hy => rfl); (case hs => exact size35); (case h1 => first | exact rowL_one _ | exact nodeL_one _ | simp [Value.oneCell']); (case hi => rfl); intro _ hM; simp only [List.set_cons_zero, List.set_cons_succ] at hM; clear HM; have HM := Aside0.mk hM; clear hM)
                | ((with_reducible refine' store_all (ty := 64) HM.out ?hw rfl ?hx ?hm _ ?hy ?hs ?h1 ?hi ?_); (case hw => rfl); (case hx => rfl); (case hm => first | exact at0 | exact at1 | exact at2 | exact at3 | exact at4 | exact at5 | exact at6); (case hy => rfl); (case hs => exact size64); (case h1 => first | exact rowL_one _ | exact nodeL_one _ | simp [Value.oneCell']); (case hi => rfl); intro _ hM; simp only [List.set_cons_zero, List.set_cons_succ] at hM; clear HM; have HM := Aside0.mk hM; clear hM)
                | ((with_reducible refine' store_all (ty := 44) HM.out ?hw rfl ?hx ?hm _ ?hy ?hs ?h1 ?hi ?_); (case hw => rfl); (case hx => rfl); (case hm => first | exact at0 | exact at1 | exact at2 | exact at3 | exact at4 | exact at5 | exact at6); (case hy => rfl); (case hs => exact size44); (case h1 => first | exact rowL_one _ | exact nodeL_one _ | simp [Value.oneCell']); (case hi => rfl); intro _ hM; simp only [List.set_cons_zero, List.set_cons_succ] at hM; clear HM; have HM := Aside0.mk hM; clear hM)
                | ((with_reducible refine' box_zero (ty := 35) HM.out ?hw rfl zero35 _ ?hc ?_); (case hw => rfl); (case hc => rfl); intro _ _ hM; clear HM; have HM := Aside0.mk hM; clear hM)
                | ((with_reducible refine' box_zero (ty := 64) HM.out ?hw rfl zero64 _ ?hc ?_); (case hw => rfl); (case hc => rfl); intro _ _ hM; clear HM; have HM := Aside0.mk hM; clear hM)
                | ((with_reducible refine' box_zero (ty := 44) HM.out ?hw rfl zero44 _ ?hc ?_); (case hw => rfl); (case hc => rfl); intro _ _ hM; clear HM; have HM := Aside0.mk hM; clear hM))
          clear hx0 hx1 hx2 hx3 hx4 hx5 hx6 hx7 hx8 hx9 hx10 hx11 hx12
          have hrow : ∀ (q : S44), [Value.string q.f0, .int .i64 q.f1, .int .i64 q.f2.f0, .int .i64 q.f2.f1, .int .i64 q.f2.f2, .int .i64 q.f2.f3, .int .i64 q.f2.f4, .string q.f2.f5, .string q.f2.f6, .string q.f2.f7, .slice none 0 0, .int .i64 q.f2.f8.f1, .bool q.f2.f9] = rowL q := fun _ => rfl
          rw [hrow] at HM
          clear hrow
          go_wp2_with (first
                | go_skip
                | ((with_reducible refine' load_cell HM.out ?hw rfl ?hx ?hm ?ha ?hv ?_); (case hw => rfl); (case hx => rfl); (case ha => exact nag _ (by decide)); (case hm => first | exact m0 | exact m1 | exact m2 | exact m3 | exact m4 | exact m5 | exact m6); (case hv => rfl))
                | ((with_reducible refine' load_all (ty := 35) HM.out ?hw rfl ?hx ?hm agg35 ?hl ?_); (case hw => rfl); (case hx => rfl); (case hm => first | exact m0 | exact m1 | exact m2 | exact m3 | exact m4 | exact m5 | exact m6); (case hl => rfl))
                | ((with_reducible refine' load_all (ty := 44) HM.out ?hw rfl ?hx ?hm agg44 ?hl ?_); (case hw => rfl); (case hx => rfl); (case hm => first | exact m0 | exact m1 | exact m2 | exact m3 | exact m4 | exact m5 | exact m6); (case hl => rfl))
                | ((with_reducible refine' load_all (ty := 64) HM.out ?hw rfl ?hx ?hm agg64 ?hl ?_); (case hw => rfl); (case hx => rfl); (case hm => first | exact m0 | exact m1 | exact m2 | exact m3 | exact m4 | exact m5 | exact m6); (case hl => rfl))
                | ((with_reducible refine' store_all (ty := 35) HM.out ?hw rfl ?hx ?hm _ ?hy ?hs ?h1 ?hi ?_); (case hw => rfl); (case hx => rfl); (case hm => first | exact at0 | exact at1 | exact at2 | exact at3 | exact at4 | exact at5 | exact at6); (case hy => rfl); (case hs => exact size35); (case h1 => first | exact rowL_one _ | exact nodeL_one _ | simp [Value.oneCell']); (case hi => rfl); intro _ hM; simp only [List.set_cons_zero, List.set_cons_succ] at hM; clear HM; have HM := Aside0.mk hM; clear hM)
                | ((with_reducible refine' store_all (ty := 64) HM.out ?hw rfl ?hx ?hm _ ?hy ?hs ?h1 ?hi ?_); (case hw => rfl); (case hx => rfl); (case hm => first | exact at0 | exact at1 | exact at2 | exact at3 | exact at4 | exact at5 | exact at6); (case hy => rfl); (case hs => exact size64); (case h1 => first | exact rowL_one _ | exact nodeL_one _ | simp [Value.oneCell']); (case hi => rfl); intro _ hM; simp only [List.set_cons_zero, List.set_cons_succ] at hM; clear HM; have HM := Aside0.mk hM; clear hM)
                | ((with_reducible refine' store_all (ty := 44) HM.out ?hw rfl ?hx ?hm _ ?hy ?hs ?h1 ?hi ?_); (case hw => rfl); (case hx => rfl); (case hm => first | exact at0 | exact at1 | exact at2 | exact at3 | exact at4 | exact at5 | exact at6); (case hy => rfl); (case hs => exact size44); (case h1 => first | exact rowL_one _ | exact nodeL_one _ | simp [Value.oneCell']); (case hi => rfl); intro _ hM; simp only [List.set_cons_zero, List.set_cons_succ] at hM; clear HM; have HM := Aside0.mk hM; clear hM)
                | ((with_reducible refine' box_zero (ty := 35) HM.out ?hw rfl zero35 _ ?hc ?_); (case hw => rfl); (case hc => rfl); intro _ _ hM; clear HM; have HM := Aside0.mk hM; clear hM)
                | ((with_reducible refine' box_zero (ty := 64) HM.out ?hw rfl zero64 _ ?hc ?_); (case hw => rfl); (case hc => rfl); intro _ _ hM; clear HM; have HM := Aside0.mk hM; clear hM)
                | ((with_reducible refine' box_zero (ty := 44) HM.out ?hw rfl zero44 _ ?hc ?_); (case hw => rfl); (case hc => rfl); intro _ _ hM; clear HM; have HM := Aside0.mk hM; clear hM)
                | (go_at_call 23; (refine (get_rowN HM.out ?hS HIA.out HCa.out (by have := HLA.out; omega) HY.out HX.out).mono ?_); (case hS => exact fun _ h => h.1.2); rintro e _ ⟨rfl, hM⟩; clear HM; have HM := Aside0.mk hM; clear hM))
          go_roundw
          case rel => exact ⟨i + 1, _, by go_num, rfl, ⟨by omega⟩, ⟨by rw [HSU.out]; simp [badb, bne]⟩, ⟨HM.out.drop.drop⟩⟩
          case measure => simp [intOf]; omega
        | some o =>
          go_upto_region 11 with (first
                | go_skip
                | ((with_reducible refine' load_cell HM.out ?hw rfl ?hx ?hm ?ha ?hv ?_); (case hw => rfl); (case hx => rfl); (case ha => exact nag _ (by decide)); (case hm => first | exact m0 | exact m1 | exact m2 | exact m3 | exact m4 | exact m5 | exact m6); (case hv => rfl))
                | ((with_reducible refine' load_all (ty := 35) HM.out ?hw rfl ?hx ?hm agg35 ?hl ?_); (case hw => rfl); (case hx => rfl); (case hm => first | exact m0 | exact m1 | exact m2 | exact m3 | exact m4 | exact m5 | exact m6); (case hl => rfl))
                | ((with_reducible refine' load_all (ty := 44) HM.out ?hw rfl ?hx ?hm agg44 ?hl ?_); (case hw => rfl); (case hx => rfl); (case hm => first | exact m0 | exact m1 | exact m2 | exact m3 | exact m4 | exact m5 | exact m6); (case hl => rfl))
                | ((with_reducible refine' load_all (ty := 64) HM.out ?hw rfl ?hx ?hm agg64 ?hl ?_); (case hw => rfl); (case hx => rfl); (case hm => first | exact m0 | exact m1 | exact m2 | exact m3 | exact m4 | exact m5 | exact m6); (case hl => rfl))
                | ((with_reducible refine' store_all (ty := 35) HM.out ?hw rfl ?hx ?hm _ ?hy ?hs ?h1 ?hi ?_); (case hw => rfl); (case hx => rfl); (case hm => first | exact at0 | exact at1 | exact at2 | exact at3 | exact at4 | exact at5 | exact at6); (case hy => rfl); (case hs => exact size35); (case h1 => first | exact rowL_one _ | exact nodeL_one _ | simp [Value.oneCell']); (case hi => rfl); intro _ hM; simp only [List.set_cons_zero, List.set_cons_succ] at hM; clear HM; have HM := Aside0.mk hM; clear hM)
                | ((with_reducible refine' store_all (ty := 64) HM.out ?hw rfl ?hx ?hm _ ?hy ?hs ?h1 ?hi ?_); (case hw => rfl); (case hx => rfl); (case hm => first | exact at0 | exact at1 | exact at2 | exact at3 | exact at4 | exact at5 | exact at6); (case hy => rfl); (case hs => exact size64); (case h1 => first | exact rowL_one _ | exact nodeL_one _ | simp [Value.oneCell']); (case hi => rfl); intro _ hM; simp only [List.set_cons_zero, List.set_cons_succ] at hM; clear HM; have HM := Aside0.mk hM; clear hM)
                | ((with_reducible refine' store_all (ty := 44) HM.out ?hw rfl ?hx ?hm _ ?hy ?hs ?h1 ?hi ?_); (case hw => rfl); (case hx => rfl); (case hm => first | exact at0 | exact at1 | exact at2 | exact at3 | exact at4 | exact at5 | exact at6); (case hy => rfl); (case hs => exact size44); (case h1 => first | exact rowL_one _ | exact nodeL_one _ | simp [Value.oneCell']); (case hi => rfl); intro _ hM; simp only [List.set_cons_zero, List.set_cons_succ] at hM; clear HM; have HM := Aside0.mk hM; clear hM)
                | ((with_reducible refine' box_zero (ty := 35) HM.out ?hw rfl zero35 _ ?hc ?_); (case hw => rfl); (case hc => rfl); intro _ _ hM; clear HM; have HM := Aside0.mk hM; clear hM)
                | ((with_reducible refine' box_zero (ty := 64) HM.out ?hw rfl zero64 _ ?hc ?_); (case hw => rfl); (case hc => rfl); intro _ _ hM; clear HM; have HM := Aside0.mk hM; clear hM)
                | ((with_reducible refine' box_zero (ty := 44) HM.out ?hw rfl zero44 _ ?hc ?_); (case hw => rfl); (case hc => rfl); intro _ _ hM; clear HM; have HM := Aside0.mk hM; clear hM))
          clear hx0 hx1 hx2 hx3 hx4 hx5 hx6 hx7 hx8 hx9 hx10 hx11 hx12
          have hrow : ∀ (q : S44), [Value.string q.f0, .int .i64 q.f1, .int .i64 q.f2.f0, .int .i64 q.f2.f1, .int .i64 q.f2.f2, .int .i64 q.f2.f3, .int .i64 q.f2.f4, .string q.f2.f5, .string q.f2.f6, .string q.f2.f7, .slice none 0 0, .int .i64 q.f2.f8.f1, .bool q.f2.f9] = rowL q := fun _ => rfl
          rw [hrow] at HM
          clear hrow
          go_wp2_with (first
                | go_skip
                | ((with_reducible refine' load_cell HM.out ?hw rfl ?hx ?hm ?ha ?hv ?_); (case hw => rfl); (case hx => rfl); (case ha => exact nag _ (by decide)); (case hm => first | exact m0 | exact m1 | exact m2 | exact m3 | exact m4 | exact m5 | exact m6); (case hv => rfl))
                | ((with_reducible refine' load_all (ty := 35) HM.out ?hw rfl ?hx ?hm agg35 ?hl ?_); (case hw => rfl); (case hx => rfl); (case hm => first | exact m0 | exact m1 | exact m2 | exact m3 | exact m4 | exact m5 | exact m6); (case hl => rfl))
                | ((with_reducible refine' load_all (ty := 44) HM.out ?hw rfl ?hx ?hm agg44 ?hl ?_); (case hw => rfl); (case hx => rfl); (case hm => first | exact m0 | exact m1 | exact m2 | exact m3 | exact m4 | exact m5 | exact m6); (case hl => rfl))
                | ((with_reducible refine' load_all (ty := 64) HM.out ?hw rfl ?hx ?hm agg64 ?hl ?_); (case hw => rfl); (case hx => rfl); (case hm => first | exact m0 | exact m1 | exact m2 | exact m3 | exact m4 | exact m5 | exact m6); (case hl => rfl))
                | ((with_reducible refine' store_all (ty := 35) HM.out ?hw rfl ?hx ?hm _ ?hy ?hs ?h1 ?hi ?_); (case hw => rfl); (case hx => rfl); (case hm => first | exact at0 | exact at1 | exact at2 | exact at3 | exact at4 | exact at5 | exact at6); (case hy => rfl); (case hs => exact size35); (case h1 => first | exact rowL_one _ | exact nodeL_one _ | simp [Value.oneCell']); (case hi => rfl); intro _ hM; simp only [List.set_cons_zero, List.set_cons_succ] at hM; clear HM; have HM := Aside0.mk hM; clear hM)
                | ((with_reducible refine' store_all (ty := 64) HM.out ?hw rfl ?hx ?hm _ ?hy ?hs ?h1 ?hi ?_); (case hw => rfl); (case hx => rfl); (case hm => first | exact at0 | exact at1 | exact at2 | exact at3 | exact at4 | exact at5 | exact at6); (case hy => rfl); (case hs => exact size64); (case h1 => first | exact rowL_one _ | exact nodeL_one _ | simp [Value.oneCell']); (case hi => rfl); intro _ hM; simp only [List.set_cons_zero, List.set_cons_succ] at hM; clear HM; have HM := Aside0.mk hM; clear hM)
                | ((with_reducible refine' store_all (ty := 44) HM.out ?hw rfl ?hx ?hm _ ?hy ?hs ?h1 ?hi ?_); (case hw => rfl); (case hx => rfl); (case hm => first | exact at0 | exact at1 | exact at2 | exact at3 | exact at4 | exact at5 | exact at6); (case hy => rfl); (case hs => exact size44); (case h1 => first | exact rowL_one _ | exact nodeL_one _ | simp [Value.oneCell']); (case hi => rfl); intro _ hM; simp only [List.set_cons_zero, List.set_cons_succ] at hM; clear HM; have HM := Aside0.mk hM; clear hM)
                | ((with_reducible refine' box_zero (ty := 35) HM.out ?hw rfl zero35 _ ?hc ?_); (case hw => rfl); (case hc => rfl); intro _ _ hM; clear HM; have HM := Aside0.mk hM; clear hM)
                | ((with_reducible refine' box_zero (ty := 64) HM.out ?hw rfl zero64 _ ?hc ?_); (case hw => rfl); (case hc => rfl); intro _ _ hM; clear HM; have HM := Aside0.mk hM; clear hM)
                | ((with_reducible refine' box_zero (ty := 44) HM.out ?hw rfl zero44 _ ?hc ?_); (case hw => rfl); (case hc => rfl); intro _ _ hM; clear HM; have HM := Aside0.mk hM; clear hM)
                | (go_at_call 23; (refine (get_rowS HM.out ?hS HIA.out HCa.out (by have := HLA.out; omega) HY.out HX.out).mono ?_); (case hS => exact fun _ h => h.1.2); rintro e _ ⟨rfl, hM⟩; clear HM; have HM := Aside0.mk hM; clear hM))
          go_roundw
          case rel => exact ⟨i + 1, _, by go_num, rfl, ⟨by omega⟩, ⟨by rw [HSU.out]; simp [badb, bne]⟩, ⟨HM.out.drop.drop⟩⟩
          case measure => simp [intOf]; omega
    · have hil : i = b.length := by have := HIX.out; omega
      have hlz : ¬ ((i : Int) < (b.length : Int)) := by omega
      have hcl := HCL.out
      rw [hil, List.take_length] at hcl
      obtain ⟨t, nt, err, ht, hIt, hLt, hK, he⟩ : ∃ t nt err, overT a b na nb = (t, nt, err) ∧ Inv t nt ∧ t.length ≤ 9060 ∧ (∀ r ∈ t, ∀ o, lookR a (pp r) = some o → (o.f2.f0 == 4) = (r.f2.f0 == 4)) ∧ ((cl = false ∧ err = 0) ∨ (cl = true ∧ err = 130)) := by
        rcases over_split HIA.out HIB.out with ⟨t, ht, hok, hf⟩ | ⟨ht, hf⟩
        · exact ⟨t, _, _, ht, hok.inv, by have := hok.len; have := newN_le a b; omega, fun r hr o ho => hok.kinds hr ho, .inl ⟨hcl.trans hf, rfl⟩⟩
        · refine ⟨a, _, _, ht, HIA.out, by omega, fun r hr o ho => ?_, .inr ⟨hcl.trans hf, rfl⟩⟩
          rw [look_of HIA.out.sorted hr] at ho
          cases ho
          rfl
      have HOV := Aside0.mk ht
      have HIT := Aside0.mk hIt
      have HLT := Aside0.mk hLt
      have HK := Aside0.mk hK
      have hltz : (t.length : Int) ≤ 9060 := by omega
      clear ht hIt hLt hK hcl HCL hil HIX
      rcases he with ⟨rfl, rfl⟩ | ⟨rfl, rfl⟩
      · go_wp2_with (first
              | go_skip
              | ((with_reducible refine' load_cell HM.out ?hw rfl ?hx ?hm ?ha ?hv ?_); (case hw => rfl); (case hx => rfl); (case ha => exact nag _ (by decide)); (case hm => first | exact m0 | exact m1 | exact m2 | exact m3 | exact m4 | exact m5 | exact m6); (case hv => rfl))
              | ((with_reducible refine' load_all (ty := 35) HM.out ?hw rfl ?hx ?hm agg35 ?hl ?_); (case hw => rfl); (case hx => rfl); (case hm => first | exact m0 | exact m1 | exact m2 | exact m3 | exact m4 | exact m5 | exact m6); (case hl => rfl))
              | ((with_reducible refine' load_all (ty := 44) HM.out ?hw rfl ?hx ?hm agg44 ?hl ?_); (case hw => rfl); (case hx => rfl); (case hm => first | exact m0 | exact m1 | exact m2 | exact m3 | exact m4 | exact m5 | exact m6); (case hl => rfl))
              | ((with_reducible refine' load_all (ty := 64) HM.out ?hw rfl ?hx ?hm agg64 ?hl ?_); (case hw => rfl); (case hx => rfl); (case hm => first | exact m0 | exact m1 | exact m2 | exact m3 | exact m4 | exact m5 | exact m6); (case hl => rfl))
              | ((with_reducible refine' store_all (ty := 35) HM.out ?hw rfl ?hx ?hm _ ?hy ?hs ?h1 ?hi ?_); (case hw => rfl); (case hx => rfl); (case hm => first | exact at0 | exact at1 | exact at2 | exact at3 | exact at4 | exact at5 | exact at6); (case hy => rfl); (case hs => exact size35); (case h1 => first | exact rowL_one _ | exact nodeL_one _ | simp [Value.oneCell']); (case hi => rfl); intro _ hM; simp only [List.set_cons_zero, List.set_cons_succ] at hM; clear HM; have HM := Aside0.mk hM; clear hM)
              | ((with_reducible refine' store_all (ty := 64) HM.out ?hw rfl ?hx ?hm _ ?hy ?hs ?h1 ?hi ?_); (case hw => rfl); (case hx => rfl); (case hm => first | exact at0 | exact at1 | exact at2 | exact at3 | exact at4 | exact at5 | exact at6); (case hy => rfl); (case hs => exact size64); (case h1 => first | exact rowL_one _ | exact nodeL_one _ | simp [Value.oneCell']); (case hi => rfl); intro _ hM; simp only [List.set_cons_zero, List.set_cons_succ] at hM; clear HM; have HM := Aside0.mk hM; clear hM)
              | ((with_reducible refine' store_all (ty := 44) HM.out ?hw rfl ?hx ?hm _ ?hy ?hs ?h1 ?hi ?_); (case hw => rfl); (case hx => rfl); (case hm => first | exact at0 | exact at1 | exact at2 | exact at3 | exact at4 | exact at5 | exact at6); (case hy => rfl); (case hs => exact size44); (case h1 => first | exact rowL_one _ | exact nodeL_one _ | simp [Value.oneCell']); (case hi => rfl); intro _ hM; simp only [List.set_cons_zero, List.set_cons_succ] at hM; clear HM; have HM := Aside0.mk hM; clear hM)
              | ((with_reducible refine gate_dst (N := 14) rfl ?_); (with_reducible refine' box_zero (ty := 35) HM.out ?hw rfl zero35 _ ?hc ?_); (case hw => rfl); (case hc => rfl); intro g14 _ hM; clear HM; have HM := Aside0.mk hM; clear hM)
              | (go_at_call 29; (refine (over_C HIA.out HIB.out (by have := HLA.out; omega) (by have := HLB.out; omega) (by have := HNA.out; omega) (by have := HNB.out; omega) HOV.out HM.out ?hSa ?hSb HCa.out HCb.out).mono ?_); (case hSa => exact fun _ h => h.1.2); (case hSb => exact fun _ h => h.2); rintro e _ ⟨At, ct, rfl, hc, hM⟩; have HCt := Aside0.mk hc; clear hc; clear HM; have HM := Aside0.mk hM; clear hM))
        go_loopw [91] (fun v91 wr => ∃ (i : Nat), v91 = .int .i64 i ∧ Aside0 (i ≤ t.length) ∧ Aside0 (Mem w (fun k => k < w.heap.size) wr ((g14, [.slice At t.length ct, .int .i64 nt], 35) :: (g8, [.slice Awb ws2.length cwb, .int .i64 nw2], 64) :: (g7, [.slice Ab b.length cb, .int .i64 nb], 35) :: (g6, [.slice Awa ws.length cwa, .int .i64 nw], 64) :: (g5, [.slice Aa a.length ca, .int .i64 na], 35) :: []) (fun w => ((Two A0 A1 xs ys w ∧ Tr Aa a w) ∧ Tr Ab b w) ∧ Tr At t w))) (fun v91 _ => t.length - (intOf v91).toNat)
        case atStart => exact ⟨0, rfl, ⟨Nat.zero_le _⟩, HM⟩
        case round =>
          clear HM
          obtain ⟨i, rfl, HIX, HM⟩ := hrel
          have hib : (i : Int) ≤ 9060 := by have := HIX.out; omega
          by_cases hlt : i < t.length
          · have HKY := Aside0.mk (HK.out _ (List.getElem_mem hlt))
            have hlz : (i : Int) < (t.length : Int) := by omega
            obtain ⟨ad, ea, hx0, hx1, hx2, hx3, hx4, hx5, hx6, hx7, hx8, hx9, hx10, hx11, hx12⟩ := at_T44 (HM.out.now.2) (i : Int) (by omega) (by omega)
            have hrd : rd_T44 t (i : Int) = t[i] := by unfold rd_T44; rw [Int.toNat_natCast, List.getD_eq_getElem?_getD, List.getElem?_eq_getElem hlt]; rfl
            rw [Int.toNat_natCast, hrd] at hx0 hx1 hx2 hx3 hx4 hx5 hx6 hx7 hx8 hx9 hx11 hx12
            rw [Int.toNat_natCast] at hx10
            have HY := Aside0.mk (HIT.out.clean _ (List.getElem_mem hlt))
            generalize t[i] = y at hx0 hx1 hx2 hx3 hx4 hx5 hx6 hx7 hx8 hx9 hx11 hx12 HKY HY
            clear hrd
            subst ea
            obtain ⟨x, hx⟩ : ∃ x, lookR a (pp y) = x := ⟨_, rfl⟩
            have HX := Aside0.mk hx
            clear hx
            cases x with
            | none =>
              go_upto_region 20 with (first
                    | go_skip
                    | ((with_reducible refine' load_cell HM.out ?hw rfl ?hx ?hm ?ha ?hv ?_); (case hw => rfl); (case hx => rfl); (case ha => exact nag _ (by decide)); (case hm => first | exact m0 | exact m1 | exact m2 | exact m3 | exact m4 | exact m5 | exact m6); (case hv => rfl))
                    | ((with_reducible refine' load_all (ty := 35) HM.out ?hw rfl ?hx ?hm agg35 ?hl ?_); (case hw => rfl); (case hx => rfl); (case hm => first | exact m0 | exact m1 | exact m2 | exact m3 | exact m4 | exact m5 | exact m6); (case hl => rfl))
                    | ((with_reducible refine' load_all (ty := 44) HM.out ?hw rfl ?hx ?hm agg44 ?hl ?_); (case hw => rfl); (case hx => rfl); (case hm => first | exact m0 | exact m1 | exact m2 | exact m3 | exact m4 | exact m5 | exact m6); (case hl => rfl))
                    | ((with_reducible refine' load_all (ty := 64) HM.out ?hw rfl ?hx ?hm agg64 ?hl ?_); (case hw => rfl); (case hx => rfl); (case hm => first | exact m0 | exact m1 | exact m2 | exact m3 | exact m4 | exact m5 | exact m6); (case hl => rfl))
                    | ((with_reducible refine' store_all (ty := 35) HM.out ?hw rfl ?hx ?hm _ ?hy ?hs ?h1 ?hi ?_); (case hw => rfl); (case hx => rfl); (case hm => first | exact at0 | exact at1 | exact at2 | exact at3 | exact at4 | exact at5 | exact at6); (case hy => rfl); (case hs => exact size35); (case h1 => first | exact rowL_one _ | exact nodeL_one _ | simp [Value.oneCell']); (case hi => rfl); intro _ hM; simp only [List.set_cons_zero, List.set_cons_succ] at hM; clear HM; have HM := Aside0.mk hM; clear hM)
                    | ((with_reducible refine' store_all (ty := 64) HM.out ?hw rfl ?hx ?hm _ ?hy ?hs ?h1 ?hi ?_); (case hw => rfl); (case hx => rfl); (case hm => first | exact at0 | exact at1 | exact at2 | exact at3 | exact at4 | exact at5 | exact at6); (case hy => rfl); (case hs => exact size64); (case h1 => first | exact rowL_one _ | exact nodeL_one _ | simp [Value.oneCell']); (case hi => rfl); intro _ hM; simp only [List.set_cons_zero, List.set_cons_succ] at hM; clear HM; have HM := Aside0.mk hM; clear hM)
                    | ((with_reducible refine' store_all (ty := 44) HM.out ?hw rfl ?hx ?hm _ ?hy ?hs ?h1 ?hi ?_); (case hw => rfl); (case hx => rfl); (case hm => first | exact at0 | exact at1 | exact at2 | exact at3 | exact at4 | exact at5 | exact at6); (case hy => rfl); (case hs => exact size44); (case h1 => first | exact rowL_one _ | exact nodeL_one _ | simp [Value.oneCell']); (case hi => rfl); intro _ hM; simp only [List.set_cons_zero, List.set_cons_succ] at hM; clear HM; have HM := Aside0.mk hM; clear hM)
                    | ((with_reducible refine' box_zero (ty := 35) HM.out ?hw rfl zero35 _ ?hc ?_); (case hw => rfl); (case hc => rfl); intro _ _ hM; clear HM; have HM := Aside0.mk hM; clear hM)
                    | ((with_reducible refine' box_zero (ty := 64) HM.out ?hw rfl zero64 _ ?hc ?_); (case hw => rfl); (case hc => rfl); intro _ _ hM; clear HM; have HM := Aside0.mk hM; clear hM)
                    | ((with_reducible refine' box_zero (ty := 44) HM.out ?hw rfl zero44 _ ?hc ?_); (case hw => rfl); (case hc => rfl); intro _ _ hM; clear HM; have HM := Aside0.mk hM; clear hM))
              clear hx0 hx1 hx2 hx3 hx4 hx5 hx6 hx7 hx8 hx9 hx10 hx11 hx12
              have hrow : ∀ (q : S44), [Value.string q.f0, .int .i64 q.f1, .int .i64 q.f2.f0, .int .i64 q.f2.f1, .int .i64 q.f2.f2, .int .i64 q.f2.f3, .int .i64 q.f2.f4, .string q.f2.f5, .string q.f2.f6, .string q.f2.f7, .slice none 0 0, .int .i64 q.f2.f8.f1, .bool q.f2.f9] = rowL q := fun _ => rfl
              rw [hrow] at HM
              clear hrow
              go_wp2_with (first
                    | go_skip
                    | ((with_reducible refine' load_cell HM.out ?hw rfl ?hx ?hm ?ha ?hv ?_); (case hw => rfl); (case hx => rfl); (case ha => exact nag _ (by decide)); (case hm => first | exact m0 | exact m1 | exact m2 | exact m3 | exact m4 | exact m5 | exact m6); (case hv => rfl))
                    | ((with_reducible refine' load_all (ty := 35) HM.out ?hw rfl ?hx ?hm agg35 ?hl ?_); (case hw => rfl); (case hx => rfl); (case hm => first | exact m0 | exact m1 | exact m2 | exact m3 | exact m4 | exact m5 | exact m6); (case hl => rfl))
                    | ((with_reducible refine' load_all (ty := 44) HM.out ?hw rfl ?hx ?hm agg44 ?hl ?_); (case hw => rfl); (case hx => rfl); (case hm => first | exact m0 | exact m1 | exact m2 | exact m3 | exact m4 | exact m5 | exact m6); (case hl => rfl))
                    | ((with_reducible refine' load_all (ty := 64) HM.out ?hw rfl ?hx ?hm agg64 ?hl ?_); (case hw => rfl); (case hx => rfl); (case hm => first | exact m0 | exact m1 | exact m2 | exact m3 | exact m4 | exact m5 | exact m6); (case hl => rfl))
                    | ((with_reducible refine' store_all (ty := 35) HM.out ?hw rfl ?hx ?hm _ ?hy ?hs ?h1 ?hi ?_); (case hw => rfl); (case hx => rfl); (case hm => first | exact at0 | exact at1 | exact at2 | exact at3 | exact at4 | exact at5 | exact at6); (case hy => rfl); (case hs => exact size35); (case h1 => first | exact rowL_one _ | exact nodeL_one _ | simp [Value.oneCell']); (case hi => rfl); intro _ hM; simp only [List.set_cons_zero, List.set_cons_succ] at hM; clear HM; have HM := Aside0.mk hM; clear hM)
                    | ((with_reducible refine' store_all (ty := 64) HM.out ?hw rfl ?hx ?hm _ ?hy ?hs ?h1 ?hi ?_); (case hw => rfl); (case hx => rfl); (case hm => first | exact at0 | exact at1 | exact at2 | exact at3 | exact at4 | exact at5 | exact at6); (case hy => rfl); (case hs => exact size64); (case h1 => first | exact rowL_one _ | exact nodeL_one _ | simp [Value.oneCell']); (case hi => rfl); intro _ hM; simp only [List.set_cons_zero, List.set_cons_succ] at hM; clear HM; have HM := Aside0.mk hM; clear hM)
                    | ((with_reducible refine' store_all (ty := 44) HM.out ?hw rfl ?hx ?hm _ ?hy ?hs ?h1 ?hi ?_); (case hw => rfl); (case hx => rfl); (case hm => first | exact at0 | exact at1 | exact at2 | exact at3 | exact at4 | exact at5 | exact at6); (case hy => rfl); (case hs => exact size44); (case h1 => first | exact rowL_one _ | exact nodeL_one _ | simp [Value.oneCell']); (case hi => rfl); intro _ hM; simp only [List.set_cons_zero, List.set_cons_succ] at hM; clear HM; have HM := Aside0.mk hM; clear hM)
                    | ((with_reducible refine' box_zero (ty := 35) HM.out ?hw rfl zero35 _ ?hc ?_); (case hw => rfl); (case hc => rfl); intro _ _ hM; clear HM; have HM := Aside0.mk hM; clear hM)
                    | ((with_reducible refine' box_zero (ty := 64) HM.out ?hw rfl zero64 _ ?hc ?_); (case hw => rfl); (case hc => rfl); intro _ _ hM; clear HM; have HM := Aside0.mk hM; clear hM)
                    | ((with_reducible refine' box_zero (ty := 44) HM.out ?hw rfl zero44 _ ?hc ?_); (case hw => rfl); (case hc => rfl); intro _ _ hM; clear HM; have HM := Aside0.mk hM; clear hM)
                    | (go_at_call 23; (refine (get_rowN HM.out ?hS HIA.out HCa.out (by have := HLA.out; omega) HY.out HX.out).mono ?_); (case hS => exact fun _ h => h.1.1.2); rintro e _ ⟨rfl, hM⟩; clear HM; have HM := Aside0.mk hM; clear hM))
              go_roundw
              case rel => exact ⟨i + 1, by go_num, ⟨by omega⟩, ⟨HM.out.drop.drop⟩⟩
              case measure => simp [intOf]; omega
            | some o =>
              have b5 : (o.f2.f0 == 4) = (y.f2.f0 == 4) := HKY.out o HX.out
              go_upto_region 20 with (first
                    | go_skip
                    | ((with_reducible refine' load_cell HM.out ?hw rfl ?hx ?hm ?ha ?hv ?_); (case hw => rfl); (case hx => rfl); (case ha => exact nag _ (by decide)); (case hm => first | exact m0 | exact m1 | exact m2 | exact m3 | exact m4 | exact m5 | exact m6); (case hv => rfl))
                    | ((with_reducible refine' load_all (ty := 35) HM.out ?hw rfl ?hx ?hm agg35 ?hl ?_); (case hw => rfl); (case hx => rfl); (case hm => first | exact m0 | exact m1 | exact m2 | exact m3 | exact m4 | exact m5 | exact m6); (case hl => rfl))
                    | ((with_reducible refine' load_all (ty := 44) HM.out ?hw rfl ?hx ?hm agg44 ?hl ?_); (case hw => rfl); (case hx => rfl); (case hm => first | exact m0 | exact m1 | exact m2 | exact m3 | exact m4 | exact m5 | exact m6); (case hl => rfl))
                    | ((with_reducible refine' load_all (ty := 64) HM.out ?hw rfl ?hx ?hm agg64 ?hl ?_); (case hw => rfl); (case hx => rfl); (case hm => first | exact m0 | exact m1 | exact m2 | exact m3 | exact m4 | exact m5 | exact m6); (case hl => rfl))
                    | ((with_reducible refine' store_all (ty := 35) HM.out ?hw rfl ?hx ?hm _ ?hy ?hs ?h1 ?hi ?_); (case hw => rfl); (case hx => rfl); (case hm => first | exact at0 | exact at1 | exact at2 | exact at3 | exact at4 | exact at5 | exact at6); (case hy => rfl); (case hs => exact size35); (case h1 => first | exact rowL_one _ | exact nodeL_one _ | simp [Value.oneCell']); (case hi => rfl); intro _ hM; simp only [List.set_cons_zero, List.set_cons_succ] at hM; clear HM; have HM := Aside0.mk hM; clear hM)
                    | ((with_reducible refine' store_all (ty := 64) HM.out ?hw rfl ?hx ?hm _ ?hy ?hs ?h1 ?hi ?_); (case hw => rfl); (case hx => rfl); (case hm => first | exact at0 | exact at1 | exact at2 | exact at3 | exact at4 | exact at5 | exact at6); (case hy => rfl); (case hs => exact size64); (case h1 => first | exact rowL_one _ | exact nodeL_one _ | simp [Value.oneCell']); (case hi => rfl); intro _ hM; simp only [List.set_cons_zero, List.set_cons_succ] at hM; clear HM; have HM := Aside0.mk hM; clear hM)
                    | ((with_reducible refine' store_all (ty := 44) HM.out ?hw rfl ?hx ?hm _ ?hy ?hs ?h1 ?hi ?_); (case hw => rfl); (case hx => rfl); (case hm => first | exact at0 | exact at1 | exact at2 | exact at3 | exact at4 | exact at5 | exact at6); (case hy => rfl); (case hs => exact size44); (case h1 => first | exact rowL_one _ | exact nodeL_one _ | simp [Value.oneCell']); (case hi => rfl); intro _ hM; simp only [List.set_cons_zero, List.set_cons_succ] at hM; clear HM; have HM := Aside0.mk hM; clear hM)
                    | ((with_reducible refine' box_zero (ty := 35) HM.out ?hw rfl zero35 _ ?hc ?_); (case hw => rfl); (case hc => rfl); intro _ _ hM; clear HM; have HM := Aside0.mk hM; clear hM)
                    | ((with_reducible refine' box_zero (ty := 64) HM.out ?hw rfl zero64 _ ?hc ?_); (case hw => rfl); (case hc => rfl); intro _ _ hM; clear HM; have HM := Aside0.mk hM; clear hM)
                    | ((with_reducible refine' box_zero (ty := 44) HM.out ?hw rfl zero44 _ ?hc ?_); (case hw => rfl); (case hc => rfl); intro _ _ hM; clear HM; have HM := Aside0.mk hM; clear hM))
              clear hx0 hx1 hx2 hx3 hx4 hx5 hx6 hx7 hx8 hx9 hx10 hx11 hx12
              have hrow : ∀ (q : S44), [Value.string q.f0, .int .i64 q.f1, .int .i64 q.f2.f0, .int .i64 q.f2.f1, .int .i64 q.f2.f2, .int .i64 q.f2.f3, .int .i64 q.f2.f4, .string q.f2.f5, .string q.f2.f6, .string q.f2.f7, .slice none 0 0, .int .i64 q.f2.f8.f1, .bool q.f2.f9] = rowL q := fun _ => rfl
              rw [hrow] at HM
              clear hrow
              go_wp2_with (first
                    | go_skip
                    | ((with_reducible refine' load_cell HM.out ?hw rfl ?hx ?hm ?ha ?hv ?_); (case hw => rfl); (case hx => rfl); (case ha => exact nag _ (by decide)); (case hm => first | exact m0 | exact m1 | exact m2 | exact m3 | exact m4 | exact m5 | exact m6); (case hv => rfl))
                    | ((with_reducible refine' load_all (ty := 35) HM.out ?hw rfl ?hx ?hm agg35 ?hl ?_); (case hw => rfl); (case hx => rfl); (case hm => first | exact m0 | exact m1 | exact m2 | exact m3 | exact m4 | exact m5 | exact m6); (case hl => rfl))
                    | ((with_reducible refine' load_all (ty := 44) HM.out ?hw rfl ?hx ?hm agg44 ?hl ?_); (case hw => rfl); (case hx => rfl); (case hm => first | exact m0 | exact m1 | exact m2 | exact m3 | exact m4 | exact m5 | exact m6); (case hl => rfl))
                    | ((with_reducible refine' load_all (ty := 64) HM.out ?hw rfl ?hx ?hm agg64 ?hl ?_); (case hw => rfl); (case hx => rfl); (case hm => first | exact m0 | exact m1 | exact m2 | exact m3 | exact m4 | exact m5 | exact m6); (case hl => rfl))
                    | ((with_reducible refine' store_all (ty := 35) HM.out ?hw rfl ?hx ?hm _ ?hy ?hs ?h1 ?hi ?_); (case hw => rfl); (case hx => rfl); (case hm => first | exact at0 | exact at1 | exact at2 | exact at3 | exact at4 | exact at5 | exact at6); (case hy => rfl); (case hs => exact size35); (case h1 => first | exact rowL_one _ | exact nodeL_one _ | simp [Value.oneCell']); (case hi => rfl); intro _ hM; simp only [List.set_cons_zero, List.set_cons_succ] at hM; clear HM; have HM := Aside0.mk hM; clear hM)
                    | ((with_reducible refine' store_all (ty := 64) HM.out ?hw rfl ?hx ?hm _ ?hy ?hs ?h1 ?hi ?_); (case hw => rfl); (case hx => rfl); (case hm => first | exact at0 | exact at1 | exact at2 | exact at3 | exact at4 | exact at5 | exact at6); (case hy => rfl); (case hs => exact size64); (case h1 => first | exact rowL_one _ | exact nodeL_one _ | simp [Value.oneCell']); (case hi => rfl); intro _ hM; simp only [List.set_cons_zero, List.set_cons_succ] at hM; clear HM; have HM := Aside0.mk hM; clear hM)
                    | ((with_reducible refine' store_all (ty := 44) HM.out ?hw rfl ?hx ?hm _ ?hy ?hs ?h1 ?hi ?_); (case hw => rfl); (case hx => rfl); (case hm => first | exact at0 | exact at1 | exact at2 | exact at3 | exact at4 | exact at5 | exact at6); (case hy => rfl); (case hs => exact size44); (case h1 => first | exact rowL_one _ | exact nodeL_one _ | simp [Value.oneCell']); (case hi => rfl); intro _ hM; simp only [List.set_cons_zero, List.set_cons_succ] at hM; clear HM; have HM := Aside0.mk hM; clear hM)
                    | ((with_reducible refine' box_zero (ty := 35) HM.out ?hw rfl zero35 _ ?hc ?_); (case hw => rfl); (case hc => rfl); intro _ _ hM; clear HM; have HM := Aside0.mk hM; clear hM)
                    | ((with_reducible refine' box_zero (ty := 64) HM.out ?hw rfl zero64 _ ?hc ?_); (case hw => rfl); (case hc => rfl); intro _ _ hM; clear HM; have HM := Aside0.mk hM; clear hM)
                    | ((with_reducible refine' box_zero (ty := 44) HM.out ?hw rfl zero44 _ ?hc ?_); (case hw => rfl); (case hc => rfl); intro _ _ hM; clear HM; have HM := Aside0.mk hM; clear hM)
                    | (go_at_call 23; (refine (get_rowS HM.out ?hS HIA.out HCa.out (by have := HLA.out; omega) HY.out HX.out).mono ?_); (case hS => exact fun _ h => h.1.1.2); rintro e _ ⟨rfl, hM⟩; clear HM; have HM := Aside0.mk hM; clear hM))
              go_roundw
              case rel => exact ⟨i + 1, by go_num, ⟨by omega⟩, ⟨HM.out.drop.drop⟩⟩
              case measure => simp [intOf]; omega
          · have hil : i = t.length := by have := HIX.out; omega
            have hlz : ¬ ((i : Int) < (t.length : Int)) := by omega
            go_wp2_with (first
              | go_skip
              | ((with_reducible refine' load_cell HM.out ?hw rfl ?hx ?hm ?ha ?hv ?_); (case hw => rfl); (case hx => rfl); (case ha => exact nag _ (by decide)); (case hm => first | exact m0 | exact m1 | exact m2 | exact m3 | exact m4 | exact m5 | exact m6); (case hv => rfl))
              | ((with_reducible refine' load_all (ty := 35) HM.out ?hw rfl ?hx ?hm agg35 ?hl ?_); (case hw => rfl); (case hx => rfl); (case hm => first | exact m0 | exact m1 | exact m2 | exact m3 | exact m4 | exact m5 | exact m6); (case hl => rfl))
              | ((with_reducible refine' load_all (ty := 44) HM.out ?hw rfl ?hx ?hm agg44 ?hl ?_); (case hw => rfl); (case hx => rfl); (case hm => first | exact m0 | exact m1 | exact m2 | exact m3 | exact m4 | exact m5 | exact m6); (case hl => rfl))
              | ((with_reducible refine' load_all (ty := 64) HM.out ?hw rfl ?hx ?hm agg64 ?hl ?_); (case hw => rfl); (case hx => rfl); (case hm => first | exact m0 | exact m1 | exact m2 | exact m3 | exact m4 | exact m5 | exact m6); (case hl => rfl))
              | ((with_reducible refine' store_all (ty := 35) HM.out ?hw rfl ?hx ?hm _ ?hy ?hs ?h1 ?hi ?_); (case hw => rfl); (case hx => rfl); (case hm => first | exact at0 | exact at1 | exact at2 | exact at3 | exact at4 | exact at5 | exact at6); (case hy => rfl); (case hs => exact size35); (case h1 => first | exact rowL_one _ | exact nodeL_one _ | simp [Value.oneCell']); (case hi => rfl); intro _ hM; simp only [List.set_cons_zero, List.set_cons_succ] at hM; clear HM; have HM := Aside0.mk hM; clear hM)
              | ((with_reducible refine' store_all (ty := 64) HM.out ?hw rfl ?hx ?hm _ ?hy ?hs ?h1 ?hi ?_); (case hw => rfl); (case hx => rfl); (case hm => first | exact at0 | exact at1 | exact at2 | exact at3 | exact at4 | exact at5 | exact at6); (case hy => rfl); (case hs => exact size64); (case h1 => first | exact rowL_one _ | exact nodeL_one _ | simp [Value.oneCell']); (case hi => rfl); intro _ hM; simp only [List.set_cons_zero, List.set_cons_succ] at hM; clear HM; have HM := Aside0.mk hM; clear hM)
              | ((with_reducible refine' store_all (ty := 44) HM.out ?hw rfl ?hx ?hm _ ?hy ?hs ?h1 ?hi ?_); (case hw => rfl); (case hx => rfl); (case hm => first | exact at0 | exact at1 | exact at2 | exact at3 | exact at4 | exact at5 | exact at6); (case hy => rfl); (case hs => exact size44); (case h1 => first | exact rowL_one _ | exact nodeL_one _ | simp [Value.oneCell']); (case hi => rfl); intro _ hM; simp only [List.set_cons_zero, List.set_cons_succ] at hM; clear HM; have HM := Aside0.mk hM; clear hM)
              | ((with_reducible refine' box_zero (ty := 35) HM.out ?hw rfl zero35 _ ?hc ?_); (case hw => rfl); (case hc => rfl); intro _ _ hM; clear HM; have HM := Aside0.mk hM; clear hM)
              | ((with_reducible refine' box_zero (ty := 64) HM.out ?hw rfl zero64 _ ?hc ?_); (case hw => rfl); (case hc => rfl); intro _ _ hM; clear HM; have HM := Aside0.mk hM; clear hM)
              | ((with_reducible refine' box_zero (ty := 44) HM.out ?hw rfl zero44 _ ?hc ?_); (case hw => rfl); (case hc => rfl); intro _ _ hM; clear HM; have HM := Aside0.mk hM; clear hM))
            go_ret
            exact ⟨rfl, HM.out.below⟩
      · go_wp2_with (first
              | go_skip
              | ((with_reducible refine' load_cell HM.out ?hw rfl ?hx ?hm ?ha ?hv ?_); (case hw => rfl); (case hx => rfl); (case ha => exact nag _ (by decide)); (case hm => first | exact m0 | exact m1 | exact m2 | exact m3 | exact m4 | exact m5 | exact m6); (case hv => rfl))
              | ((with_reducible refine' load_all (ty := 35) HM.out ?hw rfl ?hx ?hm agg35 ?hl ?_); (case hw => rfl); (case hx => rfl); (case hm => first | exact m0 | exact m1 | exact m2 | exact m3 | exact m4 | exact m5 | exact m6); (case hl => rfl))
              | ((with_reducible refine' load_all (ty := 44) HM.out ?hw rfl ?hx ?hm agg44 ?hl ?_); (case hw => rfl); (case hx => rfl); (case hm => first | exact m0 | exact m1 | exact m2 | exact m3 | exact m4 | exact m5 | exact m6); (case hl => rfl))
              | ((with_reducible refine' load_all (ty := 64) HM.out ?hw rfl ?hx ?hm agg64 ?hl ?_); (case hw => rfl); (case hx => rfl); (case hm => first | exact m0 | exact m1 | exact m2 | exact m3 | exact m4 | exact m5 | exact m6); (case hl => rfl))
              | ((with_reducible refine' store_all (ty := 35) HM.out ?hw rfl ?hx ?hm _ ?hy ?hs ?h1 ?hi ?_); (case hw => rfl); (case hx => rfl); (case hm => first | exact at0 | exact at1 | exact at2 | exact at3 | exact at4 | exact at5 | exact at6); (case hy => rfl); (case hs => exact size35); (case h1 => first | exact rowL_one _ | exact nodeL_one _ | simp [Value.oneCell']); (case hi => rfl); intro _ hM; simp only [List.set_cons_zero, List.set_cons_succ] at hM; clear HM; have HM := Aside0.mk hM; clear hM)
              | ((with_reducible refine' store_all (ty := 64) HM.out ?hw rfl ?hx ?hm _ ?hy ?hs ?h1 ?hi ?_); (case hw => rfl); (case hx => rfl); (case hm => first | exact at0 | exact at1 | exact at2 | exact at3 | exact at4 | exact at5 | exact at6); (case hy => rfl); (case hs => exact size64); (case h1 => first | exact rowL_one _ | exact nodeL_one _ | simp [Value.oneCell']); (case hi => rfl); intro _ hM; simp only [List.set_cons_zero, List.set_cons_succ] at hM; clear HM; have HM := Aside0.mk hM; clear hM)
              | ((with_reducible refine' store_all (ty := 44) HM.out ?hw rfl ?hx ?hm _ ?hy ?hs ?h1 ?hi ?_); (case hw => rfl); (case hx => rfl); (case hm => first | exact at0 | exact at1 | exact at2 | exact at3 | exact at4 | exact at5 | exact at6); (case hy => rfl); (case hs => exact size44); (case h1 => first | exact rowL_one _ | exact nodeL_one _ | simp [Value.oneCell']); (case hi => rfl); intro _ hM; simp only [List.set_cons_zero, List.set_cons_succ] at hM; clear HM; have HM := Aside0.mk hM; clear hM)
              | ((with_reducible refine gate_dst (N := 14) rfl ?_); (with_reducible refine' box_zero (ty := 35) HM.out ?hw rfl zero35 _ ?hc ?_); (case hw => rfl); (case hc => rfl); intro g14 _ hM; clear HM; have HM := Aside0.mk hM; clear hM)
              | (go_at_call 29; (refine (over_C HIA.out HIB.out (by have := HLA.out; omega) (by have := HLB.out; omega) (by have := HNA.out; omega) (by have := HNB.out; omega) HOV.out HM.out ?hSa ?hSb HCa.out HCb.out).mono ?_); (case hSa => exact fun _ h => h.1.2); (case hSb => exact fun _ h => h.2); rintro e _ ⟨At, ct, rfl, hc, hM⟩; have HCt := Aside0.mk hc; clear hc; clear HM; have HM := Aside0.mk hM; clear hM))
        go_loopw [91] (fun v91 wr => ∃ (i : Nat), v91 = .int .i64 i ∧ Aside0 (i ≤ t.length) ∧ Aside0 (Mem w (fun k => k < w.heap.size) wr ((g14, [.slice At t.length ct, .int .i64 nt], 35) :: (g8, [.slice Awb ws2.length cwb, .int .i64 nw2], 64) :: (g7, [.slice Ab b.length cb, .int .i64 nb], 35) :: (g6, [.slice Awa ws.length cwa, .int .i64 nw], 64) :: (g5, [.slice Aa a.length ca, .int .i64 na], 35) :: []) (fun w => ((Two A0 A1 xs ys w ∧ Tr Aa a w) ∧ Tr Ab b w) ∧ Tr At t w))) (fun v91 _ => t.length - (intOf v91).toNat)
        case atStart => exact ⟨0, rfl, ⟨Nat.zero_le _⟩, HM⟩
        case round =>
          clear HM
          obtain ⟨i, rfl, HIX, HM⟩ := hrel
          have hib : (i : Int) ≤ 9060 := by have := HIX.out; omega
          by_cases hlt : i < t.length
          · have HKY := Aside0.mk (HK.out _ (List.getElem_mem hlt))
            have hlz : (i : Int) < (t.length : Int) := by omega
            obtain ⟨ad, ea, hx0, hx1, hx2, hx3, hx4, hx5, hx6, hx7, hx8, hx9, hx10, hx11, hx12⟩ := at_T44 (HM.out.now.2) (i : Int) (by omega) (by omega)
            have hrd : rd_T44 t (i : Int) = t[i] := by unfold rd_T44; rw [Int.toNat_natCast, List.getD_eq_getElem?_getD, List.getElem?_eq_getElem hlt]; rfl
            rw [Int.toNat_natCast, hrd] at hx0 hx1 hx2 hx3 hx4 hx5 hx6 hx7 hx8 hx9 hx11 hx12
            rw [Int.toNat_natCast] at hx10
            have HY := Aside0.mk (HIT.out.clean _ (List.getElem_mem hlt))
            generalize t[i] = y at hx0 hx1 hx2 hx3 hx4 hx5 hx6 hx7 hx8 hx9 hx11 hx12 HKY HY
            clear hrd
            subst ea
            obtain ⟨x, hx⟩ : ∃ x, lookR a (pp y) = x := ⟨_, rfl⟩
            have HX := Aside0.mk hx
            clear hx
            cases x with
            | none =>
              go_upto_region 20 with (first
                    | go_skip
                    | ((with_reducible refine' load_cell HM.out ?hw rfl ?hx ?hm ?ha ?hv ?_); (case hw => rfl); (case hx => rfl); (case ha => exact nag _ (by decide)); (case hm => first | exact m0 | exact m1 | exact m2 | exact m3 | exact m4 | exact m5 | exact m6); (case hv => rfl))
                    | ((with_reducible refine' load_all (ty := 35) HM.out ?hw rfl ?hx ?hm agg35 ?hl ?_); (case hw => rfl); (case hx => rfl); (case hm => first | exact m0 | exact m1 | exact m2 | exact m3 | exact m4 | exact m5 | exact m6); (case hl => rfl))
                    | ((with_reducible refine' load_all (ty := 44) HM.out ?hw rfl ?hx ?hm agg44 ?hl ?_); (case hw => rfl); (case hx => rfl); (case hm => first | exact m0 | exact m1 | exact m2 | exact m3 | exact m4 | exact m5 | exact m6); (case hl => rfl))
                    | ((with_reducible refine' load_all (ty := 64) HM.out ?hw rfl ?hx ?hm agg64 ?hl ?_); (case hw => rfl); (case hx => rfl); (case hm => first | exact m0 | exact m1 | exact m2 | exact m3 | exact m4 | exact m5 | exact m6); (case hl => rfl))
                    | ((with_reducible refine' store_all (ty := 35) HM.out ?hw rfl ?hx ?hm _ ?hy ?hs ?h1 ?hi ?_); (case hw => rfl); (case hx => rfl); (case hm => first | exact at0 | exact at1 | exact at2 | exact at3 | exact at4 | exact at5 | exact at6); (case hy => rfl); (case hs => exact size35); (case h1 => first | exact rowL_one _ | exact nodeL_one _ | simp [Value.oneCell']); (case hi => rfl); intro _ hM; simp only [List.set_cons_zero, List.set_cons_succ] at hM; clear HM; have HM := Aside0.mk hM; clear hM)
                    | ((with_reducible refine' store_all (ty := 64) HM.out ?hw rfl ?hx ?hm _ ?hy ?hs ?h1 ?hi ?_); (case hw => rfl); (case hx => rfl); (case hm => first | exact at0 | exact at1 | exact at2 | exact at3 | exact at4 | exact at5 | exact at6); (case hy => rfl); (case hs => exact size64); (case h1 => first | exact rowL_one _ | exact nodeL_one _ | simp [Value.oneCell']); (case hi => rfl); intro _ hM; simp only [List.set_cons_zero, List.set_cons_succ] at hM; clear HM; have HM := Aside0.mk hM; clear hM)
                    | ((with_reducible refine' store_all (ty := 44) HM.out ?hw rfl ?hx ?hm _ ?hy ?hs ?h1 ?hi ?_); (case hw => rfl); (case hx => rfl); (case hm => first | exact at0 | exact at1 | exact at2 | exact at3 | exact at4 | exact at5 | exact at6); (case hy => rfl); (case hs => exact size44); (case h1 => first | exact rowL_one _ | exact nodeL_one _ | simp [Value.oneCell']); (case hi => rfl); intro _ hM; simp only [List.set_cons_zero, List.set_cons_succ] at hM; clear HM; have HM := Aside0.mk hM; clear hM)
                    | ((with_reducible refine' box_zero (ty := 35) HM.out ?hw rfl zero35 _ ?hc ?_); (case hw => rfl); (case hc => rfl); intro _ _ hM; clear HM; have HM := Aside0.mk hM; clear hM)
                    | ((with_reducible refine' box_zero (ty := 64) HM.out ?hw rfl zero64 _ ?hc ?_); (case hw => rfl); (case hc => rfl); intro _ _ hM; clear HM; have HM := Aside0.mk hM; clear hM)
                    | ((with_reducible refine' box_zero (ty := 44) HM.out ?hw rfl zero44 _ ?hc ?_); (case hw => rfl); (case hc => rfl); intro _ _ hM; clear HM; have HM := Aside0.mk hM; clear hM))
              clear hx0 hx1 hx2 hx3 hx4 hx5 hx6 hx7 hx8 hx9 hx10 hx11 hx12
              have hrow : ∀ (q : S44), [Value.string q.f0, .int .i64 q.f1, .int .i64 q.f2.f0, .int .i64 q.f2.f1, .int .i64 q.f2.f2, .int .i64 q.f2.f3, .int .i64 q.f2.f4, .string q.f2.f5, .string q.f2.f6, .string q.f2.f7, .slice none 0 0, .int .i64 q.f2.f8.f1, .bool q.f2.f9] = rowL q := fun _ => rfl
              rw [hrow] at HM
              clear hrow
              go_wp2_with (first
                    | go_skip
                    | ((with_reducible refine' load_cell HM.out ?hw rfl ?hx ?hm ?ha ?hv ?_); (case hw => rfl); (case hx => rfl); (case ha => exact nag _ (by decide)); (case hm => first | exact m0 | exact m1 | exact m2 | exact m3 | exact m4 | exact m5 | exact m6); (case hv => rfl))
                    | ((with_reducible refine' load_all (ty := 35) HM.out ?hw rfl ?hx ?hm agg35 ?hl ?_); (case hw => rfl); (case hx => rfl); (case hm => first | exact m0 | exact m1 | exact m2 | exact m3 | exact m4 | exact m5 | exact m6); (case hl => rfl))
                    | ((with_reducible refine' load_all (ty := 44) HM.out ?hw rfl ?hx ?hm agg44 ?hl ?_); (case hw => rfl); (case hx => rfl); (case hm => first | exact m0 | exact m1 | exact m2 | exact m3 | exact m4 | exact m5 | exact m6); (case hl => rfl))
                    | ((with_reducible refine' load_all (ty := 64) HM.out ?hw rfl ?hx ?hm agg64 ?hl ?_); (case hw => rfl); (case hx => rfl); (case hm => first | exact m0 | exact m1 | exact m2 | exact m3 | exact m4 | exact m5 | exact m6); (case hl => rfl))
                    | ((with_reducible refine' store_all (ty := 35) HM.out ?hw rfl ?hx ?hm _ ?hy ?hs ?h1 ?hi ?_); (case hw => rfl); (case hx => rfl); (case hm => first | exact at0 | exact at1 | exact at2 | exact at3 | exact at4 | exact at5 | exact at6); (case hy => rfl); (case hs => exact size35); (case h1 => first | exact rowL_one _ | exact nodeL_one _ | simp [Value.oneCell']); (case hi => rfl); intro _ hM; simp only [List.set_cons_zero, List.set_cons_succ] at hM; clear HM; have HM := Aside0.mk hM; clear hM)
                    | ((with_reducible refine' store_all (ty := 64) HM.out ?hw rfl ?hx ?hm _ ?hy ?hs ?h1 ?hi ?_); (case hw => rfl); (case hx => rfl); (case hm => first | exact at0 | exact at1 | exact at2 | exact at3 | exact at4 | exact at5 | exact at6); (case hy => rfl); (case hs => exact size64); (case h1 => first | exact rowL_one _ | exact nodeL_one _ | simp [Value.oneCell']); (case hi => rfl); intro _ hM; simp only [List.set_cons_zero, List.set_cons_succ] at hM; clear HM; have HM := Aside0.mk hM; clear hM)
                    | ((with_reducible refine' store_all (ty := 44) HM.out ?hw rfl ?hx ?hm _ ?hy ?hs ?h1 ?hi ?_); (case hw => rfl); (case hx => rfl); (case hm => first | exact at0 | exact at1 | exact at2 | exact at3 | exact at4 | exact at5 | exact at6); (case hy => rfl); (case hs => exact size44); (case h1 => first | exact rowL_one _ | exact nodeL_one _ | simp [Value.oneCell']); (case hi => rfl); intro _ hM; simp only [List.set_cons_zero, List.set_cons_succ] at hM; clear HM; have HM := Aside0.mk hM; clear hM)
                    | ((with_reducible refine' box_zero (ty := 35) HM.out ?hw rfl zero35 _ ?hc ?_); (case hw => rfl); (case hc => rfl); intro _ _ hM; clear HM; have HM := Aside0.mk hM; clear hM)
                    | ((with_reducible refine' box_zero (ty := 64) HM.out ?hw rfl zero64 _ ?hc ?_); (case hw => rfl); (case hc => rfl); intro _ _ hM; clear HM; have HM := Aside0.mk hM; clear hM)
                    | ((with_reducible refine' box_zero (ty := 44) HM.out ?hw rfl zero44 _ ?hc ?_); (case hw => rfl); (case hc => rfl); intro _ _ hM; clear HM; have HM := Aside0.mk hM; clear hM)
                    | (go_at_call 23; (refine (get_rowN HM.out ?hS HIA.out HCa.out (by have := HLA.out; omega) HY.out HX.out).mono ?_); (case hS => exact fun _ h => h.1.1.2); rintro e _ ⟨rfl, hM⟩; clear HM; have HM := Aside0.mk hM; clear hM))
              go_roundw
              case rel => exact ⟨i + 1, by go_num, ⟨by omega⟩, ⟨HM.out.drop.drop⟩⟩
              case measure => simp [intOf]; omega
            | some o =>
              have b5 : (o.f2.f0 == 4) = (y.f2.f0 == 4) := HKY.out o HX.out
              go_upto_region 20 with (first
                    | go_skip
                    | ((with_reducible refine' load_cell HM.out ?hw rfl ?hx ?hm ?ha ?hv ?_); (case hw => rfl); (case hx => rfl); (case ha => exact nag _ (by decide)); (case hm => first | exact m0 | exact m1 | exact m2 | exact m3 | exact m4 | exact m5 | exact m6); (case hv => rfl))
                    | ((with_reducible refine' load_all (ty := 35) HM.out ?hw rfl ?hx ?hm agg35 ?hl ?_); (case hw => rfl); (case hx => rfl); (case hm => first | exact m0 | exact m1 | exact m2 | exact m3 | exact m4 | exact m5 | exact m6); (case hl => rfl))
                    | ((with_reducible refine' load_all (ty := 44) HM.out ?hw rfl ?hx ?hm agg44 ?hl ?_); (case hw => rfl); (case hx => rfl); (case hm => first | exact m0 | exact m1 | exact m2 | exact m3 | exact m4 | exact m5 | exact m6); (case hl => rfl))
                    | ((with_reducible refine' load_all (ty := 64) HM.out ?hw rfl ?hx ?hm agg64 ?hl ?_); (case hw => rfl); (case hx => rfl); (case hm => first | exact m0 | exact m1 | exact m2 | exact m3 | exact m4 | exact m5 | exact m6); (case hl => rfl))
                    | ((with_reducible refine' store_all (ty := 35) HM.out ?hw rfl ?hx ?hm _ ?hy ?hs ?h1 ?hi ?_); (case hw => rfl); (case hx => rfl); (case hm => first | exact at0 | exact at1 | exact at2 | exact at3 | exact at4 | exact at5 | exact at6); (case hy => rfl); (case hs => exact size35); (case h1 => first | exact rowL_one _ | exact nodeL_one _ | simp [Value.oneCell']); (case hi => rfl); intro _ hM; simp only [List.set_cons_zero, List.set_cons_succ] at hM; clear HM; have HM := Aside0.mk hM; clear hM)
                    | ((with_reducible refine' store_all (ty := 64) HM.out ?hw rfl ?hx ?hm _ ?hy ?hs ?h1 ?hi ?_); (case hw => rfl); (case hx => rfl); (case hm => first | exact at0 | exact at1 | exact at2 | exact at3 | exact at4 | exact at5 | exact at6); (case hy => rfl); (case hs => exact size64); (case h1 => first | exact rowL_one _ | exact nodeL_one _ | simp [Value.oneCell']); (case hi => rfl); intro _ hM; simp only [List.set_cons_zero, List.set_cons_succ] at hM; clear HM; have HM := Aside0.mk hM; clear hM)
                    | ((with_reducible refine' store_all (ty := 44) HM.out ?hw rfl ?hx ?hm _ ?hy ?hs ?h1 ?hi ?_); (case hw => rfl); (case hx => rfl); (case hm => first | exact at0 | exact at1 | exact at2 | exact at3 | exact at4 | exact at5 | exact at6); (case hy => rfl); (case hs => exact size44); (case h1 => first | exact rowL_one _ | exact nodeL_one _ | simp [Value.oneCell']); (case hi => rfl); intro _ hM; simp only [List.set_cons_zero, List.set_cons_succ] at hM; clear HM; have HM := Aside0.mk hM; clear hM)
                    | ((with_reducible refine' box_zero (ty := 35) HM.out ?hw rfl zero35 _ ?hc ?_); (case hw => rfl); (case hc => rfl); intro _ _ hM; clear HM; have HM := Aside0.mk hM; clear hM)
                    | ((with_reducible refine' box_zero (ty := 64) HM.out ?hw rfl zero64 _ ?hc ?_); (case hw => rfl); (case hc => rfl); intro _ _ hM; clear HM; have HM := Aside0.mk hM; clear hM)
                    | ((with_reducible refine' box_zero (ty := 44) HM.out ?hw rfl zero44 _ ?hc ?_); (case hw => rfl); (case hc => rfl); intro _ _ hM; clear HM; have HM := Aside0.mk hM; clear hM))
              clear hx0 hx1 hx2 hx3 hx4 hx5 hx6 hx7 hx8 hx9 hx10 hx11 hx12
              have hrow : ∀ (q : S44), [Value.string q.f0, .int .i64 q.f1, .int .i64 q.f2.f0, .int .i64 q.f2.f1, .int .i64 q.f2.f2, .int .i64 q.f2.f3, .int .i64 q.f2.f4, .string q.f2.f5, .string q.f2.f6, .string q.f2.f7, .slice none 0 0, .int .i64 q.f2.f8.f1, .bool q.f2.f9] = rowL q := fun _ => rfl
              rw [hrow] at HM
              clear hrow
              go_wp2_with (first
                    | go_skip
                    | ((with_reducible refine' load_cell HM.out ?hw rfl ?hx ?hm ?ha ?hv ?_); (case hw => rfl); (case hx => rfl); (case ha => exact nag _ (by decide)); (case hm => first | exact m0 | exact m1 | exact m2 | exact m3 | exact m4 | exact m5 | exact m6); (case hv => rfl))
                    | ((with_reducible refine' load_all (ty := 35) HM.out ?hw rfl ?hx ?hm agg35 ?hl ?_); (case hw => rfl); (case hx => rfl); (case hm => first | exact m0 | exact m1 | exact m2 | exact m3 | exact m4 | exact m5 | exact m6); (case hl => rfl))
                    | ((with_reducible refine' load_all (ty := 44) HM.out ?hw rfl ?hx ?hm agg44 ?hl ?_); (case hw => rfl); (case hx => rfl); (case hm => first | exact m0 | exact m1 | exact m2 | exact m3 | exact m4 | exact m5 | exact m6); (case hl => rfl))
                    | ((with_reducible refine' load_all (ty := 64) HM.out ?hw rfl ?hx ?hm agg64 ?hl ?_); (case hw => rfl); (case hx => rfl); (case hm => first | exact m0 | exact m1 | exact m2 | exact m3 | exact m4 | exact m5 | exact m6); (case hl => rfl))
                    | ((with_reducible refine' store_all (ty := 35) HM.out ?hw rfl ?hx ?hm _ ?hy ?hs ?h1 ?hi ?_); (case hw => rfl); (case hx => rfl); (case hm => first | exact at0 | exact at1 | exact at2 | exact at3 | exact at4 | exact at5 | exact at6); (case hy => rfl); (case hs => exact size35); (case h1 => first | exact rowL_one _ | exact nodeL_one _ | simp [Value.oneCell']); (case hi => rfl); intro _ hM; simp only [List.set_cons_zero, List.set_cons_succ] at hM; clear HM; have HM := Aside0.mk hM; clear hM)
                    | ((with_reducible refine' store_all (ty := 64) HM.out ?hw rfl ?hx ?hm _ ?hy ?hs ?h1 ?hi ?_); (case hw => rfl); (case hx => rfl); (case hm => first | exact at0 | exact at1 | exact at2 | exact at3 | exact at4 | exact at5 | exact at6); (case hy => rfl); (case hs => exact size64); (case h1 => first | exact rowL_one _ | exact nodeL_one _ | simp [Value.oneCell']); (case hi => rfl); intro _ hM; simp only [List.set_cons_zero, List.set_cons_succ] at hM; clear HM; have HM := Aside0.mk hM; clear hM)
                    | ((with_reducible refine' store_all (ty := 44) HM.out ?hw rfl ?hx ?hm _ ?hy ?hs ?h1 ?hi ?_); (case hw => rfl); (case hx => rfl); (case hm => first | exact at0 | exact at1 | exact at2 | exact at3 | exact at4 | exact at5 | exact at6); (case hy => rfl); (case hs => exact size44); (case h1 => first | exact rowL_one _ | exact nodeL_one _ | simp [Value.oneCell']); (case hi => rfl); intro _ hM; simp only [List.set_cons_zero, List.set_cons_succ] at hM; clear HM; have HM := Aside0.mk hM; clear hM)
                    | ((with_reducible refine' box_zero (ty := 35) HM.out ?hw rfl zero35 _ ?hc ?_); (case hw => rfl); (case hc => rfl); intro _ _ hM; clear HM; have HM := Aside0.mk hM; clear hM)
                    | ((with_reducible refine' box_zero (ty := 64) HM.out ?hw rfl zero64 _ ?hc ?_); (case hw => rfl); (case hc => rfl); intro _ _ hM; clear HM; have HM := Aside0.mk hM; clear hM)
                    | ((with_reducible refine' box_zero (ty := 44) HM.out ?hw rfl zero44 _ ?hc ?_); (case hw => rfl); (case hc => rfl); intro _ _ hM; clear HM; have HM := Aside0.mk hM; clear hM)
                    | (go_at_call 23; (refine (get_rowS HM.out ?hS HIA.out HCa.out (by have := HLA.out; omega) HY.out HX.out).mono ?_); (case hS => exact fun _ h => h.1.1.2); rintro e _ ⟨rfl, hM⟩; clear HM; have HM := Aside0.mk hM; clear hM))
              go_roundw
              case rel => exact ⟨i + 1, by go_num, ⟨by omega⟩, ⟨HM.out.drop.drop⟩⟩
              case measure => simp [intOf]; omega
          · have hil : i = t.length := by have := HIX.out; omega
            have hlz : ¬ ((i : Int) < (t.length : Int)) := by omega
            go_wp2_with (first
              | go_skip
              | ((with_reducible refine' load_cell HM.out ?hw rfl ?hx ?hm ?ha ?hv ?_); (case hw => rfl); (case hx => rfl); (case ha => exact nag _ (by decide)); (case hm => first | exact m0 | exact m1 | exact m2 | exact m3 | exact m4 | exact m5 | exact m6); (case hv => rfl))
              | ((with_reducible refine' load_all (ty := 35) HM.out ?hw rfl ?hx ?hm agg35 ?hl ?_); (case hw => rfl); (case hx => rfl); (case hm => first | exact m0 | exact m1 | exact m2 | exact m3 | exact m4 | exact m5 | exact m6); (case hl => rfl))
              | ((with_reducible refine' load_all (ty := 44) HM.out ?hw rfl ?hx ?hm agg44 ?hl ?_); (case hw => rfl); (case hx => rfl); (case hm => first | exact m0 | exact m1 | exact m2 | exact m3 | exact m4 | exact m5 | exact m6); (case hl => rfl))
              | ((with_reducible refine' load_all (ty := 64) HM.out ?hw rfl ?hx ?hm agg64 ?hl ?_); (case hw => rfl); (case hx => rfl); (case hm => first | exact m0 | exact m1 | exact m2 | exact m3 | exact m4 | exact m5 | exact m6); (case hl => rfl))
              | ((with_reducible refine' store_all (ty := 35) HM.out ?hw rfl ?hx ?hm _ ?hy ?hs ?h1 ?hi ?_); (case hw => rfl); (case hx => rfl); (case hm => first | exact at0 | exact at1 | exact at2 | exact at3 | exact at4 | exact at5 | exact at6); (case hy => rfl); (case hs => exact size35); (case h1 => first | exact rowL_one _ | exact nodeL_one _ | simp [Value.oneCell']); (case hi => rfl); intro _ hM; simp only [List.set_cons_zero, List.set_cons_succ] at hM; clear HM; have HM := Aside0.mk hM; clear hM)
              | ((with_reducible refine' store_all (ty := 64) HM.out ?hw rfl ?hx ?hm _ ?hy ?hs ?h1 ?hi ?_); (case hw => rfl); (case hx => rfl); (case hm => first | exact at0 | exact at1 | exact at2 | exact at3 | exact at4 | exact at5 | exact at6); (case hy => rfl); (case hs => exact size64); (case h1 => first | exact rowL_one _ | exact nodeL_one _ | simp [Value.oneCell']); (case hi => rfl); intro _ hM; simp only [List.set_cons_zero, List.set_cons_succ] at hM; clear HM; have HM := Aside0.mk hM; clear hM)
              | ((with_reducible refine' store_all (ty := 44) HM.out ?hw rfl ?hx ?hm _ ?hy ?hs ?h1 ?hi ?_); (case hw => rfl); (case hx => rfl); (case hm => first | exact at0 | exact at1 | exact at2 | exact at3 | exact at4 | exact at5 | exact at6); (case hy => rfl); (case hs => exact size44); (case h1 => first | exact rowL_one _ | exact nodeL_one _ | simp [Value.oneCell']); (case hi => rfl); intro _ hM; simp only [List.set_cons_zero, List.set_cons_succ] at hM; clear HM; have HM := Aside0.mk hM; clear hM)
              | ((with_reducible refine' box_zero (ty := 35) HM.out ?hw rfl zero35 _ ?hc ?_); (case hw => rfl); (case hc => rfl); intro _ _ hM; clear HM; have HM := Aside0.mk hM; clear hM)
              | ((with_reducible refine' box_zero (ty := 64) HM.out ?hw rfl zero64 _ ?hc ?_); (case hw => rfl); (case hc => rfl); intro _ _ hM; clear HM; have HM := Aside0.mk hM; clear hM)
              | ((with_reducible refine' box_zero (ty := 44) HM.out ?hw rfl zero44 _ ?hc ?_); (case hw => rfl); (case hc => rfl); intro _ _ hM; clear HM; have HM := Aside0.mk hM; clear hM))
            go_ret
            exact ⟨rfl, HM.out.below⟩

end Go.Proofs.YtolpamojbiipaaaDoor.XA
