/- tree.Contents, walked by hand over Mem. Printed by wip/tools/gen_contents.py. -/
import Derived.Test.YtolpamojbiipaaaDoorEMemMap
namespace Go.Proofs.YtolpamojbiipaaaDoor.XA
open Go.RowKit Go.Proofs.YtolpamojbiipaaaDoorW.PrintWords Go.Proofs.YtolpamojbiipaaaDoorW.PrintLast Go.Proofs.YtolpamojbiipaaaDoorW.PrintMore Go.Proofs.YtolpamojbiipaaaDoor.Mem Go.Proofs.YtolpamojbiipaaaDoor.Pure
set_option linter.unusedVariables false
set_option linter.unusedSimpArgs false

theorem cont_of (r : S44) : ((rowL r).drop 10).take 2 = [.slice none 0 0, .int .i64 r.f2.f8.f1] := rfl
/-- The contents of the files of some rows: by numbers; how many. -/
def conGo (q : (Int → Option Int) × Nat) (r : S44) : (Int → Option Int) × Nat := if r.f2.f0 = 1 then (putF q.1 r.f1 r.f2.f8.f1, putN q.1 q.2 r.f1) else q
def con (l : List S44) : (Int → Option Int) × Nat := l.foldl conGo (fun _ => none, 0)
set_option maxHeartbeats 8000000 in
set_option maxRecDepth 100000 in
theorem contents_walk (w : World) (P : Nat → Prop) (A : Option Addr) (c : Nat) (l : List S44) (n : Int) (hF : ∀ W', (∀ k, k < w.heap.size → P k → W'.heap[k]? = w.heap[k]?) → Tr A l W') (hl : l.length ≤ 900000) (hids : ∀ r ∈ l, (Lit.int .i64 r.f1).wf = true) :
    Calls Tryd.prog 35 #[.agg #[.slice A l.length c, .int .i64 n]] w fun e w' => ∃ b, e = .returned (.map (some b)) ∧ w.heap.size ≤ b ∧ MapC w' b 900000 (con l).1 (con l).2 ∧ Below w.heap.size w w' := by
  have HM : Aside0 (Mem w P w [] (Tr A l)) := ⟨Mem.start hF⟩
  have HS := Aside0.mk hF
  have HI := Aside0.mk hids
  have hlz0 : (l.length : Int) ≤ 900000 := by omega
  clear hF hids
  go_enter Tryd.func35, Tryd.ntmps35
  go_wp2_with (first
      | go_skip
      | ((with_reducible refine' load_cell HM.out ?hw rfl ?hx ?hm ?ha ?hv ?_); (case hw => rfl); (case hx => rfl); (case ha => exact nag _ (by decide)); (case hm => first | exact m0 | exact m1 | exact m2); (case hv => rfl))
      | ((with_reducible refine' load_all (ty := 35) HM.out ?hw rfl ?hx ?hm agg35 ?hl ?_); (case hw => rfl); (case hx => rfl); (case hm => first | exact m0 | exact m1 | exact m2); (case hl => rfl))
      | ((with_reducible refine' load_part (ty := 40) HM.out ?hw rfl ?hx ?hm agg40 _ (cont_of _) rfl ?_); (case hw => rfl); (case hx => rfl); (case hm => first | exact m0 | exact m1 | exact m2))
      | ((with_reducible refine' store_all (ty := 44) HM.out ?hw rfl ?hx ?hm _ ?hy ?hs ?h1 ?hi ?_); (case hw => rfl); (case hx => rfl); (case hm => first | exact at0 | exact at1 | exact at2); (case hy => rfl); (case hs => exact size44); (case h1 => first | exact rowL_one _ | exact nodeL_one _ | simp [Value.oneCell']); (case hi => rfl); intro _ hM; simp only [List.set_cons_zero, List.set_cons_succ] at hM; clear HM; have HM := Aside0.mk hM; clear hM)
      | ((with_reducible refine' box_zero (ty := 44) HM.out ?hw rfl zero44 _ ?hc ?_); (case hw => rfl); (case hc => rfl); intro _ _ hM; clear HM; have HM := Aside0.mk hM; clear hM)
      | ((with_reducible refine gate_dst (N := 1) rfl ?_); (with_reducible refine' box_new HM.out ?hw rfl _ ?hx ?_); (case hw => rfl); (case hx => rfl); intro g1 _ hM; clear HM; have HM := Aside0.mk hM; clear hM)
      | ((with_reducible refine' make_map HM.out ?hw rfl ?_); (case hw => rfl); intro b _ hb hM; clear HM; have HM := Aside0.mk hM; clear hM; have HB := Aside0.mk hb; clear hb))
  go_loopw [10] (fun v10 wr => ∃ (i k : Nat), v10 = .int .i64 i ∧ Aside0 (i ≤ l.length) ∧ Aside0 (k ≤ i) ∧
    Aside0 (Mem w P wr [(g1, [.slice A l.length c, .int .i64 n], 35)] (fun w => Tr A l w ∧ True ∧ MapC w b k (con (l.take i)).1 (con (l.take i)).2))) (fun v10 _ => l.length - (intOf v10).toNat)
  case atStart => exact ⟨0, 0, rfl, ⟨Nat.zero_le _⟩, ⟨Nat.le_refl _⟩, ⟨HM.out.imp (fun w h => ⟨h.1, trivial, h.2⟩)⟩⟩
  case round =>
    clear HM
    obtain ⟨i, k, rfl, HIX, HK, HM⟩ := hrel
    have hib : (i : Int) ≤ 900000 := by have := HIX.out; omega
    have HNB := Aside0.mk (show k ≤ 1000000 by have := HK.out; have := HIX.out; omega)
    by_cases hlt : i < l.length
    · have hlz : (i : Int) < (l.length : Int) := by omega
      obtain ⟨ad, ea, hx0, hx1, hx2, hx3, hx4, hx5, hx6, hx7, hx8, hx9, hx10, hx11, hx12⟩ := at_T44 HM.out.now.1 (i : Int) (by omega) (by omega)
      have hrd : rd_T44 l (i : Int) = l[i] := by unfold rd_T44; rw [Int.toNat_natCast, List.getD_eq_getElem?_getD, List.getElem?_eq_getElem hlt]; rfl
      have hsucc : con (l.take (i + 1)) = conGo (con (l.take i)) l[i] := by unfold con; rw [List.take_succ_eq_append_getElem hlt, List.foldl_append]; rfl
      have HWF := Aside0.mk (HI.out _ (List.getElem_mem hlt))
      rw [Int.toNat_natCast, hrd] at hx0 hx1 hx2 hx3 hx4 hx5 hx6 hx7 hx8 hx9 hx11 hx12
      rw [Int.toNat_natCast] at hx10
      generalize l[i] = y at hx0 hx1 hx2 hx3 hx4 hx5 hx6 hx7 hx8 hx9 hx11 hx12 hsucc HWF
      have HSU := Aside0.mk hsucc
      clear hrd hsucc
      subst ea
      go_upto_region 5 with (first
      | go_skip
      | ((with_reducible refine' load_cell HM.out ?hw rfl ?hx ?hm ?ha ?hv ?_); (case hw => rfl); (case hx => rfl); (case ha => exact nag _ (by decide)); (case hm => first | exact m0 | exact m1 | exact m2); (case hv => rfl))
      | ((with_reducible refine' load_all (ty := 35) HM.out ?hw rfl ?hx ?hm agg35 ?hl ?_); (case hw => rfl); (case hx => rfl); (case hm => first | exact m0 | exact m1 | exact m2); (case hl => rfl))
      | ((with_reducible refine' load_part (ty := 40) HM.out ?hw rfl ?hx ?hm agg40 _ (cont_of _) rfl ?_); (case hw => rfl); (case hx => rfl); (case hm => first | exact m0 | exact m1 | exact m2))
      | ((with_reducible refine' store_all (ty := 44) HM.out ?hw rfl ?hx ?hm _ ?hy ?hs ?h1 ?hi ?_); (case hw => rfl); (case hx => rfl); (case hm => first | exact at0 | exact at1 | exact at2); (case hy => rfl); (case hs => exact size44); (case h1 => first | exact rowL_one _ | exact nodeL_one _ | simp [Value.oneCell']); (case hi => rfl); intro _ hM; simp only [List.set_cons_zero, List.set_cons_succ] at hM; clear HM; have HM := Aside0.mk hM; clear hM)
      | ((with_reducible refine' box_zero (ty := 44) HM.out ?hw rfl zero44 _ ?hc ?_); (case hw => rfl); (case hc => rfl); intro _ _ hM; clear HM; have HM := Aside0.mk hM; clear hM)
      | ((with_reducible refine gate_dst (N := 1) rfl ?_); (with_reducible refine' box_new HM.out ?hw rfl _ ?hx ?_); (case hw => rfl); (case hx => rfl); intro g1 _ hM; clear HM; have HM := Aside0.mk hM; clear hM))
      clear hx0 hx1 hx2 hx3 hx4 hx5 hx6 hx7 hx8 hx9 hx10 hx11 hx12
      have hrow : ∀ (q : S44), [Value.string q.f0, .int .i64 q.f1, .int .i64 q.f2.f0, .int .i64 q.f2.f1, .int .i64 q.f2.f2, .int .i64 q.f2.f3, .int .i64 q.f2.f4, .string q.f2.f5, .string q.f2.f6, .string q.f2.f7, .slice none 0 0, .int .i64 q.f2.f8.f1, .bool q.f2.f9] = rowL q := fun _ => rfl
      rw [hrow] at HM
      clear hrow
      by_cases h1 : y.f2.f0 = 1
      · have b1 : (y.f2.f0 == 1) = true := beq_iff_eq.2 h1
        have hco : conGo (con (l.take i)) y = (putF (con (l.take i)).1 y.f1 y.f2.f8.f1, putN (con (l.take i)).1 (con (l.take i)).2 y.f1) := if_pos h1
        rw [hco] at HSU
        clear hco h1
        go_wp2_with (first
      | go_skip
      | ((with_reducible refine' load_cell HM.out ?hw rfl ?hx ?hm ?ha ?hv ?_); (case hw => rfl); (case hx => rfl); (case ha => exact nag _ (by decide)); (case hm => first | exact m0 | exact m1 | exact m2); (case hv => rfl))
      | ((with_reducible refine' load_all (ty := 35) HM.out ?hw rfl ?hx ?hm agg35 ?hl ?_); (case hw => rfl); (case hx => rfl); (case hm => first | exact m0 | exact m1 | exact m2); (case hl => rfl))
      | ((with_reducible refine' load_part (ty := 40) HM.out ?hw rfl ?hx ?hm agg40 _ (cont_of _) rfl ?_); (case hw => rfl); (case hx => rfl); (case hm => first | exact m0 | exact m1 | exact m2))
      | ((with_reducible refine' store_all (ty := 44) HM.out ?hw rfl ?hx ?hm _ ?hy ?hs ?h1 ?hi ?_); (case hw => rfl); (case hx => rfl); (case hm => first | exact at0 | exact at1 | exact at2); (case hy => rfl); (case hs => exact size44); (case h1 => first | exact rowL_one _ | exact nodeL_one _ | simp [Value.oneCell']); (case hi => rfl); intro _ hM; simp only [List.set_cons_zero, List.set_cons_succ] at hM; clear HM; have HM := Aside0.mk hM; clear hM)
      | ((with_reducible refine' box_zero (ty := 44) HM.out ?hw rfl zero44 _ ?hc ?_); (case hw => rfl); (case hc => rfl); intro _ _ hM; clear HM; have HM := Aside0.mk hM; clear hM)
      | ((with_reducible refine gate_dst (N := 1) rfl ?_); (with_reducible refine' box_new HM.out ?hw rfl _ ?hx ?_); (case hw => rfl); (case hx => rfl); intro g1 _ hM; clear HM; have HM := Aside0.mk hM; clear hM)
      | (at_mapUpdate; ((with_reducible refine' update_map (K := []) (Φ := fun _ => True) HM.out HS.out (fun _ _ _ h => h) (fun k hk => absurd hk List.not_mem_nil) HB.out HNB.out rfl rfl ?hm ?hx HWF.out ?hv ?_); (case hm => rfl); (case hx => rfl); (case hv => rfl); intro _ hM; clear HM; have HM := Aside0.mk hM; clear hM)))
        go_roundw
        case rel => exact ⟨i + 1, k + 1, by go_num, ⟨by omega⟩, ⟨by have := HK.out; omega⟩, ⟨by rw [HSU.out]; exact HM.out.drop⟩⟩
        case measure => simp [intOf]; omega
      · have b1 : (y.f2.f0 == 1) = false := beq_eq_false_iff_ne.2 h1
        have hco : conGo (con (l.take i)) y = con (l.take i) := if_neg h1
        rw [hco] at HSU
        clear hco h1
        go_wp2_with (first
      | go_skip
      | ((with_reducible refine' load_cell HM.out ?hw rfl ?hx ?hm ?ha ?hv ?_); (case hw => rfl); (case hx => rfl); (case ha => exact nag _ (by decide)); (case hm => first | exact m0 | exact m1 | exact m2); (case hv => rfl))
      | ((with_reducible refine' load_all (ty := 35) HM.out ?hw rfl ?hx ?hm agg35 ?hl ?_); (case hw => rfl); (case hx => rfl); (case hm => first | exact m0 | exact m1 | exact m2); (case hl => rfl))
      | ((with_reducible refine' load_part (ty := 40) HM.out ?hw rfl ?hx ?hm agg40 _ (cont_of _) rfl ?_); (case hw => rfl); (case hx => rfl); (case hm => first | exact m0 | exact m1 | exact m2))
      | ((with_reducible refine' store_all (ty := 44) HM.out ?hw rfl ?hx ?hm _ ?hy ?hs ?h1 ?hi ?_); (case hw => rfl); (case hx => rfl); (case hm => first | exact at0 | exact at1 | exact at2); (case hy => rfl); (case hs => exact size44); (case h1 => first | exact rowL_one _ | exact nodeL_one _ | simp [Value.oneCell']); (case hi => rfl); intro _ hM; simp only [List.set_cons_zero, List.set_cons_succ] at hM; clear HM; have HM := Aside0.mk hM; clear hM)
      | ((with_reducible refine' box_zero (ty := 44) HM.out ?hw rfl zero44 _ ?hc ?_); (case hw => rfl); (case hc => rfl); intro _ _ hM; clear HM; have HM := Aside0.mk hM; clear hM)
      | ((with_reducible refine gate_dst (N := 1) rfl ?_); (with_reducible refine' box_new HM.out ?hw rfl _ ?hx ?_); (case hw => rfl); (case hx => rfl); intro g1 _ hM; clear HM; have HM := Aside0.mk hM; clear hM))
        go_roundw
        case rel => exact ⟨i + 1, k, by go_num, ⟨by omega⟩, ⟨by have := HK.out; omega⟩, ⟨by rw [HSU.out]; exact HM.out.drop⟩⟩
        case measure => simp [intOf]; omega
    · have hil : i = l.length := by have := HIX.out; omega
      have hlz : ¬ ((i : Int) < (l.length : Int)) := by omega
      go_wp2_with (first
      | go_skip
      | ((with_reducible refine' load_cell HM.out ?hw rfl ?hx ?hm ?ha ?hv ?_); (case hw => rfl); (case hx => rfl); (case ha => exact nag _ (by decide)); (case hm => first | exact m0 | exact m1 | exact m2); (case hv => rfl))
      | ((with_reducible refine' load_all (ty := 35) HM.out ?hw rfl ?hx ?hm agg35 ?hl ?_); (case hw => rfl); (case hx => rfl); (case hm => first | exact m0 | exact m1 | exact m2); (case hl => rfl))
      | ((with_reducible refine' load_part (ty := 40) HM.out ?hw rfl ?hx ?hm agg40 _ (cont_of _) rfl ?_); (case hw => rfl); (case hx => rfl); (case hm => first | exact m0 | exact m1 | exact m2))
      | ((with_reducible refine' store_all (ty := 44) HM.out ?hw rfl ?hx ?hm _ ?hy ?hs ?h1 ?hi ?_); (case hw => rfl); (case hx => rfl); (case hm => first | exact at0 | exact at1 | exact at2); (case hy => rfl); (case hs => exact size44); (case h1 => first | exact rowL_one _ | exact nodeL_one _ | simp [Value.oneCell']); (case hi => rfl); intro _ hM; simp only [List.set_cons_zero, List.set_cons_succ] at hM; clear HM; have HM := Aside0.mk hM; clear hM)
      | ((with_reducible refine' box_zero (ty := 44) HM.out ?hw rfl zero44 _ ?hc ?_); (case hw => rfl); (case hc => rfl); intro _ _ hM; clear HM; have HM := Aside0.mk hM; clear hM)
      | ((with_reducible refine gate_dst (N := 1) rfl ?_); (with_reducible refine' box_new HM.out ?hw rfl _ ?hx ?_); (case hw => rfl); (case hx => rfl); intro g1 _ hM; clear HM; have HM := Aside0.mk hM; clear hM))
      go_ret
      subst hil
      rw [List.take_length] at HM
      obtain ⟨_, _, k0, D, h0, h1, h2, h3⟩ := HM.out.now
      exact ⟨b, rfl, HB.out, ⟨k0, D, h0, by have := HK.out; omega, h2, h3⟩, HM.out.below⟩
theorem contents_M {w0 W : World} {P : Nat → Prop} {B : List Bx} {S : World → Prop} {A : Option Addr} {c : Nat} {l : List S44} {n m : Int} (HM : Mem w0 P W B S) (hS : ∀ w, S w → Tr A l w) (hI : ∀ r ∈ l, 0 ≤ r.f1 ∧ r.f1 < m) (hl : l.length ≤ 900000) (hm : m ≤ 900000) :
    Calls Tryd.prog 35 #[.agg #[.slice A l.length c, .int .i64 n]] W fun e w' => ∃ b, e = .returned (.map (some b)) ∧ W.heap.size ≤ b ∧ w0.heap.size ≤ b ∧ Mem w0 P w' B (fun w => S w ∧ MapC w b 900000 (con l).1 (con l).2) := by
  refine (contents_walk W (fun k => k ∉ B.map (·.1) ∧ (P k ∨ w0.heap.size ≤ k)) A c l n (fun W' hW => hS _ (HM.old W' (fun k hk hp => hW k hk hp))) hl (fun r hr => by
    have h2 := hI r hr
    simp only [Lit.wf, IntKind.min, IntKind.max, IntKind.signed, IntKind.bits, Bool.and_eq_true, decide_eq_true_eq]
    simp
    omega)).mono ?_
  rintro e w' ⟨b, rfl, hb, hmap, hbl⟩
  exact ⟨b, rfl, hb, Nat.le_trans HM.below.size hb, HM.add hbl (fun W' h => hmap.same (h b hmap.lt (.inr hb)))⟩
set_option maxHeartbeats 4000000 in
set_option maxRecDepth 100000 in
theorem files_M {w0 W : World} {P : Nat → Prop} {B : List Bx} {S : World → Prop} {A : Option Addr} {c : Nat} {l : List S44} {n m : Int} (hM : Mem w0 P W B S) (hS : ∀ w, S w → Tr A l w) (hI : ∀ r ∈ l, 0 ≤ r.f1 ∧ r.f1 < m) (hl : l.length ≤ 900000) (hm : m ≤ 900000) :
    Calls Tryd.prog 33 #[.agg #[.slice A l.length c, .int .i64 n]] W fun e w' => e = .returned (.int .i64 (con l).2) ∧ Mem w0 P w' B S := by
  have HM := Aside0.mk hM
  have HS := Aside0.mk hS
  have HI := Aside0.mk hI
  have HL := Aside0.mk hl
  have HN := Aside0.mk hm
  clear hM hS hI hl hm
  go_enter Tryd.func33, Tryd.ntmps33
  go_wp2_with (first
      | go_skip
      | ((with_reducible refine' load_all (ty := 35) HM.out ?hw rfl ?hx ?hm agg35 ?hl ?_); (case hw => rfl); (case hx => rfl); (case hm => first | exact m0 | exact m1); (case hl => rfl))
      | ((with_reducible refine gate_dst (N := 1) rfl ?_); (with_reducible refine' box_new HM.out ?hw rfl _ ?hx ?_); (case hw => rfl); (case hx => rfl); intro g1 _ hM; clear HM; have HM := Aside0.mk hM; clear hM)
      | (go_at_call 35; (refine (contents_M HM.out HS.out HI.out HL.out HN.out).mono ?_); rintro e _ ⟨b, rfl, hb, _, hM⟩; have HB := Aside0.mk hb; clear hb; clear HM; have HM := Aside0.mk hM; clear hM)
      | (at_len; ((with_reducible refine' len_map HM.out.now.2 rfl rfl ?hm ?_); (case hm => rfl))))
  go_ret
  exact ⟨rfl, HM.out.drop.imp (fun w h => h.1)⟩
end Go.Proofs.YtolpamojbiipaaaDoor.XA
