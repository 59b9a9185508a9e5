/- merge.Gone, walked by hand over Mem. Printed by wip/tools/gen_gone.py. -/
import Derived.Test.YtolpamojbiipaaaDoorEContents
import Derived.Test.YtolpamojbiipaaaDoorEMemRange
import Derived.Test.YtolpamojbiipaaaDoorEMemRow
namespace Go.Proofs.YtolpamojbiipaaaDoor.XA
open Go.RowKit Go.Proofs.YtolpamojbiipaaaDoorW.PrintWords Go.Proofs.YtolpamojbiipaaaDoorW.PrintLast Go.Proofs.YtolpamojbiipaaaDoorW.PrintMore Go.Proofs.YtolpamojbiipaaaDoor.Mem Go.Proofs.YtolpamojbiipaaaDoor.Pure
set_option linter.unusedVariables false
set_option linter.unusedSimpArgs false

/-- The sizes of what is in g, by rows, each number once. -/
def goneGo : List S44 → (Int → Option Int) → List Int
  | [], _ => []
  | r :: t, g => match g r.f1 with | some z => z :: goneGo t (delF g r.f1) | none => goneGo t g
def goneF (l l2 : List S44) : Int → Option Int := fun x => if ((con l2).1 x).isSome then none else (con l).1 x
def contsL (xs : List Int) : List Value := (xs.map (fun z => [Value.slice none 0 0, Value.int .i64 z])).flatten
theorem contsL_app (xs : List Int) (z : Int) : contsL (xs ++ [z]) = contsL xs ++ [.slice none 0 0, .int .i64 z] := by simp [contsL]
/-- A row of contents that lies in w. -/
def Ct (A : Option Addr) (xs : List Int) (w : World) : Prop := xs = [] ∨ ∃ g sp, A = some ⟨g, 0, none⟩ ∧ w.heap[g]? = some (.cells (contsL xs ++ sp).toArray 40 (0, 0))
theorem info40 : (Tryd.prog.info? 40).map (fun i => (i.zero, i.size, i.bytes)) = some (some (.agg #[.slice none 0 0, .int .i64 0]), 2, 32) := by kernel_rfl
theorem lookup_some {W : World} {b n m : Nat} {f : Int → Option Int} {i z : Int} {ops : Array Oper} {rest : List Oper} {o : Oper} {a : Act} {Q : Exit → Act → World → Prop} {mo x : Operand} (hmap : MapC W b n f m) (hg : o.guard = none) (ho : o.op = .lookup 78 mo x true) (hm : a.eval mo = .map (some b)) (hx : a.eval x = .int .i64 i) (hi : (Lit.int .i64 i).wf = true) (hf : f i = some z)
    (h : wpList Tryd.prog ops Q rest (a.put o.dst (.tuple #[.agg #[.slice none 0 0, .int .i64 z], .bool true])) W) : wpList Tryd.prog ops Q (o :: rest) a W :=
  lookup_map hmap hg ho hm hx hi (fun z' hz => by rw [hz z hf, hf]; exact h)
theorem lookup_none {W : World} {b n m : Nat} {f : Int → Option Int} {i : Int} {ops : Array Oper} {rest : List Oper} {o : Oper} {a : Act} {Q : Exit → Act → World → Prop} {mo x : Operand} (hmap : MapC W b n f m) (hg : o.guard = none) (ho : o.op = .lookup 78 mo x true) (hm : a.eval mo = .map (some b)) (hx : a.eval x = .int .i64 i) (hi : (Lit.int .i64 i).wf = true) (hf : f i = none)
    (h : ∀ z, wpList Tryd.prog ops Q rest (a.put o.dst (.tuple #[.agg #[.slice none 0 0, .int .i64 z], .bool false])) W) : wpList Tryd.prog ops Q (o :: rest) a W :=
  lookup_map hmap hg ho hm hx hi (fun z' hz => by rw [hf]; exact h z')
theorem kk {w0 W : World} {P : Nat → Prop} {B : List Bx} {S : World → Prop} {b1 b2 r cnt : Nat} {fl : Int → Bool} (HM : Mem w0 P W B S) (h : Rg W b2 r fl cnt) (h2 : w0.heap.size ≤ b2) (hr : w0.heap.size ≤ r) (hbb : b1 < b2) (hbr : b2 < r) : ∀ k ∈ [b2, r], w0.heap.size ≤ k ∧ k ∉ B.map (·.1) ∧ k < W.heap.size ∧ k ≠ b1 := by
  intro k hk
  have ha := h.apart HM
  have hl := h.lt
  simp only [List.mem_cons, List.not_mem_nil, or_false] at hk
  rcases hk with rfl | rfl
  · exact ⟨h2, ha.1, hl.1, by omega⟩
  · exact ⟨hr, ha.2, hl.2, by omega⟩
theorem goneGo_congr : ∀ (l : List S44) (f g : Int → Option Int), (∀ r ∈ l, f r.f1 = g r.f1) → goneGo l f = goneGo l g
  | [], _, _, _ => rfl
  | r :: t, f, g, h => by
    rw [goneGo, goneGo, h r List.mem_cons_self]
    cases g r.f1 with
    | none => exact goneGo_congr t f g (fun x hx => h x (List.mem_cons_of_mem _ hx))
    | some z =>
      simp only
      rw [goneGo_congr t (delF f r.f1) (delF g r.f1) (fun x hx => by unfold delF; rw [h x (List.mem_cons_of_mem _ hx)])]
set_option maxHeartbeats 8000000 in
set_option maxRecDepth 100000 in
theorem gone_walk (w : World) (P : Nat → Prop) (A A2 : Option Addr) (c c2 : Nat) (l l2 : List S44) (n n2 m m2 : Int) (hF : ∀ W', (∀ k, k < w.heap.size → P k → W'.heap[k]? = w.heap[k]?) → Tr A l W' ∧ Tr A2 l2 W') (hI : ∀ r ∈ l, 0 ≤ r.f1 ∧ r.f1 < m) (hI2 : ∀ r ∈ l2, 0 ≤ r.f1 ∧ r.f1 < m2) (hl : l.length ≤ 900000) (hl2 : l2.length ≤ 900000) (hm : m ≤ 900000) (hm2 : m2 ≤ 900000) :
    Calls Tryd.prog 34 #[.agg #[.slice A l.length c, .int .i64 n], .agg #[.slice A2 l2.length c2, .int .i64 n2]] w fun e w' => ∃ Ao co, e = .returned (.slice Ao (goneGo l (goneF l l2)).length co) ∧ Mem w P w' [] (Ct Ao (goneGo l (goneF l l2))) := by
  have HM : Aside0 (Mem w P w [] (fun w => Tr A l w ∧ Tr A2 l2 w)) := ⟨Mem.start hF⟩
  have HS := Aside0.mk hF
  have HI := Aside0.mk hI
  have HI2 := Aside0.mk hI2
  have HL := Aside0.mk hl
  have HL2 := Aside0.mk hl2
  have HN := Aside0.mk hm
  have HN2 := Aside0.mk hm2
  have hlz0 : (l.length : Int) ≤ 900000 := by omega
  clear hF hI hI2 hl hl2 hm hm2
  go_enter Tryd.func34, Tryd.ntmps34
  go_upto_region 2 with (first
      | go_skip
      | ((with_reducible refine' load_cell HM.out ?hw rfl ?hx ?hm ?ha ?hv ?_); (case hw => rfl); (case hx => rfl); (case ha => exact nag _ (by decide)); (case hm => first | exact m0 | exact m1 | exact m2 | exact m3); (case hv => rfl))
      | ((with_reducible refine' load_all (ty := 35) HM.out ?hw rfl ?hx ?hm agg35 ?hl ?_); (case hw => rfl); (case hx => rfl); (case hm => first | exact m0 | exact m1 | exact m2 | exact m3); (case hl => rfl))
      | ((with_reducible refine' load_all (ty := 40) HM.out ?hw rfl ?hx ?hm agg40 ?hl ?_); (case hw => rfl); (case hx => rfl); (case hm => first | exact m0 | exact m1 | exact m2 | exact m3); (case hl => rfl))
      | ((with_reducible refine' store_all (ty := 44) HM.out ?hw rfl ?hx ?hm _ ?hy ?hs ?h1 ?hi ?_); (case hw => rfl); (case hx => rfl); (case hm => first | exact at0 | exact at1 | exact at2 | exact at3); (case hy => rfl); (case hs => exact size44); (case h1 => first | exact rowL_one _ | exact nodeL_one _ | simp [Value.oneCell']); (case hi => rfl); intro _ hM; simp only [List.set_cons_zero, List.set_cons_succ] at hM; clear HM; have HM := Aside0.mk hM; clear hM)
      | ((with_reducible refine' store_all (ty := 40) HM.out ?hw rfl ?hx ?hm _ ?hy ?hs ?h1 ?hi ?_); (case hw => rfl); (case hx => rfl); (case hm => first | exact at0 | exact at1 | exact at2 | exact at3); (case hy => rfl); (case hs => exact size40); (case h1 => first | exact rowL_one _ | exact nodeL_one _ | simp [Value.oneCell']); (case hi => rfl); intro _ hM; simp only [List.set_cons_zero, List.set_cons_succ] at hM; clear HM; have HM := Aside0.mk hM; clear hM)
      | ((with_reducible refine' box_zero (ty := 44) HM.out ?hw rfl zero44 _ ?hc ?_); (case hw => rfl); (case hc => rfl); intro _ _ hM; clear HM; have HM := Aside0.mk hM; clear hM)
      | ((with_reducible refine' box_zero (ty := 40) HM.out ?hw rfl zero40 _ ?hc ?_); (case hw => rfl); (case hc => rfl); intro _ _ hM; clear HM; have HM := Aside0.mk hM; clear hM)
      | ((with_reducible refine gate_dst (N := 2) rfl ?_); (with_reducible refine' box_new HM.out ?hw rfl _ ?hx ?_); (case hw => rfl); (case hx => rfl); intro g2 _ hM; clear HM; have HM := Aside0.mk hM; clear hM)
      | ((with_reducible refine gate_dst (N := 3) rfl ?_); (with_reducible refine' box_new HM.out ?hw rfl _ ?hx ?_); (case hw => rfl); (case hx => rfl); intro g3 _ hM; clear HM; have HM := Aside0.mk hM; clear hM)
      | (go_at_call 35; (refine (contents_M HM.out ?hS HI.out HL.out HN.out).mono ?_); (case hS => exact fun _ h => h.1); rintro e _ ⟨b1, rfl, _, h1, hM⟩; have HB1 := Aside0.mk h1; clear h1; clear HM; have HM := Aside0.mk hM; clear hM))
  go_wp2_with (first
      | go_skip
      | ((with_reducible refine' load_cell HM.out ?hw rfl ?hx ?hm ?ha ?hv ?_); (case hw => rfl); (case hx => rfl); (case ha => exact nag _ (by decide)); (case hm => first | exact m0 | exact m1 | exact m2 | exact m3); (case hv => rfl))
      | ((with_reducible refine' load_all (ty := 35) HM.out ?hw rfl ?hx ?hm agg35 ?hl ?_); (case hw => rfl); (case hx => rfl); (case hm => first | exact m0 | exact m1 | exact m2 | exact m3); (case hl => rfl))
      | ((with_reducible refine' load_all (ty := 40) HM.out ?hw rfl ?hx ?hm agg40 ?hl ?_); (case hw => rfl); (case hx => rfl); (case hm => first | exact m0 | exact m1 | exact m2 | exact m3); (case hl => rfl))
      | ((with_reducible refine' store_all (ty := 44) HM.out ?hw rfl ?hx ?hm _ ?hy ?hs ?h1 ?hi ?_); (case hw => rfl); (case hx => rfl); (case hm => first | exact at0 | exact at1 | exact at2 | exact at3); (case hy => rfl); (case hs => exact size44); (case h1 => first | exact rowL_one _ | exact nodeL_one _ | simp [Value.oneCell']); (case hi => rfl); intro _ hM; simp only [List.set_cons_zero, List.set_cons_succ] at hM; clear HM; have HM := Aside0.mk hM; clear hM)
      | ((with_reducible refine' store_all (ty := 40) HM.out ?hw rfl ?hx ?hm _ ?hy ?hs ?h1 ?hi ?_); (case hw => rfl); (case hx => rfl); (case hm => first | exact at0 | exact at1 | exact at2 | exact at3); (case hy => rfl); (case hs => exact size40); (case h1 => first | exact rowL_one _ | exact nodeL_one _ | simp [Value.oneCell']); (case hi => rfl); intro _ hM; simp only [List.set_cons_zero, List.set_cons_succ] at hM; clear HM; have HM := Aside0.mk hM; clear hM)
      | ((with_reducible refine' box_zero (ty := 44) HM.out ?hw rfl zero44 _ ?hc ?_); (case hw => rfl); (case hc => rfl); intro _ _ hM; clear HM; have HM := Aside0.mk hM; clear hM)
      | ((with_reducible refine' box_zero (ty := 40) HM.out ?hw rfl zero40 _ ?hc ?_); (case hw => rfl); (case hc => rfl); intro _ _ hM; clear HM; have HM := Aside0.mk hM; clear hM)
      | ((with_reducible refine gate_dst (N := 2) rfl ?_); (with_reducible refine' box_new HM.out ?hw rfl _ ?hx ?_); (case hw => rfl); (case hx => rfl); intro g2 _ hM; clear HM; have HM := Aside0.mk hM; clear hM)
      | ((with_reducible refine gate_dst (N := 3) rfl ?_); (with_reducible refine' box_new HM.out ?hw rfl _ ?hx ?_); (case hw => rfl); (case hx => rfl); intro g3 _ hM; clear HM; have HM := Aside0.mk hM; clear hM)
      | (go_at_call 35; (refine (contents_M HM.out ?hS HI2.out HL2.out HN2.out).mono ?_); (case hS => exact fun _ h => h.1.2); rintro e _ ⟨b2, rfl, h3, h2, hM⟩; have HB2 := Aside0.mk h2; have HBB := Aside0.mk (Nat.lt_of_lt_of_le HM.out.now.2.lt h3); clear h2 h3; clear HM; have HM := Aside0.mk hM; clear hM)
      | (at_range; (with_reducible refine' range_map HM.out HB2.out rfl rfl ?hm ?_); (case hm => rfl); intro r cnt0 _ hr hbr hnr hM; clear HM; have HM := Aside0.mk hM; clear hM; have HR := Aside0.mk hr; have HBR := Aside0.mk hbr; clear hr hbr hnr))
  go_frame
  go_loopw [6] (fun v6 wr => ∃ (cnt : Nat) (fl : Int → Bool) (g : Int → Option Int) (mm : Nat) (v : Value), v6 = v ∧ Aside0 (∀ x, (Lit.int .i64 x).wf = true → g x = if ((con l2).1 x).isSome = true ∧ fl x = false then none else (con l).1 x) ∧ Aside0 (∀ x, fl x = true → ((con l2).1 x).isSome = true) ∧
    Aside0 (Mem w P wr [(g3, [.slice A2 l2.length c2, .int .i64 n2], 35), (g2, [.slice A l.length c, .int .i64 n], 35)] (fun w => (Tr A l w ∧ Tr A2 l2 w) ∧ MapC w b1 900000 g mm ∧ Rg w b2 r fl cnt))) (fun _ wr => wr.rangeLeft b2 r)
  case atStart => exact ⟨cnt0, _, (con l).1, (con l).2, _, rfl, ⟨fun x _ => by rw [if_neg]; rintro ⟨h1, h2⟩; rw [h1] at h2; cases h2⟩, ⟨fun x h => h⟩, ⟨HM.out.imp (fun w h => ⟨h.1.1, h.1.2, h.2⟩)⟩⟩
  case round =>
    clear HM
    obtain ⟨cnt, fl, g, mm, v, rfl, HG, HFL, HM⟩ := hrel
    have HLE := Aside0.mk (Rg.left HM.out.now.2.2)
    have HK1 : Aside0 (∀ k ∈ [b1], w.heap.size ≤ k ∧ k ∉ List.map (·.1) [(g3, [Value.slice A2 l2.length c2, .int .i64 n2], 35), (g2, [.slice A l.length c, .int .i64 n], 35)] ∧ k < _ ∧ k ≠ r) := ⟨fun k hk => by
      rw [List.mem_singleton.1 hk]
      exact ⟨HB1.out, HM.out.now.2.1.apart HM.out, HM.out.now.2.1.lt, by have := HBB.out; have := HBR.out; omega⟩⟩
    go_wp2_with (first
      | go_skip
      | ((with_reducible refine' load_cell HM.out ?hw rfl ?hx ?hm ?ha ?hv ?_); (case hw => rfl); (case hx => rfl); (case ha => exact nag _ (by decide)); (case hm => first | exact m0 | exact m1 | exact m2 | exact m3); (case hv => rfl))
      | ((with_reducible refine' load_all (ty := 35) HM.out ?hw rfl ?hx ?hm agg35 ?hl ?_); (case hw => rfl); (case hx => rfl); (case hm => first | exact m0 | exact m1 | exact m2 | exact m3); (case hl => rfl))
      | ((with_reducible refine' load_all (ty := 40) HM.out ?hw rfl ?hx ?hm agg40 ?hl ?_); (case hw => rfl); (case hx => rfl); (case hm => first | exact m0 | exact m1 | exact m2 | exact m3); (case hl => rfl))
      | ((with_reducible refine' store_all (ty := 44) HM.out ?hw rfl ?hx ?hm _ ?hy ?hs ?h1 ?hi ?_); (case hw => rfl); (case hx => rfl); (case hm => first | exact at0 | exact at1 | exact at2 | exact at3); (case hy => rfl); (case hs => exact size44); (case h1 => first | exact rowL_one _ | exact nodeL_one _ | simp [Value.oneCell']); (case hi => rfl); intro _ hM; simp only [List.set_cons_zero, List.set_cons_succ] at hM; clear HM; have HM := Aside0.mk hM; clear hM)
      | ((with_reducible refine' store_all (ty := 40) HM.out ?hw rfl ?hx ?hm _ ?hy ?hs ?h1 ?hi ?_); (case hw => rfl); (case hx => rfl); (case hm => first | exact at0 | exact at1 | exact at2 | exact at3); (case hy => rfl); (case hs => exact size40); (case h1 => first | exact rowL_one _ | exact nodeL_one _ | simp [Value.oneCell']); (case hi => rfl); intro _ hM; simp only [List.set_cons_zero, List.set_cons_succ] at hM; clear HM; have HM := Aside0.mk hM; clear hM)
      | ((with_reducible refine' box_zero (ty := 44) HM.out ?hw rfl zero44 _ ?hc ?_); (case hw => rfl); (case hc => rfl); intro _ _ hM; clear HM; have HM := Aside0.mk hM; clear hM)
      | ((with_reducible refine' box_zero (ty := 40) HM.out ?hw rfl zero40 _ ?hc ?_); (case hw => rfl); (case hc => rfl); intro _ _ hM; clear HM; have HM := Aside0.mk hM; clear hM)
      | ((with_reducible refine gate_dst (N := 2) rfl ?_); (with_reducible refine' box_new HM.out ?hw rfl _ ?hx ?_); (case hw => rfl); (case hx => rfl); intro g2 _ hM; clear HM; have HM := Aside0.mk hM; clear hM)
      | ((with_reducible refine gate_dst (N := 3) rfl ?_); (with_reducible refine' box_new HM.out ?hw rfl _ ?hx ?_); (case hw => rfl); (case hx => rfl); intro g3 _ hM; clear HM; have HM := Aside0.mk hM; clear hM)
      | (at_next; (with_reducible refine' next_map (K := [b1]) (Φ := fun w => MapC w b1 900000 g mm) HM.out HS.out ?hΦ ?hK HB2.out HR.out rfl rfl ?hit ?hd ?hmo); (case hΦ => exact fun W W' h hm => hm.same (h b1 List.mem_cons_self)); (case hK => exact HK1.out); (case hit => rfl); intro hd; have HD := Aside0.mk hd; clear hd; rotate_left; intro x z _ cnt1 hwx hfx hlt1 hM hen; have HX := Aside0.mk (And.intro hwx hfx); have HLT := Aside0.mk hlt1; clear hwx hfx hlt1; clear HM; have HM := Aside0.mk hM; clear hM; rotate_left)
      | (at_delete; (with_reducible refine' delete_map (K := [b2, r]) (Φ := fun w => Rg w b2 r (fun y => fl y && !(y == x)) cnt1) (HM.out.imp (fun w h => ⟨h.1, h.2.2, h.2.1⟩)) HS.out ?hΦ ?hK HB1.out rfl rfl ?hm ?hx HX.out.1 ?_); (case hΦ => exact fun W W' h hm => hm.same (h b2 List.mem_cons_self) (h r (List.mem_cons_of_mem _ List.mem_cons_self))); (case hK => exact kk HM.out HM.out.now.2.2 HB2.out HR.out HBB.out HBR.out); (case hm => rfl); (case hx => rfl); intro _ hM; clear HM; have HM := Aside0.mk hM; clear hM))
    rotate_left
    · go_roundw
      case rel => exact ⟨_, _, _, _, _, _, _, ⟨cnt1, _, _, _, _, rfl, ⟨fun y hy => by
          unfold delF
          by_cases e : y = x
          · subst e
            rw [if_pos rfl, if_pos ⟨HFL.out _ HX.out.2, by simp⟩]
          · rw [if_neg e, HG.out y hy]
            simp [e]⟩, ⟨fun y h => HFL.out y (by simp only [Bool.and_eq_true] at h; exact h.1)⟩, ⟨HM.out.imp (fun w h => ⟨h.1, h.2.2, h.2.1⟩)⟩⟩, rfl⟩
      case measure =>
        have e1 := Rg.left HM.out.now.2.1
        rw [e1, HLE.out]
        exact HLT.out
    have hgg : goneGo l g = goneGo l (goneF l l2) := goneGo_congr l g (goneF l l2) (fun y hy => by
      have hwf : (Lit.int .i64 y.f1).wf = true := by
        have h2 := HI.out y hy
        have := HN.out
        simp only [Lit.wf, IntKind.min, IntKind.max, IntKind.signed, IntKind.bits, Bool.and_eq_true, decide_eq_true_eq]
        simp
        omega
      rw [HG.out _ hwf, HD.out _ hwf]
      unfold goneF
      simp)
    have HGG := Aside0.mk hgg
    clear hgg HG HFL HD HLE HK1
    go_loopw [7, 26] (fun v7 v26 wr => ∃ (i : Nat) (g' : Int → Option Int) (m' : Nat) (out : List Int) (v : Value) (X : List Bx), v26 = .int .i64 i ∧ v7 = v ∧ Aside0 (i ≤ l.length) ∧ Aside0 (out.length ≤ i) ∧ Aside0 (out ++ goneGo (l.drop i) g' = goneGo l g) ∧ Aside0 (OwnB 40 2 v out.length (contsL out) X) ∧
      Aside0 (Mem w P wr ((g3, [.slice A2 l2.length c2, .int .i64 n2], 35) :: (g2, [.slice A l.length c, .int .i64 n], 35) :: X) (fun w => (Tr A l w ∧ Tr A2 l2 w) ∧ True ∧ MapC w b1 900000 g' m'))) (fun _ v26 _ => l.length - (intOf v26).toNat)
    case atStart => exact ⟨0, g, mm, [], _, [], rfl, rfl, ⟨Nat.zero_le _⟩, ⟨Nat.le_refl _⟩, ⟨rfl⟩, ⟨OwnB.nil _ _⟩, ⟨HM.out.imp (fun w h => ⟨h.1, trivial, h.2.1⟩)⟩⟩
    case round =>
      clear HM
      obtain ⟨i, g', m', out, v, X, rfl, rfl, HIX, HNI, HO, HOW, HM⟩ := hrel
      have hib : (i : Int) ≤ 900000 := by have := HIX.out; omega
      have HNS := Aside0.mk (show out.length ≤ 900000 by have := HNI.out; omega)
      by_cases hlt : i < l.length
      · have hlz : (i : Int) < (l.length : Int) := by omega
        obtain ⟨ad, ea, hx0, hx1, hx2, hx3, hx4, hx5, hx6, hx7, hx8, hx9, hx10, hx11, hx12⟩ := at_T44 HM.out.now.1.1 (i : Int) (by omega) (by omega)
        have hrd : rd_T44 l (i : Int) = l[i] := by unfold rd_T44; rw [Int.toNat_natCast, List.getD_eq_getElem?_getD, List.getElem?_eq_getElem hlt]; rfl
        have ho := HO.out
        rw [List.drop_eq_getElem_cons hlt, goneGo] at ho
        have HWF := Aside0.mk (show (Lit.int .i64 l[i].f1).wf = true by
          have h2 := HI.out _ (List.getElem_mem hlt)
          have := HN.out
          simp only [Lit.wf, IntKind.min, IntKind.max, IntKind.signed, IntKind.bits, Bool.and_eq_true, decide_eq_true_eq]
          simp
          omega)
        rw [Int.toNat_natCast, hrd] at hx0 hx1 hx2 hx3 hx4 hx5 hx6 hx7 hx8 hx9 hx11 hx12
        rw [Int.toNat_natCast] at hx10
        generalize l[i] = y at hx0 hx1 hx2 hx3 hx4 hx5 hx6 hx7 hx8 hx9 hx11 hx12 ho HWF
        clear hrd HO
        subst ea
        obtain ⟨Ao, co, rfl⟩ := HOW.out.slice
        have hnn : (out.length : Int) ≤ 900000 := by have := HNS.out; omega
        go_upto_region 10 with (first
      | go_skip
      | ((with_reducible refine' load_cell HM.out ?hw rfl ?hx ?hm ?ha ?hv ?_); (case hw => rfl); (case hx => rfl); (case ha => exact nag _ (by decide)); (case hm => first | exact m0 | exact m1 | exact m2 | exact m3); (case hv => rfl))
      | ((with_reducible refine' load_all (ty := 35) HM.out ?hw rfl ?hx ?hm agg35 ?hl ?_); (case hw => rfl); (case hx => rfl); (case hm => first | exact m0 | exact m1 | exact m2 | exact m3); (case hl => rfl))
      | ((with_reducible refine' load_all (ty := 40) HM.out ?hw rfl ?hx ?hm agg40 ?hl ?_); (case hw => rfl); (case hx => rfl); (case hm => first | exact m0 | exact m1 | exact m2 | exact m3); (case hl => rfl))
      | ((with_reducible refine' store_all (ty := 44) HM.out ?hw rfl ?hx ?hm _ ?hy ?hs ?h1 ?hi ?_); (case hw => rfl); (case hx => rfl); (case hm => first | exact at0 | exact at1 | exact at2 | exact at3); (case hy => rfl); (case hs => exact size44); (case h1 => first | exact rowL_one _ | exact nodeL_one _ | simp [Value.oneCell']); (case hi => rfl); intro _ hM; simp only [List.set_cons_zero, List.set_cons_succ] at hM; clear HM; have HM := Aside0.mk hM; clear hM)
      | ((with_reducible refine' store_all (ty := 40) HM.out ?hw rfl ?hx ?hm _ ?hy ?hs ?h1 ?hi ?_); (case hw => rfl); (case hx => rfl); (case hm => first | exact at0 | exact at1 | exact at2 | exact at3); (case hy => rfl); (case hs => exact size40); (case h1 => first | exact rowL_one _ | exact nodeL_one _ | simp [Value.oneCell']); (case hi => rfl); intro _ hM; simp only [List.set_cons_zero, List.set_cons_succ] at hM; clear HM; have HM := Aside0.mk hM; clear hM)
      | ((with_reducible refine' box_zero (ty := 44) HM.out ?hw rfl zero44 _ ?hc ?_); (case hw => rfl); (case hc => rfl); intro _ _ hM; clear HM; have HM := Aside0.mk hM; clear hM)
      | ((with_reducible refine' box_zero (ty := 40) HM.out ?hw rfl zero40 _ ?hc ?_); (case hw => rfl); (case hc => rfl); intro _ _ hM; clear HM; have HM := Aside0.mk hM; clear hM)
      | ((with_reducible refine gate_dst (N := 2) rfl ?_); (with_reducible refine' box_new HM.out ?hw rfl _ ?hx ?_); (case hw => rfl); (case hx => rfl); intro g2 _ hM; clear HM; have HM := Aside0.mk hM; clear hM)
      | ((with_reducible refine gate_dst (N := 3) rfl ?_); (with_reducible refine' box_new HM.out ?hw rfl _ ?hx ?_); (case hw => rfl); (case hx => rfl); intro g3 _ hM; clear HM; have HM := Aside0.mk hM; clear hM))
        clear hx0 hx1 hx2 hx3 hx4 hx5 hx6 hx7 hx8 hx9 hx10 hx11 hx12
        have hrow : ∀ (q : S44), [Value.string q.f0, .int .i64 q.f1, .int .i64 q.f2.f0, .int .i64 q.f2.f1, .int .i64 q.f2.f2, .int .i64 q.f2.f3, .int .i64 q.f2.f4, .string q.f2.f5, .string q.f2.f6, .string q.f2.f7, .slice none 0 0, .int .i64 q.f2.f8.f1, .bool q.f2.f9] = rowL q := fun _ => rfl
        rw [hrow] at HM
        clear hrow
        cases hq : g' y.f1 with
        | none =>
          rw [hq] at ho
          have HO := Aside0.mk ho
          have HQ := Aside0.mk hq
          have HOW2 := Aside0.mk HOW.out
          clear ho hq
          go_wp2_with (first
      | go_skip
      | ((with_reducible refine' load_cell HM.out ?hw rfl ?hx ?hm ?ha ?hv ?_); (case hw => rfl); (case hx => rfl); (case ha => exact nag _ (by decide)); (case hm => first | exact m0 | exact m1 | exact m2 | exact m3); (case hv => rfl))
      | ((with_reducible refine' load_all (ty := 35) HM.out ?hw rfl ?hx ?hm agg35 ?hl ?_); (case hw => rfl); (case hx => rfl); (case hm => first | exact m0 | exact m1 | exact m2 | exact m3); (case hl => rfl))
      | ((with_reducible refine' load_all (ty := 40) HM.out ?hw rfl ?hx ?hm agg40 ?hl ?_); (case hw => rfl); (case hx => rfl); (case hm => first | exact m0 | exact m1 | exact m2 | exact m3); (case hl => rfl))
      | ((with_reducible refine' store_all (ty := 44) HM.out ?hw rfl ?hx ?hm _ ?hy ?hs ?h1 ?hi ?_); (case hw => rfl); (case hx => rfl); (case hm => first | exact at0 | exact at1 | exact at2 | exact at3); (case hy => rfl); (case hs => exact size44); (case h1 => first | exact rowL_one _ | exact nodeL_one _ | simp [Value.oneCell']); (case hi => rfl); intro _ hM; simp only [List.set_cons_zero, List.set_cons_succ] at hM; clear HM; have HM := Aside0.mk hM; clear hM)
      | ((with_reducible refine' store_all (ty := 40) HM.out ?hw rfl ?hx ?hm _ ?hy ?hs ?h1 ?hi ?_); (case hw => rfl); (case hx => rfl); (case hm => first | exact at0 | exact at1 | exact at2 | exact at3); (case hy => rfl); (case hs => exact size40); (case h1 => first | exact rowL_one _ | exact nodeL_one _ | simp [Value.oneCell']); (case hi => rfl); intro _ hM; simp only [List.set_cons_zero, List.set_cons_succ] at hM; clear HM; have HM := Aside0.mk hM; clear hM)
      | ((with_reducible refine' box_zero (ty := 44) HM.out ?hw rfl zero44 _ ?hc ?_); (case hw => rfl); (case hc => rfl); intro _ _ hM; clear HM; have HM := Aside0.mk hM; clear hM)
      | ((with_reducible refine' box_zero (ty := 40) HM.out ?hw rfl zero40 _ ?hc ?_); (case hw => rfl); (case hc => rfl); intro _ _ hM; clear HM; have HM := Aside0.mk hM; clear hM)
      | ((with_reducible refine gate_dst (N := 2) rfl ?_); (with_reducible refine' box_new HM.out ?hw rfl _ ?hx ?_); (case hw => rfl); (case hx => rfl); intro g2 _ hM; clear HM; have HM := Aside0.mk hM; clear hM)
      | ((with_reducible refine gate_dst (N := 3) rfl ?_); (with_reducible refine' box_new HM.out ?hw rfl _ ?hx ?_); (case hw => rfl); (case hx => rfl); intro g3 _ hM; clear HM; have HM := Aside0.mk hM; clear hM)
      | (at_lookup; (with_reducible refine' lookup_none HM.out.now.2.2 rfl rfl ?hm ?hx HWF.out HQ.out ?_); (case hm => rfl); (case hx => rfl); intro z0))
          go_roundw
          case rel => exact ⟨i + 1, g', m', out, _, X, by go_num, rfl, ⟨by omega⟩, ⟨by have := HNI.out; omega⟩, HO, HOW2, ⟨HM.out.drop.drop⟩⟩
          case measure => simp [intOf]; omega
        | some z =>
          rw [hq] at ho
          have HO : Aside0 ((out ++ [z]) ++ goneGo (l.drop (i + 1)) (delF g' y.f1) = goneGo l g) := ⟨by rw [List.append_assoc]; exact ho⟩
          have HQ := Aside0.mk hq
          obtain ⟨i0, hi0, hz0, hz1, hz2⟩ := info_parts info40
          clear ho hq
          go_wp2_with (first
      | go_skip
      | ((with_reducible refine' load_cell HM.out ?hw rfl ?hx ?hm ?ha ?hv ?_); (case hw => rfl); (case hx => rfl); (case ha => exact nag _ (by decide)); (case hm => first | exact m0 | exact m1 | exact m2 | exact m3); (case hv => rfl))
      | ((with_reducible refine' load_all (ty := 35) HM.out ?hw rfl ?hx ?hm agg35 ?hl ?_); (case hw => rfl); (case hx => rfl); (case hm => first | exact m0 | exact m1 | exact m2 | exact m3); (case hl => rfl))
      | ((with_reducible refine' load_all (ty := 40) HM.out ?hw rfl ?hx ?hm agg40 ?hl ?_); (case hw => rfl); (case hx => rfl); (case hm => first | exact m0 | exact m1 | exact m2 | exact m3); (case hl => rfl))
      | ((with_reducible refine' store_all (ty := 44) HM.out ?hw rfl ?hx ?hm _ ?hy ?hs ?h1 ?hi ?_); (case hw => rfl); (case hx => rfl); (case hm => first | exact at0 | exact at1 | exact at2 | exact at3); (case hy => rfl); (case hs => exact size44); (case h1 => first | exact rowL_one _ | exact nodeL_one _ | simp [Value.oneCell']); (case hi => rfl); intro _ hM; simp only [List.set_cons_zero, List.set_cons_succ] at hM; clear HM; have HM := Aside0.mk hM; clear hM)
      | ((with_reducible refine' store_all (ty := 40) HM.out ?hw rfl ?hx ?hm _ ?hy ?hs ?h1 ?hi ?_); (case hw => rfl); (case hx => rfl); (case hm => first | exact at0 | exact at1 | exact at2 | exact at3); (case hy => rfl); (case hs => exact size40); (case h1 => first | exact rowL_one _ | exact nodeL_one _ | simp [Value.oneCell']); (case hi => rfl); intro _ hM; simp only [List.set_cons_zero, List.set_cons_succ] at hM; clear HM; have HM := Aside0.mk hM; clear hM)
      | ((with_reducible refine' box_zero (ty := 44) HM.out ?hw rfl zero44 _ ?hc ?_); (case hw => rfl); (case hc => rfl); intro _ _ hM; clear HM; have HM := Aside0.mk hM; clear hM)
      | ((with_reducible refine' box_zero (ty := 40) HM.out ?hw rfl zero40 _ ?hc ?_); (case hw => rfl); (case hc => rfl); intro _ _ hM; clear HM; have HM := Aside0.mk hM; clear hM)
      | ((with_reducible refine gate_dst (N := 2) rfl ?_); (with_reducible refine' box_new HM.out ?hw rfl _ ?hx ?_); (case hw => rfl); (case hx => rfl); intro g2 _ hM; clear HM; have HM := Aside0.mk hM; clear hM)
      | ((with_reducible refine gate_dst (N := 3) rfl ?_); (with_reducible refine' box_new HM.out ?hw rfl _ ?hx ?_); (case hw => rfl); (case hx => rfl); intro g3 _ hM; clear HM; have HM := Aside0.mk hM; clear hM)
      | (at_lookup; (with_reducible refine' lookup_some HM.out.now.2.2 rfl rfl ?hm ?hx HWF.out HQ.out ?_); (case hm => rfl); (case hx => rfl))
      | (at_builtin; refine append_tail (B := [_, _, _, _]) (news := [.slice none 0 0, .int .i64 z]) (HM.out.call (below_alloc (Below.refl _ _) _)) rfl rfl rfl Tryd.underlying76 hi0 hz0 hz1 hz2 rfl (by decide) HOW.out rfl _ rfl rfl ?hnews ?hone (by decide) ?hc1 ?hc2 ?_; (case hnews => intro j u hu; cases j with | zero => (injection hu with hu; subst hu; exact (blk_cell (blk_new _ _) 0).trans rfl) | succ j => (cases j with | zero => (injection hu with hu; subst hu; exact (blk_cell (blk_new _ _) 1).trans rfl) | succ j => simp at hu)); (case hone => intro u hu; simp only [List.mem_cons, List.not_mem_nil, or_false] at hu; rcases hu with rfl | rfl <;> rfl); (case hc1 => have := HNS.out; unfold maxLen; omega); (case hc2 => have := HNS.out; omega); intro v2 X2 _ hO hM; clear HOW; have HOW := Aside0.mk hO; simp only [List.cons_append, List.nil_append] at hM; clear HM; have HM := Aside0.mk hM; clear hM; obtain ⟨Ao2, co2, rfl⟩ := hO.slice; clear hO)
      | (at_delete; (with_reducible refine' delete_map (K := []) (Φ := fun _ => True) HM.out HS.out (fun _ _ _ h => h) (fun k hk => absurd hk List.not_mem_nil) HB1.out rfl rfl ?hm ?hx HWF.out ?_); (case hm => rfl); (case hx => rfl); intro _ hM; clear HM; have HM := Aside0.mk hM; clear hM))
          have HOW2 : Aside0 (OwnB 40 2 (.slice Ao2 (out.length + 1) co2) (out ++ [z]).length (contsL (out ++ [z])) X2) := ⟨by rw [contsL_app]; simpa using HOW.out⟩
          go_roundw
          case rel => exact ⟨i + 1, _, _, out ++ [z], _, X2, by go_num, rfl, ⟨by omega⟩, ⟨by have := HNI.out; simp; omega⟩, HO, HOW2, ⟨HM.out.drop.drop⟩⟩
          case measure => simp [intOf]; omega
      · have hil : i = l.length := by have := HIX.out; omega
        have hlz : ¬ ((i : Int) < (l.length : Int)) := by omega
        have ho := HO.out
        rw [hil, List.drop_length, goneGo, List.append_nil] at ho
        obtain ⟨Ao, co, rfl⟩ := HOW.out.slice
        go_wp2_with (first
      | go_skip
      | ((with_reducible refine' load_cell HM.out ?hw rfl ?hx ?hm ?ha ?hv ?_); (case hw => rfl); (case hx => rfl); (case ha => exact nag _ (by decide)); (case hm => first | exact m0 | exact m1 | exact m2 | exact m3); (case hv => rfl))
      | ((with_reducible refine' load_all (ty := 35) HM.out ?hw rfl ?hx ?hm agg35 ?hl ?_); (case hw => rfl); (case hx => rfl); (case hm => first | exact m0 | exact m1 | exact m2 | exact m3); (case hl => rfl))
      | ((with_reducible refine' load_all (ty := 40) HM.out ?hw rfl ?hx ?hm agg40 ?hl ?_); (case hw => rfl); (case hx => rfl); (case hm => first | exact m0 | exact m1 | exact m2 | exact m3); (case hl => rfl))
      | ((with_reducible refine' store_all (ty := 44) HM.out ?hw rfl ?hx ?hm _ ?hy ?hs ?h1 ?hi ?_); (case hw => rfl); (case hx => rfl); (case hm => first | exact at0 | exact at1 | exact at2 | exact at3); (case hy => rfl); (case hs => exact size44); (case h1 => first | exact rowL_one _ | exact nodeL_one _ | simp [Value.oneCell']); (case hi => rfl); intro _ hM; simp only [List.set_cons_zero, List.set_cons_succ] at hM; clear HM; have HM := Aside0.mk hM; clear hM)
      | ((with_reducible refine' store_all (ty := 40) HM.out ?hw rfl ?hx ?hm _ ?hy ?hs ?h1 ?hi ?_); (case hw => rfl); (case hx => rfl); (case hm => first | exact at0 | exact at1 | exact at2 | exact at3); (case hy => rfl); (case hs => exact size40); (case h1 => first | exact rowL_one _ | exact nodeL_one _ | simp [Value.oneCell']); (case hi => rfl); intro _ hM; simp only [List.set_cons_zero, List.set_cons_succ] at hM; clear HM; have HM := Aside0.mk hM; clear hM)
      | ((with_reducible refine' box_zero (ty := 44) HM.out ?hw rfl zero44 _ ?hc ?_); (case hw => rfl); (case hc => rfl); intro _ _ hM; clear HM; have HM := Aside0.mk hM; clear hM)
      | ((with_reducible refine' box_zero (ty := 40) HM.out ?hw rfl zero40 _ ?hc ?_); (case hw => rfl); (case hc => rfl); intro _ _ hM; clear HM; have HM := Aside0.mk hM; clear hM)
      | ((with_reducible refine gate_dst (N := 2) rfl ?_); (with_reducible refine' box_new HM.out ?hw rfl _ ?hx ?_); (case hw => rfl); (case hx => rfl); intro g2 _ hM; clear HM; have HM := Aside0.mk hM; clear hM)
      | ((with_reducible refine gate_dst (N := 3) rfl ?_); (with_reducible refine' box_new HM.out ?hw rfl _ ?hx ?_); (case hw => rfl); (case hx => rfl); intro g3 _ hM; clear HM; have HM := Aside0.mk hM; clear hM))
        go_ret
        rw [← HGG.out, ← ho]
        refine ⟨Ao, ⟨co, rfl⟩, ?_⟩
        have HB := HM.out.drop.drop
        have hbx := fun x hx => HB.box x hx
        have hkeep : ∀ W' : World, (∀ x ∈ X, W'.heap[x.1]? = some (.cells x.2.1.toArray x.2.2 (0, 0))) → Ct Ao out W' := by
          intro W' hW'
          rcases HOW.out with ⟨e, h0, _, _⟩ | ⟨gq, cap, sp, e, hX, _⟩
          · exact .inl (List.eq_nil_of_length_eq_zero h0)
          · injection e with e1 _ _
            exact .inr ⟨gq, sp, e1, hW' _ (by rw [hX]; exact List.mem_singleton.2 rfl)⟩
        refine ⟨HB.below, (fun x hx => by cases hx), List.nodup_nil, fun W' hW => hkeep W' (fun x hx => (hW x.1 (blk_lt (hbx x hx).1) (by simp) (.inr (hbx x hx).2)).trans (hbx x hx).1)⟩
theorem gone_M {w0 W : World} {P : Nat → Prop} {B : List Bx} {S : World → Prop} {A A2 : Option Addr} {c c2 : Nat} {l l2 : List S44} {n n2 m m2 : Int} (HM : Mem w0 P W B S) (hS : ∀ w, S w → Tr A l w) (hS2 : ∀ w, S w → Tr A2 l2 w) (hI : ∀ r ∈ l, 0 ≤ r.f1 ∧ r.f1 < m) (hI2 : ∀ r ∈ l2, 0 ≤ r.f1 ∧ r.f1 < m2) (hl : l.length ≤ 900000) (hl2 : l2.length ≤ 900000) (hm : m ≤ 900000) (hm2 : m2 ≤ 900000) :
    Calls Tryd.prog 34 #[.agg #[.slice A l.length c, .int .i64 n], .agg #[.slice A2 l2.length c2, .int .i64 n2]] W fun e w' => ∃ Ao co, e = .returned (.slice Ao (goneGo l (goneF l l2)).length co) ∧ Mem w0 P w' B (fun w => S w ∧ Ct Ao (goneGo l (goneF l l2)) w) := by
  refine (gone_walk W (fun k => k ∉ B.map (·.1) ∧ (P k ∨ w0.heap.size ≤ k)) A A2 c c2 l l2 n n2 m m2 (fun W' hW => ⟨hS _ (HM.old W' (fun k hk hp => hW k hk hp)), hS2 _ (HM.old W' (fun k hk hp => hW k hk hp))⟩) hI hI2 hl hl2 hm hm2).mono ?_
  rintro e w' ⟨Ao, co, rfl, hM⟩
  refine ⟨Ao, co, rfl, HM.add hM.below (fun W' h => hM.last W' (fun k hp hk => h k hk ?_))⟩
  rcases hp with hp | hp
  · exact .inl hp
  · exact .inr hp
end Go.Proofs.YtolpamojbiipaaaDoor.XA
