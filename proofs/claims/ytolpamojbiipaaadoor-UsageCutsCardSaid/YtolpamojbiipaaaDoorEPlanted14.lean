/- pannierlaw14.planted, walked by hand over Mem. Printed by wip/tools/gen_planted14.py. -/
import Derived.Test.YtolpamojbiipaaaDoorELink
import Derived.Test.YtolpamojbiipaaaDoorEMemRow
namespace Go.Proofs.YtolpamojbiipaaaDoor.XA
open Go.RowKit Go.Proofs.YtolpamojbiipaaaDoorW.PrintWords Go.Proofs.YtolpamojbiipaaaDoorW.PrintLast Go.Proofs.YtolpamojbiipaaaDoorW.PrintMore Go.Proofs.YtolpamojbiipaaaDoor.Mem Go.Proofs.YtolpamojbiipaaaDoor.Pure
set_option linter.unusedVariables false
set_option linter.unusedSimpArgs false

def ndFile (size : Int) : S42 := ⟨1, 0, 0, 0, 0, ⟨#[]⟩, ⟨#[]⟩, ⟨#[]⟩, ⟨(), size⟩, false⟩
def ndKind (k : Int) : S42 := ⟨k, 0, 0, 0, 0, ⟨#[]⟩, ⟨#[]⟩, ⟨#[]⟩, ⟨(), 0⟩, false⟩
/-- Is a thing not to be put? -/
def skip14 (x : S49) : Prop := (cleanS x.f0.data.toList).2 ≠ 0 ∨ x.f3 < 0 ∨ 1048576 < x.f3 ∨ 300 < x.f0.size
instance (x : S49) : Decidable (skip14 x) := by unfold skip14; infer_instance
/-- The tree with one thing more. -/
def put14 (t : List S44 × Int) (x : S49) : List S44 × Int :=
  if skip14 x then t else if x.f1.data.toList = [] then
    (if x.f2 = 1 then ((addP t.1 t.2 (cleanS x.f0.data.toList).1 (ndFile x.f3)).1, (addP t.1 t.2 (cleanS x.f0.data.toList).1 (ndFile x.f3)).2.1)
     else if x.f2 = 3 ∨ x.f2 = 4 then ((addP t.1 t.2 (cleanS x.f0.data.toList).1 (ndKind x.f2)).1, (addP t.1 t.2 (cleanS x.f0.data.toList).1 (ndKind x.f2)).2.1) else t)
  else if (cleanS x.f1.data.toList).2 = 0 then ((linkP t.1 t.2 (cleanS x.f0.data.toList).1 (cleanS x.f1.data.toList).1).1, (linkP t.1 t.2 (cleanS x.f0.data.toList).1 (cleanS x.f1.data.toList).1).2.1) else t
def planted14 (xs : List S49) : List S44 × Int := xs.foldl put14 ([], 0)
theorem put14_ok {l : List S44} {n : Int} (h : Inv l n) (x : S49) : Inv (put14 (l, n) x).1 (put14 (l, n) x).2 ∧ n ≤ (put14 (l, n) x).2 ∧ (put14 (l, n) x).2 ≤ n + 151 ∧ (put14 (l, n) x).1.length ≤ l.length + 151 := by
  have same : Inv (l, n).1 (l, n).2 ∧ n ≤ (l, n).2 ∧ (l, n).2 ≤ n + 151 ∧ (l, n).1.length ≤ l.length + 151 := ⟨h, Int.le_refl _, by simp; omega, by simp⟩
  unfold put14
  by_cases hs : skip14 x
  · rw [if_pos hs]; exact same
  rw [if_neg hs]
  have hs' := hs
  unfold skip14 at hs'
  simp only [not_or] at hs'
  have he : (cleanS x.f0.data.toList).2 = 0 := by simpa using hs'.1
  have hcl := clean_cl he (by omega)
  have mk : ∀ nd : S42, Nd nd → _ := fun nd hnd => addP_ok h hcl hnd
  have fin : ∀ nd : S42, Nd nd → Inv (addP l n (cleanS x.f0.data.toList).1 nd).1 (addP l n (cleanS x.f0.data.toList).1 nd).2.1 ∧ n ≤ (addP l n (cleanS x.f0.data.toList).1 nd).2.1 ∧ (addP l n (cleanS x.f0.data.toList).1 nd).2.1 ≤ n + 151 ∧ (addP l n (cleanS x.f0.data.toList).1 nd).1.length ≤ l.length + 151 :=
    fun nd hnd => ⟨(mk nd hnd).inv, (mk nd hnd).next.1, (mk nd hnd).next.2, (mk nd hnd).len.2⟩
  by_cases ht : x.f1.data.toList = []
  · rw [if_pos ht]
    by_cases h1 : x.f2 = 1
    · rw [if_pos h1]; exact fin _ ⟨.inl rfl, rfl, by show 0 ≤ x.f3 ∧ x.f3 ≤ 1048576; omega⟩
    rw [if_neg h1]
    by_cases h2 : x.f2 = 3 ∨ x.f2 = 4
    · rw [if_pos h2]; exact fin _ ⟨.inr h2, rfl, by show (0 : Int) ≤ 0 ∧ (0 : Int) ≤ 1048576; omega⟩
    · rw [if_neg h2]; exact same
  · rw [if_neg ht]
    by_cases h1 : (cleanS x.f1.data.toList).2 = 0
    · rw [if_pos h1]; exact linkP_ok h hcl
    · rw [if_neg h1]; exact same
theorem planted14_ok (xs : List S49) : Inv (planted14 xs).1 (planted14 xs).2 ∧ (planted14 xs).2 ≤ 151 * xs.length ∧ (planted14 xs).1.length ≤ 151 * xs.length := by
  have gen : ∀ (xs : List S49) (t : List S44 × Int), Inv t.1 t.2 → Inv (xs.foldl put14 t).1 (xs.foldl put14 t).2 ∧ (xs.foldl put14 t).2 ≤ t.2 + 151 * xs.length ∧ (xs.foldl put14 t).1.length ≤ t.1.length + 151 * xs.length := by
    intro xs
    induction xs with
    | nil => intro t h; exact ⟨h, by simp, by simp⟩
    | cons x r ih =>
      intro t h
      obtain ⟨l, n⟩ := t
      have h1 := put14_ok (l := l) (n := n) h x
      have h2 := ih (put14 (l, n) x) h1.1
      rw [List.foldl_cons]
      refine ⟨h2.1, ?_, ?_⟩
      · have := h2.2.1; have := h1.2.2.1; simp only [List.length_cons] at *; omega
      · have := h2.2.2; have := h1.2.2.2; simp only [List.length_cons] at *; omega
  have := gen xs ([], 0) inv_nil
  unfold planted14
  exact ⟨this.1, by have := this.2.1; simpa using this, by have := this.2.2; simpa using this⟩
def pl14r9T : Bool × List (List Nat × List Nat) := (true, [([], []), ([], []), ([1], [1]), ([], []), ([3, 2], [3]), ([0, 2, 4, 4], [0, 2, 4]), ([5], [5]), ([6], [6]), ([6], [6]), ([7, 5, 0, 1, 2, 3, 4, 5, 6, 7], [7])])
def pl14r9B : List Nat := [0, 0, 2, 0, 14, 31, 63, 127, 127, 255]
theorem pl14r9Tab : rtab .any (opsOf Tryd.f19 9) = pl14r9T := by kernel_rfl
theorem pl14r9Bits : waitsOk pl14r9T.2 pl14r9B = true := by kernel_rfl
def pl14r12T : Bool × List (List Nat × List Nat) := (true, [([], []), ([], []), ([1], [1]), ([], []), ([3], [3]), ([4], [4]), ([5], [5]), ([0, 2, 6, 2], [0, 2, 6]), ([7], [7]), ([8], [8]), ([8], [8]), ([9, 7, 0, 1, 2, 3, 4, 5, 6, 7, 8, 9], [9])])
def pl14r12B : List Nat := [0, 0, 2, 0, 8, 24, 56, 127, 255, 511, 511, 1023]
theorem pl14r12Tab : rtab .any (opsOf Tryd.f19 12) = pl14r12T := by kernel_rfl
theorem pl14r12Bits : waitsOk pl14r12T.2 pl14r12B = true := by kernel_rfl
def pl14r14T : Bool × List (List Nat × List Nat) := (true, [([], []), ([], []), ([1], [1]), ([], []), ([3], [3]), ([4], [4]), ([0, 2, 5, 2], [0, 2, 5]), ([6], [6]), ([7], [7]), ([7], [7]), ([8, 6, 0, 1, 2, 3, 4, 5, 6, 7, 8], [8])])
def pl14r14B : List Nat := [0, 0, 2, 0, 8, 24, 63, 127, 255, 255, 511]
theorem pl14r14Tab : rtab .any (opsOf Tryd.f19 14) = pl14r14T := by kernel_rfl
theorem pl14r14Bits : waitsOk pl14r14T.2 pl14r14B = true := by kernel_rfl

set_option maxHeartbeats 8000000 in
set_option maxRecDepth 100000 in
theorem planted14_walk (w : World) (P0 : Nat → Prop) (HG0 : GG w) (A0 : Option Addr) (c0 : Nat) (xs : List S49) (hx : Kd.F k49 w P0 A0 xs.length xs) (hlen : xs.length ≤ 1000) :
    Calls Tryd.prog 19 #[.slice A0 xs.length c0] w fun e w' => ∃ A c, e = .returned (.agg #[.slice A (planted14 xs).1.length c, .int .i64 (planted14 xs).2]) ∧ (planted14 xs).1.length ≤ c ∧ Mem w P0 w' [] (fun w => Kd.C k49 w A0 xs.length xs ∧ Tr A (planted14 xs).1 w) := by
  have HG := Aside0.mk HG0
  have HM : Aside0 (Mem w P0 w [] (fun w => Kd.C k49 w A0 xs.length xs)) := ⟨Mem.start (fun W' h => hx W' (fun k hp hk => h k hk hp))⟩
  have hli : (xs.length : Int) ≤ 1000 := by omega
  clear HG0 hx
  go_enter Tryd.func19, Tryd.ntmps19
  go_wp2_with (first
      | go_skip
      | ((with_reducible refine gate_dst (N := 2) rfl ?_); (with_reducible refine' box_zero (ty := 35) HM.out ?hw rfl zero35 _ ?hc ?_); (case hw => rfl); (case hc => rfl); intro g2 _ hM; clear HM; have HM := Aside0.mk hM; clear hM)
      | ((with_reducible refine gate_dst (N := 3) rfl ?_); (with_reducible refine' box_zero (ty := 35) HM.out ?hw rfl zero35 _ ?hc ?_); (case hw => rfl); (case hc => rfl); intro g3 _ hM; clear HM; have HM := Aside0.mk hM; clear hM))
  go_loopw [12] (fun v12 wr => ∃ (i : Nat) (l : List S44) (n : Int) (A : Option Addr) (c : Nat), v12 = .int .i64 i ∧ Aside0 (i ≤ xs.length) ∧ Aside0 ((l, n) = planted14 (xs.take i)) ∧ Aside0 (l.length ≤ c) ∧
    Aside0 (Mem w P0 wr [(g3, [.slice A l.length c, .int .i64 n], 35), (g2, [.slice none 0 0, .int .i64 0], 35)] (fun w => Kd.C k49 w A0 xs.length xs ∧ Tr A l w))) (fun v12 _ => xs.length - (intOf v12).toNat)
  case atStart => exact ⟨0, [], 0, none, 0, rfl, ⟨Nat.zero_le _⟩, ⟨rfl⟩, ⟨Nat.le_refl _⟩, ⟨HM.out.imp (fun w h => ⟨h, Kd.C_nil _ _⟩)⟩⟩
  case round =>
    clear HM
    obtain ⟨i, l, n, A, c, rfl, HIX, HT, HC, HM⟩ := hrel
    have hib : (i : Int) ≤ 1000 := by have := HIX.out; omega
    have HTI := Aside0.mk (planted14_ok (xs.take i))
    by_cases hlt : i < xs.length
    · have hlz : (i : Int) < (xs.length : Int) := by omega
      have hsucc : Aside0 (xs.take (i + 1) = xs.take i ++ [xs[i]]) := ⟨by rw [List.take_succ_eq_append_getElem hlt]⟩
      have hstep : Aside0 (planted14 (xs.take i ++ [xs[i]]) = put14 (l, n) xs[i]) := ⟨by rw [HT.out]; unfold planted14; rw [List.foldl_append]; rfl⟩
      rw [← HT.out] at HTI
      obtain ⟨ad, ea, hx0, hx1, hx2, hx3⟩ := at_T49 HM.out.now.1 (i : Int) (by omega) (by omega)
      have hrd : rd_T49 xs (i : Int) = xs[i] := by unfold rd_T49; rw [Int.toNat_natCast, List.getD_eq_getElem?_getD, List.getElem?_eq_getElem hlt]; rfl
      rw [hrd] at hx0 hx1 hx2 hx3
      rw [Int.toNat_natCast] at hx0 hx1 hx2 hx3
      clear hrd HT
      generalize xs[i] = x at hx0 hx1 hx2 hx3 hsucc hstep
      have HI := Aside0.mk HTI.out.1
      have HL := Aside0.mk (show l.length ≤ 800000 by have := HTI.out.2.2; rw [List.length_take] at this; simp only at this; omega)
      have HN := Aside0.mk (show n ≤ 800000 by have := HTI.out.2.1; rw [List.length_take] at this; simp only at this; omega)
      clear HTI
      subst ea
      go_upto_region 5 with (first
      | go_skip
      | ((with_reducible refine' load_cell HM.out ?hw rfl ?hx ?hm ?ha ?hv ?_); (case hw => rfl); (case hx => rfl); (case ha => exact nag _ (by decide)); (case hm => first | exact m0 | exact m1 | exact m2 | exact m3); (case hv => rfl))
      | ((with_reducible refine' load_all (ty := 35) HM.out ?hw rfl ?hx ?hm agg35 ?hl ?_); (case hw => rfl); (case hx => rfl); (case hm => first | exact m0 | exact m1 | exact m2 | exact m3); (case hl => rfl))
      | ((with_reducible refine' store_all (ty := 35) HM.out ?hw rfl ?hx ?hm _ ?hy ?hs ?h1 ?hi ?_); (case hw => rfl); (case hx => rfl); (case hm => first | exact at0 | exact at1 | exact at2 | exact at3); (case hy => rfl); (case hs => exact size35); (case h1 => first | exact rowL_one _ | exact nodeL_one _ | simp [Value.oneCell']); (case hi => rfl); intro _ hM; simp only [List.set_cons_zero, List.set_cons_succ] at hM; clear HM; have HM := Aside0.mk hM; clear hM)
      | ((with_reducible refine' store_all (ty := 49) HM.out ?hw rfl ?hx ?hm _ ?hy ?hs ?h1 ?hi ?_); (case hw => rfl); (case hx => rfl); (case hm => first | exact at0 | exact at1 | exact at2 | exact at3); (case hy => rfl); (case hs => exact size49); (case h1 => first | exact rowL_one _ | exact nodeL_one _ | simp [Value.oneCell']); (case hi => rfl); intro _ hM; simp only [List.set_cons_zero, List.set_cons_succ] at hM; clear HM; have HM := Aside0.mk hM; clear hM)
      | ((with_reducible refine' box_zero (ty := 35) HM.out ?hw rfl zero35 _ ?hc ?_); (case hw => rfl); (case hc => rfl); intro _ _ hM; clear HM; have HM := Aside0.mk hM; clear hM)
      | ((with_reducible refine' box_zero (ty := 49) HM.out ?hw rfl zero49 _ ?hc ?_); (case hw => rfl); (case hc => rfl); intro _ _ hM; clear HM; have HM := Aside0.mk hM; clear hM))
      clear hx0 hx1 hx2 hx3
      go_upto_region 6 with (first
      | go_skip
      | ((with_reducible refine' load_cell HM.out ?hw rfl ?hx ?hm ?ha ?hv ?_); (case hw => rfl); (case hx => rfl); (case ha => exact nag _ (by decide)); (case hm => first | exact m0 | exact m1 | exact m2 | exact m3); (case hv => rfl))
      | ((with_reducible refine' load_all (ty := 35) HM.out ?hw rfl ?hx ?hm agg35 ?hl ?_); (case hw => rfl); (case hx => rfl); (case hm => first | exact m0 | exact m1 | exact m2 | exact m3); (case hl => rfl))
      | ((with_reducible refine' store_all (ty := 35) HM.out ?hw rfl ?hx ?hm _ ?hy ?hs ?h1 ?hi ?_); (case hw => rfl); (case hx => rfl); (case hm => first | exact at0 | exact at1 | exact at2 | exact at3); (case hy => rfl); (case hs => exact size35); (case h1 => first | exact rowL_one _ | exact nodeL_one _ | simp [Value.oneCell']); (case hi => rfl); intro _ hM; simp only [List.set_cons_zero, List.set_cons_succ] at hM; clear HM; have HM := Aside0.mk hM; clear hM)
      | ((with_reducible refine' store_all (ty := 49) HM.out ?hw rfl ?hx ?hm _ ?hy ?hs ?h1 ?hi ?_); (case hw => rfl); (case hx => rfl); (case hm => first | exact at0 | exact at1 | exact at2 | exact at3); (case hy => rfl); (case hs => exact size49); (case h1 => first | exact rowL_one _ | exact nodeL_one _ | simp [Value.oneCell']); (case hi => rfl); intro _ hM; simp only [List.set_cons_zero, List.set_cons_succ] at hM; clear HM; have HM := Aside0.mk hM; clear hM)
      | ((with_reducible refine' box_zero (ty := 35) HM.out ?hw rfl zero35 _ ?hc ?_); (case hw => rfl); (case hc => rfl); intro _ _ hM; clear HM; have HM := Aside0.mk hM; clear hM)
      | ((with_reducible refine' box_zero (ty := 49) HM.out ?hw rfl zero49 _ ?hc ?_); (case hw => rfl); (case hc => rfl); intro _ _ hM; clear HM; have HM := Aside0.mk hM; clear hM)
      | (go_at_call 22; (refine (clean_M HG.out HM.out _).mono ?_); rintro e _ ⟨A1, c1, rfl, hc1, hM⟩; have HCA := Aside0.mk hc1; clear hc1; clear HM; have HM := Aside0.mk hM; clear hM))
      go_upto_region 7 with (first
      | go_skip
      | ((with_reducible refine' load_cell HM.out ?hw rfl ?hx ?hm ?ha ?hv ?_); (case hw => rfl); (case hx => rfl); (case ha => exact nag _ (by decide)); (case hm => first | exact m0 | exact m1 | exact m2 | exact m3); (case hv => rfl))
      | ((with_reducible refine' load_all (ty := 35) HM.out ?hw rfl ?hx ?hm agg35 ?hl ?_); (case hw => rfl); (case hx => rfl); (case hm => first | exact m0 | exact m1 | exact m2 | exact m3); (case hl => rfl))
      | ((with_reducible refine' store_all (ty := 35) HM.out ?hw rfl ?hx ?hm _ ?hy ?hs ?h1 ?hi ?_); (case hw => rfl); (case hx => rfl); (case hm => first | exact at0 | exact at1 | exact at2 | exact at3); (case hy => rfl); (case hs => exact size35); (case h1 => first | exact rowL_one _ | exact nodeL_one _ | simp [Value.oneCell']); (case hi => rfl); intro _ hM; simp only [List.set_cons_zero, List.set_cons_succ] at hM; clear HM; have HM := Aside0.mk hM; clear hM)
      | ((with_reducible refine' store_all (ty := 49) HM.out ?hw rfl ?hx ?hm _ ?hy ?hs ?h1 ?hi ?_); (case hw => rfl); (case hx => rfl); (case hm => first | exact at0 | exact at1 | exact at2 | exact at3); (case hy => rfl); (case hs => exact size49); (case h1 => first | exact rowL_one _ | exact nodeL_one _ | simp [Value.oneCell']); (case hi => rfl); intro _ hM; simp only [List.set_cons_zero, List.set_cons_succ] at hM; clear HM; have HM := Aside0.mk hM; clear hM)
      | ((with_reducible refine' box_zero (ty := 35) HM.out ?hw rfl zero35 _ ?hc ?_); (case hw => rfl); (case hc => rfl); intro _ _ hM; clear HM; have HM := Aside0.mk hM; clear hM)
      | ((with_reducible refine' box_zero (ty := 49) HM.out ?hw rfl zero49 _ ?hc ?_); (case hw => rfl); (case hc => rfl); intro _ _ hM; clear HM; have HM := Aside0.mk hM; clear hM)
      | (go_at_call 22; (refine (clean_M HG.out HM.out _).mono ?_); rintro e _ ⟨A2, c2, rfl, hc2, hM⟩; have HCB := Aside0.mk hc2; clear hc2; clear HM; have HM := Aside0.mk hM; clear hM))
      by_cases hs : skip14 x
      case pos =>
        have HS := Aside0.mk (show put14 (l, n) x = (l, n) by unfold put14; rw [if_pos hs])
        unfold skip14 at hs
        have hq : (cleanS x.f0.data.toList).2 ≠ 0 ∨ ((cleanS x.f0.data.toList).2 = 0 ∧ (x.f3 < 0 ∨ (¬ x.f3 < 0 ∧ (1048576 < x.f3 ∨ (¬ 1048576 < x.f3 ∧ 300 < x.f0.size))))) := by
          by_cases e : (cleanS x.f0.data.toList).2 = 0
          · by_cases e2 : x.f3 < 0
            · exact .inr ⟨e, .inl e2⟩
            · by_cases e3 : 1048576 < x.f3
              · exact .inr ⟨e, .inr ⟨e2, .inl e3⟩⟩
              · exact .inr ⟨e, .inr ⟨e2, .inr ⟨e3, by rcases hs with h | h | h | h <;> first | exact absurd e h | exact absurd h e2 | exact absurd h e3 | exact h⟩⟩⟩
          · exact .inl e
        clear hs
        generalize (cleanS x.f0.data.toList).2 = e1 at hq ⊢
        rcases hq with h | ⟨rfl, h | ⟨h2, h | ⟨h3, h⟩⟩⟩
        · have b1 : (e1 != 0) = true := bne_iff_ne.2 h
          have b2 : (e1 == 0) = false := beq_eq_false_iff_ne.2 h
          clear h
          go_wp2_with (first
      | go_skip
      | ((with_reducible refine' load_cell HM.out ?hw rfl ?hx ?hm ?ha ?hv ?_); (case hw => rfl); (case hx => rfl); (case ha => exact nag _ (by decide)); (case hm => first | exact m0 | exact m1 | exact m2 | exact m3); (case hv => rfl))
      | ((with_reducible refine' load_all (ty := 35) HM.out ?hw rfl ?hx ?hm agg35 ?hl ?_); (case hw => rfl); (case hx => rfl); (case hm => first | exact m0 | exact m1 | exact m2 | exact m3); (case hl => rfl))
      | ((with_reducible refine' store_all (ty := 35) HM.out ?hw rfl ?hx ?hm _ ?hy ?hs ?h1 ?hi ?_); (case hw => rfl); (case hx => rfl); (case hm => first | exact at0 | exact at1 | exact at2 | exact at3); (case hy => rfl); (case hs => exact size35); (case h1 => first | exact rowL_one _ | exact nodeL_one _ | simp [Value.oneCell']); (case hi => rfl); intro _ hM; simp only [List.set_cons_zero, List.set_cons_succ] at hM; clear HM; have HM := Aside0.mk hM; clear hM)
      | ((with_reducible refine' store_all (ty := 49) HM.out ?hw rfl ?hx ?hm _ ?hy ?hs ?h1 ?hi ?_); (case hw => rfl); (case hx => rfl); (case hm => first | exact at0 | exact at1 | exact at2 | exact at3); (case hy => rfl); (case hs => exact size49); (case h1 => first | exact rowL_one _ | exact nodeL_one _ | simp [Value.oneCell']); (case hi => rfl); intro _ hM; simp only [List.set_cons_zero, List.set_cons_succ] at hM; clear HM; have HM := Aside0.mk hM; clear hM)
      | ((with_reducible refine' box_zero (ty := 35) HM.out ?hw rfl zero35 _ ?hc ?_); (case hw => rfl); (case hc => rfl); intro _ _ hM; clear HM; have HM := Aside0.mk hM; clear hM)
      | ((with_reducible refine' box_zero (ty := 49) HM.out ?hw rfl zero49 _ ?hc ?_); (case hw => rfl); (case hc => rfl); intro _ _ hM; clear HM; have HM := Aside0.mk hM; clear hM))
          go_roundw
          case rel => exact ⟨i + 1, l, n, A, c, by go_num, ⟨by omega⟩, ⟨by rw [hsucc.out]; rw [hstep.out, HS.out]⟩, HC, ⟨(HM.out.drop).imp (fun w h => ⟨h.1.1.1, h.1.1.2⟩)⟩⟩
          case measure => simp [intOf]; omega
        · have b1 : decide (x.f3 < 0) = true := decide_eq_true h
          go_wp2_with (first
      | go_skip
      | ((with_reducible refine' load_cell HM.out ?hw rfl ?hx ?hm ?ha ?hv ?_); (case hw => rfl); (case hx => rfl); (case ha => exact nag _ (by decide)); (case hm => first | exact m0 | exact m1 | exact m2 | exact m3); (case hv => rfl))
      | ((with_reducible refine' load_all (ty := 35) HM.out ?hw rfl ?hx ?hm agg35 ?hl ?_); (case hw => rfl); (case hx => rfl); (case hm => first | exact m0 | exact m1 | exact m2 | exact m3); (case hl => rfl))
      | ((with_reducible refine' store_all (ty := 35) HM.out ?hw rfl ?hx ?hm _ ?hy ?hs ?h1 ?hi ?_); (case hw => rfl); (case hx => rfl); (case hm => first | exact at0 | exact at1 | exact at2 | exact at3); (case hy => rfl); (case hs => exact size35); (case h1 => first | exact rowL_one _ | exact nodeL_one _ | simp [Value.oneCell']); (case hi => rfl); intro _ hM; simp only [List.set_cons_zero, List.set_cons_succ] at hM; clear HM; have HM := Aside0.mk hM; clear hM)
      | ((with_reducible refine' store_all (ty := 49) HM.out ?hw rfl ?hx ?hm _ ?hy ?hs ?h1 ?hi ?_); (case hw => rfl); (case hx => rfl); (case hm => first | exact at0 | exact at1 | exact at2 | exact at3); (case hy => rfl); (case hs => exact size49); (case h1 => first | exact rowL_one _ | exact nodeL_one _ | simp [Value.oneCell']); (case hi => rfl); intro _ hM; simp only [List.set_cons_zero, List.set_cons_succ] at hM; clear HM; have HM := Aside0.mk hM; clear hM)
      | ((with_reducible refine' box_zero (ty := 35) HM.out ?hw rfl zero35 _ ?hc ?_); (case hw => rfl); (case hc => rfl); intro _ _ hM; clear HM; have HM := Aside0.mk hM; clear hM)
      | ((with_reducible refine' box_zero (ty := 49) HM.out ?hw rfl zero49 _ ?hc ?_); (case hw => rfl); (case hc => rfl); intro _ _ hM; clear HM; have HM := Aside0.mk hM; clear hM))
          go_roundw
          case rel => exact ⟨i + 1, l, n, A, c, by go_num, ⟨by omega⟩, ⟨by rw [hsucc.out]; rw [hstep.out, HS.out]⟩, HC, ⟨(HM.out.drop).imp (fun w h => ⟨h.1.1.1, h.1.1.2⟩)⟩⟩
          case measure => simp [intOf]; omega
        · have b1 : decide (x.f3 < 0) = false := decide_eq_false h2
          have b2 : decide (1048576 < x.f3) = true := decide_eq_true h
          go_wp2_with (first
      | go_skip
      | ((with_reducible refine' load_cell HM.out ?hw rfl ?hx ?hm ?ha ?hv ?_); (case hw => rfl); (case hx => rfl); (case ha => exact nag _ (by decide)); (case hm => first | exact m0 | exact m1 | exact m2 | exact m3); (case hv => rfl))
      | ((with_reducible refine' load_all (ty := 35) HM.out ?hw rfl ?hx ?hm agg35 ?hl ?_); (case hw => rfl); (case hx => rfl); (case hm => first | exact m0 | exact m1 | exact m2 | exact m3); (case hl => rfl))
      | ((with_reducible refine' store_all (ty := 35) HM.out ?hw rfl ?hx ?hm _ ?hy ?hs ?h1 ?hi ?_); (case hw => rfl); (case hx => rfl); (case hm => first | exact at0 | exact at1 | exact at2 | exact at3); (case hy => rfl); (case hs => exact size35); (case h1 => first | exact rowL_one _ | exact nodeL_one _ | simp [Value.oneCell']); (case hi => rfl); intro _ hM; simp only [List.set_cons_zero, List.set_cons_succ] at hM; clear HM; have HM := Aside0.mk hM; clear hM)
      | ((with_reducible refine' store_all (ty := 49) HM.out ?hw rfl ?hx ?hm _ ?hy ?hs ?h1 ?hi ?_); (case hw => rfl); (case hx => rfl); (case hm => first | exact at0 | exact at1 | exact at2 | exact at3); (case hy => rfl); (case hs => exact size49); (case h1 => first | exact rowL_one _ | exact nodeL_one _ | simp [Value.oneCell']); (case hi => rfl); intro _ hM; simp only [List.set_cons_zero, List.set_cons_succ] at hM; clear HM; have HM := Aside0.mk hM; clear hM)
      | ((with_reducible refine' box_zero (ty := 35) HM.out ?hw rfl zero35 _ ?hc ?_); (case hw => rfl); (case hc => rfl); intro _ _ hM; clear HM; have HM := Aside0.mk hM; clear hM)
      | ((with_reducible refine' box_zero (ty := 49) HM.out ?hw rfl zero49 _ ?hc ?_); (case hw => rfl); (case hc => rfl); intro _ _ hM; clear HM; have HM := Aside0.mk hM; clear hM))
          go_roundw
          case rel => exact ⟨i + 1, l, n, A, c, by go_num, ⟨by omega⟩, ⟨by rw [hsucc.out]; rw [hstep.out, HS.out]⟩, HC, ⟨(HM.out.drop).imp (fun w h => ⟨h.1.1.1, h.1.1.2⟩)⟩⟩
          case measure => simp [intOf]; omega
        · have b1 : decide (x.f3 < 0) = false := decide_eq_false h2
          have b2 : decide (1048576 < x.f3) = false := decide_eq_false h3
          have b3 : decide ((300 : Int) < (x.f0.size : Int)) = true := decide_eq_true (by omega)
          go_wp2_with (first
      | go_skip
      | ((with_reducible refine' load_cell HM.out ?hw rfl ?hx ?hm ?ha ?hv ?_); (case hw => rfl); (case hx => rfl); (case ha => exact nag _ (by decide)); (case hm => first | exact m0 | exact m1 | exact m2 | exact m3); (case hv => rfl))
      | ((with_reducible refine' load_all (ty := 35) HM.out ?hw rfl ?hx ?hm agg35 ?hl ?_); (case hw => rfl); (case hx => rfl); (case hm => first | exact m0 | exact m1 | exact m2 | exact m3); (case hl => rfl))
      | ((with_reducible refine' store_all (ty := 35) HM.out ?hw rfl ?hx ?hm _ ?hy ?hs ?h1 ?hi ?_); (case hw => rfl); (case hx => rfl); (case hm => first | exact at0 | exact at1 | exact at2 | exact at3); (case hy => rfl); (case hs => exact size35); (case h1 => first | exact rowL_one _ | exact nodeL_one _ | simp [Value.oneCell']); (case hi => rfl); intro _ hM; simp only [List.set_cons_zero, List.set_cons_succ] at hM; clear HM; have HM := Aside0.mk hM; clear hM)
      | ((with_reducible refine' store_all (ty := 49) HM.out ?hw rfl ?hx ?hm _ ?hy ?hs ?h1 ?hi ?_); (case hw => rfl); (case hx => rfl); (case hm => first | exact at0 | exact at1 | exact at2 | exact at3); (case hy => rfl); (case hs => exact size49); (case h1 => first | exact rowL_one _ | exact nodeL_one _ | simp [Value.oneCell']); (case hi => rfl); intro _ hM; simp only [List.set_cons_zero, List.set_cons_succ] at hM; clear HM; have HM := Aside0.mk hM; clear hM)
      | ((with_reducible refine' box_zero (ty := 35) HM.out ?hw rfl zero35 _ ?hc ?_); (case hw => rfl); (case hc => rfl); intro _ _ hM; clear HM; have HM := Aside0.mk hM; clear hM)
      | ((with_reducible refine' box_zero (ty := 49) HM.out ?hw rfl zero49 _ ?hc ?_); (case hw => rfl); (case hc => rfl); intro _ _ hM; clear HM; have HM := Aside0.mk hM; clear hM))
          go_roundw
          case rel => exact ⟨i + 1, l, n, A, c, by go_num, ⟨by omega⟩, ⟨by rw [hsucc.out]; rw [hstep.out, HS.out]⟩, HC, ⟨(HM.out.drop).imp (fun w h => ⟨h.1.1.1, h.1.1.2⟩)⟩⟩
          case measure => simp [intOf]; omega
      have HS := Aside0.mk hs
      unfold skip14 at hs
      simp only [not_or] at hs
      have he : (cleanS x.f0.data.toList).2 = 0 := by simpa using hs.1
      have HCL := Aside0.mk (clean_cl he (by omega))
      have HGA := Aside0.mk (clean_gd he)
      have b1 : decide (x.f3 < 0) = false := decide_eq_false hs.2.1
      have b2 : decide (1048576 < x.f3) = false := decide_eq_false hs.2.2.1
      have b3 : decide ((300 : Int) < (x.f0.size : Int)) = false := decide_eq_false (by omega)
      have HP0 := Aside0.mk hsucc.out
      rw [he]
      clear hs he
      by_cases ht : x.f1.data.toList = []
      case neg =>
        have t0 : (x.f1.toList == ([] : List UInt8)) = false := beq_eq_false_iff_ne.2 (by rw [toList_data]; exact ht)
        have t1 : x.f1.toList.isEmpty = false := List.isEmpty_eq_false_iff.2 (by rw [toList_data]; exact ht)
        by_cases he : (cleanS x.f1.data.toList).2 = 0
        case neg =>
          have HQ := Aside0.mk (show put14 (l, n) x = (l, n) by unfold put14; rw [if_neg HS.out, if_neg ht, if_neg he])
          generalize (cleanS x.f1.data.toList).2 = e1 at he ⊢
          have u1 : (e1 != 0) = true := bne_iff_ne.2 he
          have u2 : (e1 == 0) = false := beq_eq_false_iff_ne.2 he
          clear he ht
          go_wp2_with (first
      | go_skip
      | ((with_reducible refine' load_cell HM.out ?hw rfl ?hx ?hm ?ha ?hv ?_); (case hw => rfl); (case hx => rfl); (case ha => exact nag _ (by decide)); (case hm => first | exact m0 | exact m1 | exact m2 | exact m3); (case hv => rfl))
      | ((with_reducible refine' load_all (ty := 35) HM.out ?hw rfl ?hx ?hm agg35 ?hl ?_); (case hw => rfl); (case hx => rfl); (case hm => first | exact m0 | exact m1 | exact m2 | exact m3); (case hl => rfl))
      | ((with_reducible refine' store_all (ty := 35) HM.out ?hw rfl ?hx ?hm _ ?hy ?hs ?h1 ?hi ?_); (case hw => rfl); (case hx => rfl); (case hm => first | exact at0 | exact at1 | exact at2 | exact at3); (case hy => rfl); (case hs => exact size35); (case h1 => first | exact rowL_one _ | exact nodeL_one _ | simp [Value.oneCell']); (case hi => rfl); intro _ hM; simp only [List.set_cons_zero, List.set_cons_succ] at hM; clear HM; have HM := Aside0.mk hM; clear hM)
      | ((with_reducible refine' store_all (ty := 49) HM.out ?hw rfl ?hx ?hm _ ?hy ?hs ?h1 ?hi ?_); (case hw => rfl); (case hx => rfl); (case hm => first | exact at0 | exact at1 | exact at2 | exact at3); (case hy => rfl); (case hs => exact size49); (case h1 => first | exact rowL_one _ | exact nodeL_one _ | simp [Value.oneCell']); (case hi => rfl); intro _ hM; simp only [List.set_cons_zero, List.set_cons_succ] at hM; clear HM; have HM := Aside0.mk hM; clear hM)
      | ((with_reducible refine' box_zero (ty := 35) HM.out ?hw rfl zero35 _ ?hc ?_); (case hw => rfl); (case hc => rfl); intro _ _ hM; clear HM; have HM := Aside0.mk hM; clear hM)
      | ((with_reducible refine' box_zero (ty := 49) HM.out ?hw rfl zero49 _ ?hc ?_); (case hw => rfl); (case hc => rfl); intro _ _ hM; clear HM; have HM := Aside0.mk hM; clear hM))
          go_roundw
          case rel => exact ⟨i + 1, l, n, A, c, by go_num, ⟨by omega⟩, ⟨by rw [hsucc.out]; rw [hstep.out, HQ.out]⟩, HC, ⟨(HM.out.drop).imp (fun w h => ⟨h.1.1.1, h.1.1.2⟩)⟩⟩
          case measure => simp [intOf]; omega
        have HGB := Aside0.mk (clean_gd he)
        have HQ := Aside0.mk (show put14 (l, n) x = ((linkP l n (cleanS x.f0.data.toList).1 (cleanS x.f1.data.toList).1).1, (linkP l n (cleanS x.f0.data.toList).1 (cleanS x.f1.data.toList).1).2.1) by unfold put14; rw [if_neg HS.out, if_neg ht, if_pos he])
        rw [he]
        clear he ht
        generalize (cleanS x.f0.data.toList).1 = ps at HM HCA HCL HGA HQ ⊢
        generalize (cleanS x.f1.data.toList).1 = qs at HM HCB HGB HQ ⊢
        go_upto_region 9 with (first
      | go_skip
      | ((with_reducible refine' load_cell HM.out ?hw rfl ?hx ?hm ?ha ?hv ?_); (case hw => rfl); (case hx => rfl); (case ha => exact nag _ (by decide)); (case hm => first | exact m0 | exact m1 | exact m2 | exact m3); (case hv => rfl))
      | ((with_reducible refine' load_all (ty := 35) HM.out ?hw rfl ?hx ?hm agg35 ?hl ?_); (case hw => rfl); (case hx => rfl); (case hm => first | exact m0 | exact m1 | exact m2 | exact m3); (case hl => rfl))
      | ((with_reducible refine' store_all (ty := 35) HM.out ?hw rfl ?hx ?hm _ ?hy ?hs ?h1 ?hi ?_); (case hw => rfl); (case hx => rfl); (case hm => first | exact at0 | exact at1 | exact at2 | exact at3); (case hy => rfl); (case hs => exact size35); (case h1 => first | exact rowL_one _ | exact nodeL_one _ | simp [Value.oneCell']); (case hi => rfl); intro _ hM; simp only [List.set_cons_zero, List.set_cons_succ] at hM; clear HM; have HM := Aside0.mk hM; clear hM)
      | ((with_reducible refine' store_all (ty := 49) HM.out ?hw rfl ?hx ?hm _ ?hy ?hs ?h1 ?hi ?_); (case hw => rfl); (case hx => rfl); (case hm => first | exact at0 | exact at1 | exact at2 | exact at3); (case hy => rfl); (case hs => exact size49); (case h1 => first | exact rowL_one _ | exact nodeL_one _ | simp [Value.oneCell']); (case hi => rfl); intro _ hM; simp only [List.set_cons_zero, List.set_cons_succ] at hM; clear HM; have HM := Aside0.mk hM; clear hM)
      | ((with_reducible refine' box_zero (ty := 35) HM.out ?hw rfl zero35 _ ?hc ?_); (case hw => rfl); (case hc => rfl); intro _ _ hM; clear HM; have HM := Aside0.mk hM; clear hM)
      | ((with_reducible refine' box_zero (ty := 49) HM.out ?hw rfl zero49 _ ?hc ?_); (case hw => rfl); (case hc => rfl); intro _ _ hM; clear HM; have HM := Aside0.mk hM; clear hM))
        refine r_start (ds := [9]) HM.out #[false, false, false, false, false, false, false, false, false, false] (by kernel_rfl) rfl rfl (fun _ hM => ?_)
        refine with_tabW pl14r9Tab pl14r9Bits (fun HT_ HW_ => ?_)
        clear HM
        have HM := Aside0.mk hM
        clear hM
        refine pure_ (i := 1) (N := (some 57)) (v := ?_) (a' := ?_) #[false, true, false, false, false, false, false, false, false, false] rfl rfl (any_of HT_.out (by kernel_rfl)) (fun _ _ _ h => h) (Or.inl ⟨by rfl, ?_⟩) ?_ ?_
        rotate_left
        · intro w'
          go_simp
          with_reducible rfl
        rotate_left
        · (simp only [Act.put, fillAll, List.setIfInBounds_toArray, List.set_cons_zero, List.set_cons_succ, i64_w, i32_w]; rfl)
        refine pure_ (i := 3) (N := (some 59)) (v := ?_) (a' := ?_) #[false, true, false, true, false, false, false, false, false, false] rfl rfl (any_of HT_.out (by kernel_rfl)) (fun _ _ _ h => h) (Or.inl ⟨by rfl, ?_⟩) ?_ ?_
        rotate_left
        · intro w'
          go_simp
          with_reducible rfl
        rotate_left
        · (simp only [Act.put, fillAll, List.setIfInBounds_toArray, List.set_cons_zero, List.set_cons_succ, i64_w, i32_w]; rfl)
        apply r_all (i := 0) (N := (some 56)) #[true, true, false, true, false, false, false, false, false, false]
        (case hi => rfl)
        (case hN => rfl)
        (case hc => exact take_ofW HT_.out HW_.out (by kernel_rfl))
        (case hQ => exact fun _ _ _ h => h)
        (case ho => rfl)
        (case hw => rfl)
        (case hx => rfl)
        (case ha => exact agg35)
        (case hH => first | exact HM.out.held | exact HM.out.heldTail | exact HM.out.heldTail2)
        (case hm => first | exact m0 | exact m1 | exact m2 | exact m3)
        (case hl => rfl)
        (case hp => (simp only [Act.put, fillAll, List.setIfInBounds_toArray, List.set_cons_zero, List.set_cons_succ, i64_w, i32_w]; rfl))
        refine one_ (i := 2) (N := (some 58)) #[true, true, true, true, false, false, false, false, false, false] rfl rfl (one_of HT_.out (by kernel_rfl)) (by decide) (fun K hK => ?_)
        refine goes_ Tryd.func24 (by kernel_rfl) rfl _ (by rfl) rfl rfl (by simp only [List.map_toArray, List.map_cons, List.map_nil]; rfl) ?_
        refine (join_M HM.out ?hS HCA.out HGA.out).mono ?_
        (case hS => first | exact fun _ h => h | exact fun _ h => h.2 | exact fun _ h => h.1 | exact fun _ h => h.1.2 | exact fun _ h => h.1.1 | exact fun _ h => h.1.1.2 | exact fun _ h => h.1.1.1 | exact fun _ h => h.1.1.1.2 | exact fun _ h => h.1.1.1.1)
        rintro e w_ ⟨rfl, hM⟩
        refine ⟨_, rfl, ?_⟩
        refine hK.out _ _ hM.held (fun _ => ?_)
        clear hK K
        clear HM
        have HM := Aside0.mk hM
        clear hM
        refine norm_ (a' := ?_) ?_ ?_
        rotate_left
        · (simp only [Act.put, fillAll, List.setIfInBounds_toArray, List.set_cons_zero, List.set_cons_succ, i64_w, i32_w]; rfl)
        refine one_ (i := 4) (N := (some 60)) #[true, true, true, true, true, false, false, false, false, false] rfl rfl (one_of HT_.out (by kernel_rfl)) (by decide) (fun K hK => ?_)
        refine goes_ Tryd.func24 (by kernel_rfl) rfl _ (by rfl) rfl rfl (by simp only [List.map_toArray, List.map_cons, List.map_nil]; rfl) ?_
        refine (join_M HM.out ?hS HCB.out HGB.out).mono ?_
        (case hS => first | exact fun _ h => h | exact fun _ h => h.2 | exact fun _ h => h.1 | exact fun _ h => h.1.2 | exact fun _ h => h.1.1 | exact fun _ h => h.1.1.2 | exact fun _ h => h.1.1.1 | exact fun _ h => h.1.1.1.2 | exact fun _ h => h.1.1.1.1)
        rintro e w_ ⟨rfl, hM⟩
        refine ⟨_, rfl, ?_⟩
        refine hK.out _ _ hM.held (fun _ => ?_)
        clear hK K
        clear HM
        have HM := Aside0.mk hM
        clear hM
        refine norm_ (a' := ?_) ?_ ?_
        rotate_left
        · (simp only [Act.put, fillAll, List.setIfInBounds_toArray, List.set_cons_zero, List.set_cons_succ, i64_w, i32_w]; rfl)
        refine one_ (i := 5) (N := (some 61)) #[true, true, true, true, true, true, false, false, false, false] rfl rfl (one_of HT_.out (by kernel_rfl)) (by decide) (fun K hK => ?_)
        refine goes_ Tryd.func26 (by kernel_rfl) rfl _ (by rfl) rfl rfl (by simp only [List.map_toArray, List.map_cons, List.map_nil]; rfl) ?_
        refine (link_M HM.out ?hS HI.out HC.out HL.out HN.out HCL.out HGB.out).mono ?_
        (case hS => first | exact fun _ h => h | exact fun _ h => h.2 | exact fun _ h => h.1 | exact fun _ h => h.1.2 | exact fun _ h => h.1.1 | exact fun _ h => h.1.1.2 | exact fun _ h => h.1.1.1 | exact fun _ h => h.1.1.1.2 | exact fun _ h => h.1.1.1.1)
        rintro e w_ ⟨A3, c3, rfl, hc3, hM⟩
        refine ⟨_, rfl, ?_⟩
        refine hK.out _ _ hM.held (fun _ => ?_)
        clear hK K
        have HC3 := Aside0.mk hc3
        clear hc3
        clear HM
        have HM := Aside0.mk hM
        clear hM
        refine norm_ (a' := ?_) ?_ ?_
        rotate_left
        · (simp only [Act.put, fillAll, List.setIfInBounds_toArray, List.set_cons_zero, List.set_cons_succ, i64_w, i32_w]; rfl)
        refine pure_ (i := 6) (N := (some 55)) (v := ?_) (a' := ?_) #[true, true, true, true, true, true, true, false, false, false] rfl rfl (any_of HT_.out (by kernel_rfl)) (fun _ _ _ h => h) (Or.inl ⟨by rfl, ?_⟩) ?_ ?_
        rotate_left
        · intro w'
          go_simp
          with_reducible rfl
        rotate_left
        · (simp only [Act.put, fillAll, List.setIfInBounds_toArray, List.set_cons_zero, List.set_cons_succ, i64_w, i32_w]; rfl)
        refine pure_ (i := 7) (N := (some 62)) (v := ?_) (a' := ?_) #[true, true, true, true, true, true, true, true, false, false] rfl rfl (any_of HT_.out (by kernel_rfl)) (fun _ _ _ h => h) (Or.inl ⟨by rfl, ?_⟩) ?_ ?_
        rotate_left
        · intro w'
          go_simp
          with_reducible rfl
        rotate_left
        · (simp only [Act.put, fillAll, List.setIfInBounds_toArray, List.set_cons_zero, List.set_cons_succ, i64_w, i32_w]; rfl)
        refine pure_ (i := 8) (N := (some 63)) (v := ?_) (a' := ?_) #[true, true, true, true, true, true, true, true, true, false] rfl rfl (any_of HT_.out (by kernel_rfl)) (fun _ _ _ h => h) (Or.inl ⟨by rfl, ?_⟩) ?_ ?_
        rotate_left
        · intro w'
          go_simp
          with_reducible rfl
        rotate_left
        · (simp only [Act.put, fillAll, List.setIfInBounds_toArray, List.set_cons_zero, List.set_cons_succ, i64_w, i32_w]; rfl)
        refine last_ (i := 9) (N := none) #[true, true, true, true, true, true, true, true, true, true] rfl rfl (one_of HT_.out (by kernel_rfl)) (by decide) (fun K hK => ?_)
        apply r_put HM.out
        (case ho => rfl)
        (case hw => rfl)
        (case hN => rfl)
        (case hx => rfl)
        (case hm => first | exact at0 | exact at1 | exact at2 | exact at3)
        (case hy => rfl)
        (case hs => exact size35)
        (case h1 => first | exact rowL_one _ | exact nodeL_one _ | simp [Value.oneCell'])
        (case hi => rfl)
        intro _ hM
        refine hK.out _ _ ?_
        clear hK K
        simp only [List.set_cons_zero, List.set_cons_succ] at hM
        clear HM
        have HM := Aside0.mk hM
        clear hM
        refine done_ (done_of HT_.out (by kernel_rfl)) ?_
        go_wp2
        go_roundw
        case rel => exact ⟨i + 1, _, _, A3, c3, by go_num, ⟨by omega⟩, ⟨by rw [hsucc.out]; rw [hstep.out, HQ.out]⟩, HC3, ⟨(HM.out.drop).imp (fun w h => ⟨h.1.1.1.1, h.2⟩)⟩⟩
        case measure => simp [intOf]; omega
      have t0 : (x.f1.toList == ([] : List UInt8)) = true := beq_iff_eq.2 (by rw [toList_data]; exact ht)
      have t1 : x.f1.toList.isEmpty = true := List.isEmpty_iff.2 (by rw [toList_data]; exact ht)
      by_cases h1 : x.f2 = 1
      case pos =>
        have HQ := Aside0.mk (show put14 (l, n) x = ((addP l n (cleanS x.f0.data.toList).1 (ndFile x.f3)).1, (addP l n (cleanS x.f0.data.toList).1 (ndFile x.f3)).2.1) by unfold put14; rw [if_neg HS.out, if_pos ht, if_pos h1])
        have u1 : (x.f2 == 1) = true := beq_iff_eq.2 h1
        clear h1 ht
        generalize (cleanS x.f0.data.toList).1 = ps at HM HCA HCL HGA HQ ⊢
        go_upto_region 12 with (first
      | go_skip
      | ((with_reducible refine' load_cell HM.out ?hw rfl ?hx ?hm ?ha ?hv ?_); (case hw => rfl); (case hx => rfl); (case ha => exact nag _ (by decide)); (case hm => first | exact m0 | exact m1 | exact m2 | exact m3); (case hv => rfl))
      | ((with_reducible refine' load_all (ty := 35) HM.out ?hw rfl ?hx ?hm agg35 ?hl ?_); (case hw => rfl); (case hx => rfl); (case hm => first | exact m0 | exact m1 | exact m2 | exact m3); (case hl => rfl))
      | ((with_reducible refine' store_all (ty := 35) HM.out ?hw rfl ?hx ?hm _ ?hy ?hs ?h1 ?hi ?_); (case hw => rfl); (case hx => rfl); (case hm => first | exact at0 | exact at1 | exact at2 | exact at3); (case hy => rfl); (case hs => exact size35); (case h1 => first | exact rowL_one _ | exact nodeL_one _ | simp [Value.oneCell']); (case hi => rfl); intro _ hM; simp only [List.set_cons_zero, List.set_cons_succ] at hM; clear HM; have HM := Aside0.mk hM; clear hM)
      | ((with_reducible refine' store_all (ty := 49) HM.out ?hw rfl ?hx ?hm _ ?hy ?hs ?h1 ?hi ?_); (case hw => rfl); (case hx => rfl); (case hm => first | exact at0 | exact at1 | exact at2 | exact at3); (case hy => rfl); (case hs => exact size49); (case h1 => first | exact rowL_one _ | exact nodeL_one _ | simp [Value.oneCell']); (case hi => rfl); intro _ hM; simp only [List.set_cons_zero, List.set_cons_succ] at hM; clear HM; have HM := Aside0.mk hM; clear hM)
      | ((with_reducible refine' box_zero (ty := 35) HM.out ?hw rfl zero35 _ ?hc ?_); (case hw => rfl); (case hc => rfl); intro _ _ hM; clear HM; have HM := Aside0.mk hM; clear hM)
      | ((with_reducible refine' box_zero (ty := 49) HM.out ?hw rfl zero49 _ ?hc ?_); (case hw => rfl); (case hc => rfl); intro _ _ hM; clear HM; have HM := Aside0.mk hM; clear hM))
        refine r_start (ds := [11]) HM.out #[false, false, false, false, false, false, false, false, false, false, false, false] (by kernel_rfl) rfl rfl (fun _ hM => ?_)
        refine with_tabW pl14r12Tab pl14r12Bits (fun HT_ HW_ => ?_)
        clear HM
        have HM := Aside0.mk hM
        clear hM
        refine pure_ (i := 1) (N := (some 74)) (v := ?_) (a' := ?_) #[false, true, false, false, false, false, false, false, false, false, false, false] rfl rfl (any_of HT_.out (by kernel_rfl)) (fun _ _ _ h => h) (Or.inl ⟨by rfl, ?_⟩) ?_ ?_
        rotate_left
        · intro w'
          go_simp
          with_reducible rfl
        rotate_left
        · (simp only [Act.put, fillAll, List.setIfInBounds_toArray, List.set_cons_zero, List.set_cons_succ, i64_w, i32_w]; rfl)
        refine pure_ (i := 3) (N := (some 76)) (v := ?_) (a' := ?_) #[false, true, false, true, false, false, false, false, false, false, false, false] rfl rfl (any_of HT_.out (by kernel_rfl)) (fun _ _ _ h => h) (Or.inl ⟨by rfl, ?_⟩) ?_ ?_
        rotate_left
        · intro w'
          go_simp
          with_reducible rfl
        rotate_left
        · (simp only [Act.put, fillAll, List.setIfInBounds_toArray, List.set_cons_zero, List.set_cons_succ, i64_w, i32_w]; rfl)
        apply r_all (i := 0) (N := (some 73)) #[true, true, false, true, false, false, false, false, false, false, false, false]
        (case hi => rfl)
        (case hN => rfl)
        (case hc => exact take_ofW HT_.out HW_.out (by kernel_rfl))
        (case hQ => exact fun _ _ _ h => h)
        (case ho => rfl)
        (case hw => rfl)
        (case hx => rfl)
        (case ha => exact agg35)
        (case hH => first | exact HM.out.held | exact HM.out.heldTail | exact HM.out.heldTail2)
        (case hm => first | exact m0 | exact m1 | exact m2 | exact m3)
        (case hl => rfl)
        (case hp => (simp only [Act.put, fillAll, List.setIfInBounds_toArray, List.set_cons_zero, List.set_cons_succ, i64_w, i32_w]; rfl))
        apply r_cell (i := 4) (N := (some 77)) #[true, true, false, true, true, false, false, false, false, false, false, false]
        (case hi => rfl)
        (case hN => rfl)
        (case hc => exact take_ofW HT_.out HW_.out (by kernel_rfl))
        (case hQ => exact fun _ _ _ h => h)
        (case ho => rfl)
        (case hw => rfl)
        (case hx => rfl)
        (case ha => exact nag _ (by decide))
        (case hH => first | exact HM.out.held | exact HM.out.heldTail | exact HM.out.heldTail2)
        (case hm => first | exact m0 | exact m1 | exact m2 | exact m3)
        (case hv => rfl)
        (case hp => (simp only [Act.put, fillAll, List.setIfInBounds_toArray, List.set_cons_zero, List.set_cons_succ, i64_w, i32_w]; rfl))
        refine pure_ (i := 5) (N := (some 78)) (v := ?_) (a' := ?_) #[true, true, false, true, true, true, false, false, false, false, false, false] rfl rfl (any_of HT_.out (by kernel_rfl)) (fun _ _ _ h => h) (Or.inl ⟨by rfl, ?_⟩) ?_ ?_
        rotate_left
        · intro w'
          go_simp
          with_reducible rfl
        rotate_left
        · (simp only [Act.put, fillAll, List.setIfInBounds_toArray, List.set_cons_zero, List.set_cons_succ, i64_w, i32_w]; rfl)
        refine pure_ (i := 6) (N := (some 79)) (v := ?_) (a' := ?_) #[true, true, false, true, true, true, true, false, false, false, false, false] rfl rfl (any_of HT_.out (by kernel_rfl)) (fun _ _ _ h => h) (Or.inl ⟨by rfl, ?_⟩) ?_ ?_
        rotate_left
        · intro w'
          go_simp
          with_reducible rfl
        rotate_left
        · (simp only [Act.put, fillAll, List.setIfInBounds_toArray, List.set_cons_zero, List.set_cons_succ, i64_w, i32_w]; rfl)
        refine one_ (i := 2) (N := (some 75)) #[true, true, true, true, true, true, true, false, false, false, false, false] rfl rfl (one_of HT_.out (by kernel_rfl)) (by decide) (fun K hK => ?_)
        refine goes_ Tryd.func24 (by kernel_rfl) rfl _ (by rfl) rfl rfl (by simp only [List.map_toArray, List.map_cons, List.map_nil]; rfl) ?_
        refine (join_M HM.out ?hS HCA.out HGA.out).mono ?_
        (case hS => first | exact fun _ h => h | exact fun _ h => h.2 | exact fun _ h => h.1 | exact fun _ h => h.1.2 | exact fun _ h => h.1.1 | exact fun _ h => h.1.1.2 | exact fun _ h => h.1.1.1 | exact fun _ h => h.1.1.1.2 | exact fun _ h => h.1.1.1.1)
        rintro e w_ ⟨rfl, hM⟩
        refine ⟨_, rfl, ?_⟩
        refine hK.out _ _ hM.held (fun _ => ?_)
        clear hK K
        clear HM
        have HM := Aside0.mk hM
        clear hM
        refine norm_ (a' := ?_) ?_ ?_
        rotate_left
        · (simp only [Act.put, fillAll, List.setIfInBounds_toArray, List.set_cons_zero, List.set_cons_succ, i64_w, i32_w]; rfl)
        refine one_ (i := 7) (N := (some 80)) #[true, true, true, true, true, true, true, true, false, false, false, false] rfl rfl (one_of HT_.out (by kernel_rfl)) (by decide) (fun K hK => ?_)
        refine goes_ Tryd.func38 (by kernel_rfl) rfl _ (by rfl) rfl rfl (by simp only [List.map_toArray, List.map_cons, List.map_nil]; rfl) ?_
        refine (add_M HM.out ?hS HI.out HC.out HL.out HN.out HCL.out (ndFile x.f3)).mono ?_
        (case hS => first | exact fun _ h => h | exact fun _ h => h.2 | exact fun _ h => h.1 | exact fun _ h => h.1.2 | exact fun _ h => h.1.1 | exact fun _ h => h.1.1.2 | exact fun _ h => h.1.1.1 | exact fun _ h => h.1.1.1.2 | exact fun _ h => h.1.1.1.1)
        rintro e w_ ⟨A3, c3, rfl, hc3, hM⟩
        refine ⟨_, rfl, ?_⟩
        refine hK.out _ _ hM.held (fun _ => ?_)
        clear hK K
        have HC3 := Aside0.mk hc3
        clear hc3
        clear HM
        have HM := Aside0.mk hM
        clear hM
        refine norm_ (a' := ?_) ?_ ?_
        rotate_left
        · (simp only [Act.put, fillAll, List.setIfInBounds_toArray, List.set_cons_zero, List.set_cons_succ, i64_w, i32_w]; rfl)
        refine pure_ (i := 8) (N := (some 72)) (v := ?_) (a' := ?_) #[true, true, true, true, true, true, true, true, true, false, false, false] rfl rfl (any_of HT_.out (by kernel_rfl)) (fun _ _ _ h => h) (Or.inl ⟨by rfl, ?_⟩) ?_ ?_
        rotate_left
        · intro w'
          go_simp
          with_reducible rfl
        rotate_left
        · (simp only [Act.put, fillAll, List.setIfInBounds_toArray, List.set_cons_zero, List.set_cons_succ, i64_w, i32_w]; rfl)
        refine pure_ (i := 9) (N := (some 81)) (v := ?_) (a' := ?_) #[true, true, true, true, true, true, true, true, true, true, false, false] rfl rfl (any_of HT_.out (by kernel_rfl)) (fun _ _ _ h => h) (Or.inl ⟨by rfl, ?_⟩) ?_ ?_
        rotate_left
        · intro w'
          go_simp
          with_reducible rfl
        rotate_left
        · (simp only [Act.put, fillAll, List.setIfInBounds_toArray, List.set_cons_zero, List.set_cons_succ, i64_w, i32_w]; rfl)
        refine pure_ (i := 10) (N := (some 82)) (v := ?_) (a' := ?_) #[true, true, true, true, true, true, true, true, true, true, true, false] rfl rfl (any_of HT_.out (by kernel_rfl)) (fun _ _ _ h => h) (Or.inl ⟨by rfl, ?_⟩) ?_ ?_
        rotate_left
        · intro w'
          go_simp
          with_reducible rfl
        rotate_left
        · (simp only [Act.put, fillAll, List.setIfInBounds_toArray, List.set_cons_zero, List.set_cons_succ, i64_w, i32_w]; rfl)
        refine last_ (i := 11) (N := none) #[true, true, true, true, true, true, true, true, true, true, true, true] rfl rfl (one_of HT_.out (by kernel_rfl)) (by decide) (fun K hK => ?_)
        apply r_put HM.out
        (case ho => rfl)
        (case hw => rfl)
        (case hN => rfl)
        (case hx => rfl)
        (case hm => first | exact at0 | exact at1 | exact at2 | exact at3)
        (case hy => rfl)
        (case hs => exact size35)
        (case h1 => first | exact rowL_one _ | exact nodeL_one _ | simp [Value.oneCell'])
        (case hi => rfl)
        intro _ hM
        refine hK.out _ _ ?_
        clear hK K
        simp only [List.set_cons_zero, List.set_cons_succ] at hM
        clear HM
        have HM := Aside0.mk hM
        clear hM
        refine done_ (done_of HT_.out (by kernel_rfl)) ?_
        go_wp2
        go_roundw
        case rel => exact ⟨i + 1, _, _, A3, c3, by go_num, ⟨by omega⟩, ⟨by rw [hsucc.out]; rw [hstep.out, HQ.out]⟩, HC3, ⟨(HM.out.drop).imp (fun w h => ⟨h.1.1.1.1, h.2⟩)⟩⟩
        case measure => simp [intOf]; omega
      have u1 : (x.f2 == 1) = false := beq_eq_false_iff_ne.2 h1
      by_cases h2 : x.f2 = 3 ∨ x.f2 = 4
      case pos =>
        have HQ := Aside0.mk (show put14 (l, n) x = ((addP l n (cleanS x.f0.data.toList).1 (ndKind x.f2)).1, (addP l n (cleanS x.f0.data.toList).1 (ndKind x.f2)).2.1) by unfold put14; rw [if_neg HS.out, if_pos ht, if_neg h1, if_pos h2])
        clear h1 ht
        generalize (cleanS x.f0.data.toList).1 = ps at HM HCA HCL HGA HQ ⊢
        by_cases h3 : x.f2 = 3
        · have u2 : (x.f2 == 3) = true := beq_iff_eq.2 h3
          clear h2 h3
          go_upto_region 14 with (first
      | go_skip
      | ((with_reducible refine' load_cell HM.out ?hw rfl ?hx ?hm ?ha ?hv ?_); (case hw => rfl); (case hx => rfl); (case ha => exact nag _ (by decide)); (case hm => first | exact m0 | exact m1 | exact m2 | exact m3); (case hv => rfl))
      | ((with_reducible refine' load_all (ty := 35) HM.out ?hw rfl ?hx ?hm agg35 ?hl ?_); (case hw => rfl); (case hx => rfl); (case hm => first | exact m0 | exact m1 | exact m2 | exact m3); (case hl => rfl))
      | ((with_reducible refine' store_all (ty := 35) HM.out ?hw rfl ?hx ?hm _ ?hy ?hs ?h1 ?hi ?_); (case hw => rfl); (case hx => rfl); (case hm => first | exact at0 | exact at1 | exact at2 | exact at3); (case hy => rfl); (case hs => exact size35); (case h1 => first | exact rowL_one _ | exact nodeL_one _ | simp [Value.oneCell']); (case hi => rfl); intro _ hM; simp only [List.set_cons_zero, List.set_cons_succ] at hM; clear HM; have HM := Aside0.mk hM; clear hM)
      | ((with_reducible refine' store_all (ty := 49) HM.out ?hw rfl ?hx ?hm _ ?hy ?hs ?h1 ?hi ?_); (case hw => rfl); (case hx => rfl); (case hm => first | exact at0 | exact at1 | exact at2 | exact at3); (case hy => rfl); (case hs => exact size49); (case h1 => first | exact rowL_one _ | exact nodeL_one _ | simp [Value.oneCell']); (case hi => rfl); intro _ hM; simp only [List.set_cons_zero, List.set_cons_succ] at hM; clear HM; have HM := Aside0.mk hM; clear hM)
      | ((with_reducible refine' box_zero (ty := 35) HM.out ?hw rfl zero35 _ ?hc ?_); (case hw => rfl); (case hc => rfl); intro _ _ hM; clear HM; have HM := Aside0.mk hM; clear hM)
      | ((with_reducible refine' box_zero (ty := 49) HM.out ?hw rfl zero49 _ ?hc ?_); (case hw => rfl); (case hc => rfl); intro _ _ hM; clear HM; have HM := Aside0.mk hM; clear hM))
          refine r_start (ds := [10]) HM.out #[false, false, false, false, false, false, false, false, false, false, false] (by kernel_rfl) rfl rfl (fun _ hM => ?_)
          refine with_tabW pl14r14Tab pl14r14Bits (fun HT_ HW_ => ?_)
          clear HM
          have HM := Aside0.mk hM
          clear hM
          refine pure_ (i := 1) (N := (some 94)) (v := ?_) (a' := ?_) #[false, true, false, false, false, false, false, false, false, false, false] rfl rfl (any_of HT_.out (by kernel_rfl)) (fun _ _ _ h => h) (Or.inl ⟨by rfl, ?_⟩) ?_ ?_
          rotate_left
          · intro w'
            go_simp
            with_reducible rfl
          rotate_left
          · (simp only [Act.put, fillAll, List.setIfInBounds_toArray, List.set_cons_zero, List.set_cons_succ, i64_w, i32_w]; rfl)
          refine pure_ (i := 3) (N := (some 96)) (v := ?_) (a' := ?_) #[false, true, false, true, false, false, false, false, false, false, false] rfl rfl (any_of HT_.out (by kernel_rfl)) (fun _ _ _ h => h) (Or.inl ⟨by rfl, ?_⟩) ?_ ?_
          rotate_left
          · intro w'
            go_simp
            with_reducible rfl
          rotate_left
          · (simp only [Act.put, fillAll, List.setIfInBounds_toArray, List.set_cons_zero, List.set_cons_succ, i64_w, i32_w]; rfl)
          apply r_all (i := 0) (N := (some 93)) #[true, true, false, true, false, false, false, false, false, false, false]
          (case hi => rfl)
          (case hN => rfl)
          (case hc => exact take_ofW HT_.out HW_.out (by kernel_rfl))
          (case hQ => exact fun _ _ _ h => h)
          (case ho => rfl)
          (case hw => rfl)
          (case hx => rfl)
          (case ha => exact agg35)
          (case hH => first | exact HM.out.held | exact HM.out.heldTail | exact HM.out.heldTail2)
          (case hm => first | exact m0 | exact m1 | exact m2 | exact m3)
          (case hl => rfl)
          (case hp => (simp only [Act.put, fillAll, List.setIfInBounds_toArray, List.set_cons_zero, List.set_cons_succ, i64_w, i32_w]; rfl))
          apply r_cell (i := 4) (N := (some 97)) #[true, true, false, true, true, false, false, false, false, false, false]
          (case hi => rfl)
          (case hN => rfl)
          (case hc => exact take_ofW HT_.out HW_.out (by kernel_rfl))
          (case hQ => exact fun _ _ _ h => h)
          (case ho => rfl)
          (case hw => rfl)
          (case hx => rfl)
          (case ha => exact nag _ (by decide))
          (case hH => first | exact HM.out.held | exact HM.out.heldTail | exact HM.out.heldTail2)
          (case hm => first | exact m0 | exact m1 | exact m2 | exact m3)
          (case hv => rfl)
          (case hp => (simp only [Act.put, fillAll, List.setIfInBounds_toArray, List.set_cons_zero, List.set_cons_succ, i64_w, i32_w]; rfl))
          refine pure_ (i := 5) (N := (some 98)) (v := ?_) (a' := ?_) #[true, true, false, true, true, true, false, false, false, false, false] rfl rfl (any_of HT_.out (by kernel_rfl)) (fun _ _ _ h => h) (Or.inl ⟨by rfl, ?_⟩) ?_ ?_
          rotate_left
          · intro w'
            go_simp
            with_reducible rfl
          rotate_left
          · (simp only [Act.put, fillAll, List.setIfInBounds_toArray, List.set_cons_zero, List.set_cons_succ, i64_w, i32_w]; rfl)
          refine one_ (i := 2) (N := (some 95)) #[true, true, true, true, true, true, false, false, false, false, false] rfl rfl (one_of HT_.out (by kernel_rfl)) (by decide) (fun K hK => ?_)
          refine goes_ Tryd.func24 (by kernel_rfl) rfl _ (by rfl) rfl rfl (by simp only [List.map_toArray, List.map_cons, List.map_nil]; rfl) ?_
          refine (join_M HM.out ?hS HCA.out HGA.out).mono ?_
          (case hS => first | exact fun _ h => h | exact fun _ h => h.2 | exact fun _ h => h.1 | exact fun _ h => h.1.2 | exact fun _ h => h.1.1 | exact fun _ h => h.1.1.2 | exact fun _ h => h.1.1.1 | exact fun _ h => h.1.1.1.2 | exact fun _ h => h.1.1.1.1)
          rintro e w_ ⟨rfl, hM⟩
          refine ⟨_, rfl, ?_⟩
          refine hK.out _ _ hM.held (fun _ => ?_)
          clear hK K
          clear HM
          have HM := Aside0.mk hM
          clear hM
          refine norm_ (a' := ?_) ?_ ?_
          rotate_left
          · (simp only [Act.put, fillAll, List.setIfInBounds_toArray, List.set_cons_zero, List.set_cons_succ, i64_w, i32_w]; rfl)
          refine one_ (i := 6) (N := (some 99)) #[true, true, true, true, true, true, true, false, false, false, false] rfl rfl (one_of HT_.out (by kernel_rfl)) (by decide) (fun K hK => ?_)
          refine goes_ Tryd.func38 (by kernel_rfl) rfl _ (by rfl) rfl rfl (by simp only [List.map_toArray, List.map_cons, List.map_nil]; rfl) ?_
          refine (add_M HM.out ?hS HI.out HC.out HL.out HN.out HCL.out (ndKind x.f2)).mono ?_
          (case hS => first | exact fun _ h => h | exact fun _ h => h.2 | exact fun _ h => h.1 | exact fun _ h => h.1.2 | exact fun _ h => h.1.1 | exact fun _ h => h.1.1.2 | exact fun _ h => h.1.1.1 | exact fun _ h => h.1.1.1.2 | exact fun _ h => h.1.1.1.1)
          rintro e w_ ⟨A3, c3, rfl, hc3, hM⟩
          refine ⟨_, rfl, ?_⟩
          refine hK.out _ _ hM.held (fun _ => ?_)
          clear hK K
          have HC3 := Aside0.mk hc3
          clear hc3
          clear HM
          have HM := Aside0.mk hM
          clear hM
          refine norm_ (a' := ?_) ?_ ?_
          rotate_left
          · (simp only [Act.put, fillAll, List.setIfInBounds_toArray, List.set_cons_zero, List.set_cons_succ, i64_w, i32_w]; rfl)
          refine pure_ (i := 7) (N := (some 92)) (v := ?_) (a' := ?_) #[true, true, true, true, true, true, true, true, false, false, false] rfl rfl (any_of HT_.out (by kernel_rfl)) (fun _ _ _ h => h) (Or.inl ⟨by rfl, ?_⟩) ?_ ?_
          rotate_left
          · intro w'
            go_simp
            with_reducible rfl
          rotate_left
          · (simp only [Act.put, fillAll, List.setIfInBounds_toArray, List.set_cons_zero, List.set_cons_succ, i64_w, i32_w]; rfl)
          refine pure_ (i := 8) (N := (some 100)) (v := ?_) (a' := ?_) #[true, true, true, true, true, true, true, true, true, false, false] rfl rfl (any_of HT_.out (by kernel_rfl)) (fun _ _ _ h => h) (Or.inl ⟨by rfl, ?_⟩) ?_ ?_
          rotate_left
          · intro w'
            go_simp
            with_reducible rfl
          rotate_left
          · (simp only [Act.put, fillAll, List.setIfInBounds_toArray, List.set_cons_zero, List.set_cons_succ, i64_w, i32_w]; rfl)
          refine pure_ (i := 9) (N := (some 101)) (v := ?_) (a' := ?_) #[true, true, true, true, true, true, true, true, true, true, false] rfl rfl (any_of HT_.out (by kernel_rfl)) (fun _ _ _ h => h) (Or.inl ⟨by rfl, ?_⟩) ?_ ?_
          rotate_left
          · intro w'
            go_simp
            with_reducible rfl
          rotate_left
          · (simp only [Act.put, fillAll, List.setIfInBounds_toArray, List.set_cons_zero, List.set_cons_succ, i64_w, i32_w]; rfl)
          refine last_ (i := 10) (N := none) #[true, true, true, true, true, true, true, true, true, true, true] rfl rfl (one_of HT_.out (by kernel_rfl)) (by decide) (fun K hK => ?_)
          apply r_put HM.out
          (case ho => rfl)
          (case hw => rfl)
          (case hN => rfl)
          (case hx => rfl)
          (case hm => first | exact at0 | exact at1 | exact at2 | exact at3)
          (case hy => rfl)
          (case hs => exact size35)
          (case h1 => first | exact rowL_one _ | exact nodeL_one _ | simp [Value.oneCell'])
          (case hi => rfl)
          intro _ hM
          refine hK.out _ _ ?_
          clear hK K
          simp only [List.set_cons_zero, List.set_cons_succ] at hM
          clear HM
          have HM := Aside0.mk hM
          clear hM
          refine done_ (done_of HT_.out (by kernel_rfl)) ?_
          go_wp2
          go_roundw
          case rel => exact ⟨i + 1, _, _, A3, c3, by go_num, ⟨by omega⟩, ⟨by rw [hsucc.out]; rw [hstep.out, HQ.out]⟩, HC3, ⟨(HM.out.drop).imp (fun w h => ⟨h.1.1.1.1, h.2⟩)⟩⟩
          case measure => simp [intOf]; omega
        · have u2 : (x.f2 == 3) = false := beq_eq_false_iff_ne.2 h3
          have u3 : (x.f2 == 4) = true := beq_iff_eq.2 (h2.resolve_left h3)
          clear h2 h3
          go_upto_region 14 with (first
      | go_skip
      | ((with_reducible refine' load_cell HM.out ?hw rfl ?hx ?hm ?ha ?hv ?_); (case hw => rfl); (case hx => rfl); (case ha => exact nag _ (by decide)); (case hm => first | exact m0 | exact m1 | exact m2 | exact m3); (case hv => rfl))
      | ((with_reducible refine' load_all (ty := 35) HM.out ?hw rfl ?hx ?hm agg35 ?hl ?_); (case hw => rfl); (case hx => rfl); (case hm => first | exact m0 | exact m1 | exact m2 | exact m3); (case hl => rfl))
      | ((with_reducible refine' store_all (ty := 35) HM.out ?hw rfl ?hx ?hm _ ?hy ?hs ?h1 ?hi ?_); (case hw => rfl); (case hx => rfl); (case hm => first | exact at0 | exact at1 | exact at2 | exact at3); (case hy => rfl); (case hs => exact size35); (case h1 => first | exact rowL_one _ | exact nodeL_one _ | simp [Value.oneCell']); (case hi => rfl); intro _ hM; simp only [List.set_cons_zero, List.set_cons_succ] at hM; clear HM; have HM := Aside0.mk hM; clear hM)
      | ((with_reducible refine' store_all (ty := 49) HM.out ?hw rfl ?hx ?hm _ ?hy ?hs ?h1 ?hi ?_); (case hw => rfl); (case hx => rfl); (case hm => first | exact at0 | exact at1 | exact at2 | exact at3); (case hy => rfl); (case hs => exact size49); (case h1 => first | exact rowL_one _ | exact nodeL_one _ | simp [Value.oneCell']); (case hi => rfl); intro _ hM; simp only [List.set_cons_zero, List.set_cons_succ] at hM; clear HM; have HM := Aside0.mk hM; clear hM)
      | ((with_reducible refine' box_zero (ty := 35) HM.out ?hw rfl zero35 _ ?hc ?_); (case hw => rfl); (case hc => rfl); intro _ _ hM; clear HM; have HM := Aside0.mk hM; clear hM)
      | ((with_reducible refine' box_zero (ty := 49) HM.out ?hw rfl zero49 _ ?hc ?_); (case hw => rfl); (case hc => rfl); intro _ _ hM; clear HM; have HM := Aside0.mk hM; clear hM))
          refine r_start (ds := [10]) HM.out #[false, false, false, false, false, false, false, false, false, false, false] (by kernel_rfl) rfl rfl (fun _ hM => ?_)
          refine with_tabW pl14r14Tab pl14r14Bits (fun HT_ HW_ => ?_)
          clear HM
          have HM := Aside0.mk hM
          clear hM
          refine pure_ (i := 1) (N := (some 94)) (v := ?_) (a' := ?_) #[false, true, false, false, false, false, false, false, false, false, false] rfl rfl (any_of HT_.out (by kernel_rfl)) (fun _ _ _ h => h) (Or.inl ⟨by rfl, ?_⟩) ?_ ?_
          rotate_left
          · intro w'
            go_simp
            with_reducible rfl
          rotate_left
          · (simp only [Act.put, fillAll, List.setIfInBounds_toArray, List.set_cons_zero, List.set_cons_succ, i64_w, i32_w]; rfl)
          refine pure_ (i := 3) (N := (some 96)) (v := ?_) (a' := ?_) #[false, true, false, true, false, false, false, false, false, false, false] rfl rfl (any_of HT_.out (by kernel_rfl)) (fun _ _ _ h => h) (Or.inl ⟨by rfl, ?_⟩) ?_ ?_
          rotate_left
          · intro w'
            go_simp
            with_reducible rfl
          rotate_left
          · (simp only [Act.put, fillAll, List.setIfInBounds_toArray, List.set_cons_zero, List.set_cons_succ, i64_w, i32_w]; rfl)
          apply r_all (i := 0) (N := (some 93)) #[true, true, false, true, false, false, false, false, false, false, false]
          (case hi => rfl)
          (case hN => rfl)
          (case hc => exact take_ofW HT_.out HW_.out (by kernel_rfl))
          (case hQ => exact fun _ _ _ h => h)
          (case ho => rfl)
          (case hw => rfl)
          (case hx => rfl)
          (case ha => exact agg35)
          (case hH => first | exact HM.out.held | exact HM.out.heldTail | exact HM.out.heldTail2)
          (case hm => first | exact m0 | exact m1 | exact m2 | exact m3)
          (case hl => rfl)
          (case hp => (simp only [Act.put, fillAll, List.setIfInBounds_toArray, List.set_cons_zero, List.set_cons_succ, i64_w, i32_w]; rfl))
          apply r_cell (i := 4) (N := (some 97)) #[true, true, false, true, true, false, false, false, false, false, false]
          (case hi => rfl)
          (case hN => rfl)
          (case hc => exact take_ofW HT_.out HW_.out (by kernel_rfl))
          (case hQ => exact fun _ _ _ h => h)
          (case ho => rfl)
          (case hw => rfl)
          (case hx => rfl)
          (case ha => exact nag _ (by decide))
          (case hH => first | exact HM.out.held | exact HM.out.heldTail | exact HM.out.heldTail2)
          (case hm => first | exact m0 | exact m1 | exact m2 | exact m3)
          (case hv => rfl)
          (case hp => (simp only [Act.put, fillAll, List.setIfInBounds_toArray, List.set_cons_zero, List.set_cons_succ, i64_w, i32_w]; rfl))
          refine pure_ (i := 5) (N := (some 98)) (v := ?_) (a' := ?_) #[true, true, false, true, true, true, false, false, false, false, false] rfl rfl (any_of HT_.out (by kernel_rfl)) (fun _ _ _ h => h) (Or.inl ⟨by rfl, ?_⟩) ?_ ?_
          rotate_left
          · intro w'
            go_simp
            with_reducible rfl
          rotate_left
          · (simp only [Act.put, fillAll, List.setIfInBounds_toArray, List.set_cons_zero, List.set_cons_succ, i64_w, i32_w]; rfl)
          refine one_ (i := 2) (N := (some 95)) #[true, true, true, true, true, true, false, false, false, false, false] rfl rfl (one_of HT_.out (by kernel_rfl)) (by decide) (fun K hK => ?_)
          refine goes_ Tryd.func24 (by kernel_rfl) rfl _ (by rfl) rfl rfl (by simp only [List.map_toArray, List.map_cons, List.map_nil]; rfl) ?_
          refine (join_M HM.out ?hS HCA.out HGA.out).mono ?_
          (case hS => first | exact fun _ h => h | exact fun _ h => h.2 | exact fun _ h => h.1 | exact fun _ h => h.1.2 | exact fun _ h => h.1.1 | exact fun _ h => h.1.1.2 | exact fun _ h => h.1.1.1 | exact fun _ h => h.1.1.1.2 | exact fun _ h => h.1.1.1.1)
          rintro e w_ ⟨rfl, hM⟩
          refine ⟨_, rfl, ?_⟩
          refine hK.out _ _ hM.held (fun _ => ?_)
          clear hK K
          clear HM
          have HM := Aside0.mk hM
          clear hM
          refine norm_ (a' := ?_) ?_ ?_
          rotate_left
          · (simp only [Act.put, fillAll, List.setIfInBounds_toArray, List.set_cons_zero, List.set_cons_succ, i64_w, i32_w]; rfl)
          refine one_ (i := 6) (N := (some 99)) #[true, true, true, true, true, true, true, false, false, false, false] rfl rfl (one_of HT_.out (by kernel_rfl)) (by decide) (fun K hK => ?_)
          refine goes_ Tryd.func38 (by kernel_rfl) rfl _ (by rfl) rfl rfl (by simp only [List.map_toArray, List.map_cons, List.map_nil]; rfl) ?_
          refine (add_M HM.out ?hS HI.out HC.out HL.out HN.out HCL.out (ndKind x.f2)).mono ?_
          (case hS => first | exact fun _ h => h | exact fun _ h => h.2 | exact fun _ h => h.1 | exact fun _ h => h.1.2 | exact fun _ h => h.1.1 | exact fun _ h => h.1.1.2 | exact fun _ h => h.1.1.1 | exact fun _ h => h.1.1.1.2 | exact fun _ h => h.1.1.1.1)
          rintro e w_ ⟨A3, c3, rfl, hc3, hM⟩
          refine ⟨_, rfl, ?_⟩
          refine hK.out _ _ hM.held (fun _ => ?_)
          clear hK K
          have HC3 := Aside0.mk hc3
          clear hc3
          clear HM
          have HM := Aside0.mk hM
          clear hM
          refine norm_ (a' := ?_) ?_ ?_
          rotate_left
          · (simp only [Act.put, fillAll, List.setIfInBounds_toArray, List.set_cons_zero, List.set_cons_succ, i64_w, i32_w]; rfl)
          refine pure_ (i := 7) (N := (some 92)) (v := ?_) (a' := ?_) #[true, true, true, true, true, true, true, true, false, false, false] rfl rfl (any_of HT_.out (by kernel_rfl)) (fun _ _ _ h => h) (Or.inl ⟨by rfl, ?_⟩) ?_ ?_
          rotate_left
          · intro w'
            go_simp
            with_reducible rfl
          rotate_left
          · (simp only [Act.put, fillAll, List.setIfInBounds_toArray, List.set_cons_zero, List.set_cons_succ, i64_w, i32_w]; rfl)
          refine pure_ (i := 8) (N := (some 100)) (v := ?_) (a' := ?_) #[true, true, true, true, true, true, true, true, true, false, false] rfl rfl (any_of HT_.out (by kernel_rfl)) (fun _ _ _ h => h) (Or.inl ⟨by rfl, ?_⟩) ?_ ?_
          rotate_left
          · intro w'
            go_simp
            with_reducible rfl
          rotate_left
          · (simp only [Act.put, fillAll, List.setIfInBounds_toArray, List.set_cons_zero, List.set_cons_succ, i64_w, i32_w]; rfl)
          refine pure_ (i := 9) (N := (some 101)) (v := ?_) (a' := ?_) #[true, true, true, true, true, true, true, true, true, true, false] rfl rfl (any_of HT_.out (by kernel_rfl)) (fun _ _ _ h => h) (Or.inl ⟨by rfl, ?_⟩) ?_ ?_
          rotate_left
          · intro w'
            go_simp
            with_reducible rfl
          rotate_left
          · (simp only [Act.put, fillAll, List.setIfInBounds_toArray, List.set_cons_zero, List.set_cons_succ, i64_w, i32_w]; rfl)
          refine last_ (i := 10) (N := none) #[true, true, true, true, true, true, true, true, true, true, true] rfl rfl (one_of HT_.out (by kernel_rfl)) (by decide) (fun K hK => ?_)
          apply r_put HM.out
          (case ho => rfl)
          (case hw => rfl)
          (case hN => rfl)
          (case hx => rfl)
          (case hm => first | exact at0 | exact at1 | exact at2 | exact at3)
          (case hy => rfl)
          (case hs => exact size35)
          (case h1 => first | exact rowL_one _ | exact nodeL_one _ | simp [Value.oneCell'])
          (case hi => rfl)
          intro _ hM
          refine hK.out _ _ ?_
          clear hK K
          simp only [List.set_cons_zero, List.set_cons_succ] at hM
          clear HM
          have HM := Aside0.mk hM
          clear hM
          refine done_ (done_of HT_.out (by kernel_rfl)) ?_
          go_wp2
          go_roundw
          case rel => exact ⟨i + 1, _, _, A3, c3, by go_num, ⟨by omega⟩, ⟨by rw [hsucc.out]; rw [hstep.out, HQ.out]⟩, HC3, ⟨(HM.out.drop).imp (fun w h => ⟨h.1.1.1.1, h.2⟩)⟩⟩
          case measure => simp [intOf]; omega
      have HQ := Aside0.mk (show put14 (l, n) x = (l, n) by unfold put14; rw [if_neg HS.out, if_pos ht, if_neg h1, if_neg h2])
      have u2 : (x.f2 == 3) = false := beq_eq_false_iff_ne.2 (fun e => h2 (.inl e))
      have u3 : (x.f2 == 4) = false := beq_eq_false_iff_ne.2 (fun e => h2 (.inr e))
      clear h1 h2 ht
      go_wp2_with (first
      | go_skip
      | ((with_reducible refine' load_cell HM.out ?hw rfl ?hx ?hm ?ha ?hv ?_); (case hw => rfl); (case hx => rfl); (case ha => exact nag _ (by decide)); (case hm => first | exact m0 | exact m1 | exact m2 | exact m3); (case hv => rfl))
      | ((with_reducible refine' load_all (ty := 35) HM.out ?hw rfl ?hx ?hm agg35 ?hl ?_); (case hw => rfl); (case hx => rfl); (case hm => first | exact m0 | exact m1 | exact m2 | exact m3); (case hl => rfl))
      | ((with_reducible refine' store_all (ty := 35) HM.out ?hw rfl ?hx ?hm _ ?hy ?hs ?h1 ?hi ?_); (case hw => rfl); (case hx => rfl); (case hm => first | exact at0 | exact at1 | exact at2 | exact at3); (case hy => rfl); (case hs => exact size35); (case h1 => first | exact rowL_one _ | exact nodeL_one _ | simp [Value.oneCell']); (case hi => rfl); intro _ hM; simp only [List.set_cons_zero, List.set_cons_succ] at hM; clear HM; have HM := Aside0.mk hM; clear hM)
      | ((with_reducible refine' store_all (ty := 49) HM.out ?hw rfl ?hx ?hm _ ?hy ?hs ?h1 ?hi ?_); (case hw => rfl); (case hx => rfl); (case hm => first | exact at0 | exact at1 | exact at2 | exact at3); (case hy => rfl); (case hs => exact size49); (case h1 => first | exact rowL_one _ | exact nodeL_one _ | simp [Value.oneCell']); (case hi => rfl); intro _ hM; simp only [List.set_cons_zero, List.set_cons_succ] at hM; clear HM; have HM := Aside0.mk hM; clear hM)
      | ((with_reducible refine' box_zero (ty := 35) HM.out ?hw rfl zero35 _ ?hc ?_); (case hw => rfl); (case hc => rfl); intro _ _ hM; clear HM; have HM := Aside0.mk hM; clear hM)
      | ((with_reducible refine' box_zero (ty := 49) HM.out ?hw rfl zero49 _ ?hc ?_); (case hw => rfl); (case hc => rfl); intro _ _ hM; clear HM; have HM := Aside0.mk hM; clear hM))
      go_roundw
      case rel => exact ⟨i + 1, l, n, A, c, by go_num, ⟨by omega⟩, ⟨by rw [hsucc.out]; rw [hstep.out, HQ.out]⟩, HC, ⟨(HM.out.drop).imp (fun w h => ⟨h.1.1.1, h.1.1.2⟩)⟩⟩
      case measure => simp [intOf]; omega
    · have hil : i = xs.length := by have := HIX.out; omega
      have hlz : ¬ ((i : Int) < (xs.length : Int)) := by omega
      have HT2 : Aside0 ((l, n) = planted14 xs) := ⟨by have := HT.out; rw [hil, List.take_length] at this; exact this⟩
      clear HT hil
      go_wp2_with (first
      | go_skip
      | ((with_reducible refine' load_cell HM.out ?hw rfl ?hx ?hm ?ha ?hv ?_); (case hw => rfl); (case hx => rfl); (case ha => exact nag _ (by decide)); (case hm => first | exact m0 | exact m1 | exact m2 | exact m3); (case hv => rfl))
      | ((with_reducible refine' load_all (ty := 35) HM.out ?hw rfl ?hx ?hm agg35 ?hl ?_); (case hw => rfl); (case hx => rfl); (case hm => first | exact m0 | exact m1 | exact m2 | exact m3); (case hl => rfl))
      | ((with_reducible refine' store_all (ty := 35) HM.out ?hw rfl ?hx ?hm _ ?hy ?hs ?h1 ?hi ?_); (case hw => rfl); (case hx => rfl); (case hm => first | exact at0 | exact at1 | exact at2 | exact at3); (case hy => rfl); (case hs => exact size35); (case h1 => first | exact rowL_one _ | exact nodeL_one _ | simp [Value.oneCell']); (case hi => rfl); intro _ hM; simp only [List.set_cons_zero, List.set_cons_succ] at hM; clear HM; have HM := Aside0.mk hM; clear hM)
      | ((with_reducible refine' store_all (ty := 49) HM.out ?hw rfl ?hx ?hm _ ?hy ?hs ?h1 ?hi ?_); (case hw => rfl); (case hx => rfl); (case hm => first | exact at0 | exact at1 | exact at2 | exact at3); (case hy => rfl); (case hs => exact size49); (case h1 => first | exact rowL_one _ | exact nodeL_one _ | simp [Value.oneCell']); (case hi => rfl); intro _ hM; simp only [List.set_cons_zero, List.set_cons_succ] at hM; clear HM; have HM := Aside0.mk hM; clear hM)
      | ((with_reducible refine' box_zero (ty := 35) HM.out ?hw rfl zero35 _ ?hc ?_); (case hw => rfl); (case hc => rfl); intro _ _ hM; clear HM; have HM := Aside0.mk hM; clear hM)
      | ((with_reducible refine' box_zero (ty := 49) HM.out ?hw rfl zero49 _ ?hc ?_); (case hw => rfl); (case hc => rfl); intro _ _ hM; clear HM; have HM := Aside0.mk hM; clear hM))
      refine bodyPost_ret (ret_c HM.out rfl rfl (by first | exact m0 | exact m1 | exact m2 | exact m3) (by exact agg35)) rfl ?_
      have e1 := congrArg Prod.fst HT2.out
      have e2 := congrArg Prod.snd HT2.out
      simp only at e1 e2
      rw [← e1, ← e2]
      exact ⟨A, c, rfl, HC.out, HM.out.bare⟩
theorem planted14_M {w0 W : World} {P : Nat → Prop} {B : List Bx} {S : World → Prop} {A0 : Option Addr} {c0 : Nat} {xs : List S49} (HG : GG w0) (HM : Mem w0 P W B S) (hS : ∀ w, S w → Kd.C k49 w A0 xs.length xs) (hlen : xs.length ≤ 1000) :
    Calls Tryd.prog 19 #[.slice A0 xs.length c0] W fun e w' => ∃ A c, e = .returned (.agg #[.slice A (planted14 xs).1.length c, .int .i64 (planted14 xs).2]) ∧ (planted14 xs).1.length ≤ c ∧ Mem w0 P w' B (fun w => S w ∧ Tr A (planted14 xs).1 w) := by
  refine (planted14_walk W (fun k => k < W.heap.size ∧ k ∉ B.map (·.1) ∧ (P k ∨ w0.heap.size ≤ k)) (GG_below HG HM.below) A0 c0 xs (fun W' hW => hS _ (HM.old W' (fun k hk hp => hW k ⟨hk, hp⟩ hk))) hlen).mono ?_
  rintro e w' ⟨A, c, rfl, hc, hM⟩
  refine ⟨A, c, rfl, hc, HM.add hM.below (fun W' h => (hM.last W' (fun k hp hk => h k hk ?_)).2)⟩
  rcases hp with hp | hp
  · exact .inl hp.2
  · exact .inr hp
end Go.Proofs.YtolpamojbiipaaaDoor.XA
