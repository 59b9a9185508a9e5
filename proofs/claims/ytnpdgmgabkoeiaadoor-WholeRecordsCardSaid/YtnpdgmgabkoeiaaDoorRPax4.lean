/- pax.Number (what it answers hangs on the text alone), pax.Get (the last one of a key), kind's classes. Printed by wip/tools/gen_pax4.py. -/
import Derived.Test.YtnpdgmgabkoeiaaDoorRPax3
import Derived.Test.YtnpdgmgabkoeiaaDoorRMapText
import Derived.Test.YtnpdgmgabkoeiaaDoorXA2
import Derived.Test.YtnpdgmgabkoeiaaDoorXA3
namespace Go.Proofs.YtnpdgmgabkoeiaaDoor.R
open Go.RowKit Go.Proofs.YtnpdgmgabkoeiaaDoorW.PrintWords Go.Proofs.YtnpdgmgabkoeiaaDoorW.PrintLast Go.Proofs.YtnpdgmgabkoeiaaDoorW.PrintMore Go.Proofs.YtnpdgmgabkoeiaaDoor.Mem Go.Proofs.YtnpdgmgabkoeiaaDoor.Pure Go.Proofs.YtnpdgmgabkoeiaaDoor.XA
set_option linter.unusedVariables false
set_option linter.unusedSimpArgs false

def numF (s : ByteArray) : Int × Int := match Lib.parseIntB 64 s.data.toList with
  | .ok v => if Lib.itoa v = s.data.toList then (v, 0) else (0, 70)
  | _ => (0, 70)
set_option maxHeartbeats 2000000 in
set_option maxRecDepth 100000 in
theorem number_c (s : ByteArray) (hs : s.size ≤ 1000000) (w : World) (hG : GG w) :
    Calls Tryd.prog 9 #[.string s] w fun e w' => e = .returned (.tuple #[.int .i64 (numF s).1, .int .i64 (numF s).2]) ∧ Below w.heap.size w w' := by
  have HG := Aside0.mk hG
  by_cases hok : ∃ v, Lib.parseIntB 64 s.data.toList = .ok v
  · obtain ⟨v, hv⟩ := hok
    have hb := Lib.parseIntB_bounds hv
    have hP := pint_ok s hs v hv
    have hF := fmt_c v (by have := hb.1; simpa using this) (by have := hb.2; simp at this; omega)
    have HF := Aside0.mk hF
    have hnum : numF s = if Lib.itoa v = s.data.toList then (v, 0) else (0, 70) := by unfold numF; rw [hv]
    by_cases he : Lib.itoa v = s.data.toList
    · rw [hnum, if_pos he]
      have e1 : ((⟨(Lib.itoa v).toArray⟩ : ByteArray).toList == s.toList) = true := by rw [Lib.toList_data, Lib.toList_data]; simpa using he
      clear hv hb hF hs hG hnum he
      generalize (⟨(Lib.itoa v).toArray⟩ : ByteArray) = q at e1 HF
      go_enter Tryd.func9, Tryd.ntmps9
      go_wp2_with (first | (go_at_call 18; refine (hP _).mono ?_; rintro e w' ⟨rfl, hb⟩; have HB := Aside0.mk hb; clear hb) | (go_at_call 19; refine (HF.out _ (HG.out.below HB.out)).mono ?_; rintro e w' ⟨rfl, hb⟩; have HB2 := Aside0.mk (HB.out.trans (hb.mono HB.out.size)); clear hb))
      go_ret2
      exact ⟨rfl, HB2.out⟩
    · rw [hnum, if_neg he]
      have e1 : ((⟨(Lib.itoa v).toArray⟩ : ByteArray).toList == s.toList) = false := by rw [Lib.toList_data, Lib.toList_data]; simpa using he
      clear hv hb hF hs hG hnum he
      generalize (⟨(Lib.itoa v).toArray⟩ : ByteArray) = q at e1 HF
      go_enter Tryd.func9, Tryd.ntmps9
      go_wp2_with (first | (go_at_call 18; refine (hP _).mono ?_; rintro e w' ⟨rfl, hb⟩; have HB := Aside0.mk hb; clear hb) | (go_at_call 19; refine (HF.out _ (HG.out.below HB.out)).mono ?_; rintro e w' ⟨rfl, hb⟩; have HB2 := Aside0.mk (HB.out.trans (hb.mono HB.out.size)); clear hb))
      go_ret2
      exact ⟨rfl, HB2.out⟩
  · have hno : ∀ v, Lib.parseIntB 64 s.data.toList ≠ .ok v := fun v h => hok ⟨v, h⟩
    have hP := fun W hG => pint_no s hs hno W hG
    have hnum : numF s = (0, 70) := by
      unfold numF
      cases hp : Lib.parseIntB 64 s.data.toList
      · exact absurd hp (hno _)
      · rfl
      · rfl
    rw [hnum]
    have HP := Aside0.mk hP
    clear hno hok hs hG hnum hP
    go_enter Tryd.func9, Tryd.ntmps9
    go_wp2_with (first | (go_at_call 18; refine (HP.out _ HG.out).mono ?_; rintro e w' ⟨⟨z, t, p, rfl⟩, hb⟩; have HB := Aside0.mk hb; clear hb))
    go_ret2
    exact ⟨rfl, HB.out⟩
/-- The map of records: the last one of a key. -/
def mapOf (l : List S29) : List UInt8 → Option ByteArray := l.foldl (fun f r => putT f r.f0.data.toList r.f1) (fun _ => none)
theorem mapOf_snoc (l : List S29) (r : S29) : mapOf (l ++ [r]) = putT (mapOf l) r.f0.data.toList r.f1 := by simp [mapOf, List.foldl_append]
theorem mapOf_nil : mapOf [] = fun _ => none := rfl
theorem get_ev (l : List S29) (key : ByteArray) (hl : l.length ≤ 1000000) : ∀ i : Nat, i ≤ l.length → pax_Get.l0 (i + 1) l key ((i : Int) - 1) = some (match mapOf (l.take i) key.data.toList with | some v => (v, true) | none => ((⟨#[]⟩ : ByteArray), false)) := by
  intro i
  induction i with
  | zero => intro _; rfl
  | succ i ih =>
    intro hi
    have h0 : ((i + 1 : Nat) : Int) - 1 = (i : Int) := by omega
    rw [h0, pax_Get.l0, if_pos (by omega), if_pos (by omega), if_pos (by omega)]
    have hrd : rd_T29 l (i : Int) = l[i]'(by omega) := by unfold rd_T29; rw [Int.toNat_natCast, List.getD_eq_getElem?_getD, List.getElem?_eq_getElem (by omega)]; rfl
    rw [hrd, List.take_succ_eq_append_getElem (by omega), mapOf_snoc, Lib.toList_data, Lib.toList_data]
    have hw : wrap64 ((i : Int) - 1) = (i : Int) - 1 := (by unfold wrap64; omega)
    by_cases he : (l[i]'(by omega)).f0.data.toList = key.data.toList
    · rw [if_pos he]
      simp [putT, he]
    · rw [if_neg he, hw, ih (by omega)]
      have : ¬ key.data.toList = (l[i]'(by omega)).f0.data.toList := fun h => he h.symm
      simp [putT, this]
theorem get_c (A : Option Addr) (c : Nat) (l : List S29) (key v : ByteArray) (hm : mapOf l key.data.toList = some v) (hl : l.length ≤ 1000000) (hc : l.length ≤ c) (w : World) (hr : Kd.C k29 w A l.length l) :
    Calls Tryd.prog 8 #[.slice A l.length c, .string key] w fun e w' => e = .returned (.tuple #[.string v, .bool true]) ∧ Below w.heap.size w w' := by
  have hev := get_ev l key hl l.length (Nat.le_refl _)
  rw [List.take_length, hm] at hev
  refine (pax_Get.calls (l.length + 1) A c l key v true w hr hc ?_).mono ?_
  · unfold pax_Get.f
    have hw : wrap64 ((l.length : Int) - 1) = (l.length : Int) - 1 := (by unfold wrap64; omega)
    rw [hw]; exact hev
  · rintro e w' ⟨rfl, n, rfl⟩
    exact ⟨rfl, below_dN _ _⟩
theorem classes (a : Int) : ∃ c b, kind_Class.f a = some c ∧ kind_Takes.f a = some b ∧ (b = true ∨ c ≤ 1) := by
  have hk : ∃ k, kind_Kind.f a = some k := by
    unfold kind_Kind.f
    repeat' split
    all_goals exact ⟨_, rfl⟩
  obtain ⟨k, hk⟩ := hk
  have hc : ∃ c, kind_Class.f a = some c ∧ 0 ≤ c ∧ c ≤ 5 := by
    unfold kind_Class.f
    rw [hk]
    simp only [Option.bind_some]
    repeat' split
    all_goals exact ⟨_, rfl, by decide, by decide⟩
  obtain ⟨c, hc, h0, h5⟩ := hc
  refine ⟨c, if c = 2 ∨ c = 3 ∨ c = 4 ∨ c = 5 then true else (k == 1), hc, ?_, ?_⟩
  · unfold kind_Takes.f
    rw [hc, hk]
    simp only [Option.bind_some]
    by_cases h2 : c = 2
    · rw [if_pos h2, if_pos (by omega)]
    · rw [if_neg h2]
      by_cases h3 : c = 3
      · rw [if_pos h3, if_pos (by omega)]
      · rw [if_neg h3]
        by_cases h4 : c = 4
        · rw [if_pos h4, if_pos (by omega)]
        · rw [if_neg h4]
          by_cases h5 : c = 5
          · rw [if_pos h5, if_pos (by omega)]
          · rw [if_neg h5, if_neg (by omega)]
  · by_cases h : c ≤ 1
    · exact .inr h
    · exact .inl (if_pos (by omega))
end Go.Proofs.YtnpdgmgabkoeiaaDoor.R
