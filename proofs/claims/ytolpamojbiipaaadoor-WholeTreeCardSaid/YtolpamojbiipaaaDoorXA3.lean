/- joined by xlay.py: ESound, EStrs, XA2, XA4, XA8, XA7, XA11, XA10, XA3 -/
import Derived.Test.YtolpamojbiipaaaDoorXA0
import Derived.Test.YtolpamojbiipaaaDoorShelf
import Derived.Test.YtolpamojbiipaaaDoorUCut
import Derived.Laws.RangeString
import Derived.Laws.RangeAny
/- path.Sound, walked by hand: it loops over a text's signs. And what is taken of the library's two tables of UTF-8 (GG). -/





namespace Go.Proofs.YtolpamojbiipaaaDoor.XA
open Go.RowKit Go.Proofs.YtolpamojbiipaaaDoorW.PrintWords Go.Proofs.YtolpamojbiipaaaDoorW.PrintLast Go.Proofs.YtolpamojbiipaaaDoorW.PrintMore
set_option linter.unusedVariables false
set_option linter.unusedSimpArgs false

/-- The two tables of UTF-8 lie in a world as the library lays them. -/
structure GG (w : World) : Prop where mk :: (out : Lib.Utf8Tabs 0 1 w)
theorem GG_below {w w' : World} (h : GG w) (hb : Below w.heap.size w w') : GG w' := ⟨Utf8Tabs_below h.out hb⟩

def path_Sound.f (s : ByteArray) : Option Int := some (Pure.sound s.data.toList)

theorem iter_below (w : World) (s : ByteArray) (pos : Nat) : Below w.heap.size w (w.iter s pos) := below_alloc (Below.refl _ _) _
theorem get_data (s : ByteArray) (j : Nat) (h : j < s.size) : s.get! j = s.data.toList[j]'(by simpa using h) := by
  simp [ByteArray.get!, getElem!_pos, h]
theorem mem_nul (s : ByteArray) : (0 : UInt8) ∈ s.data.toList ↔ ∃ j, j < s.size ∧ s.get! j = 0 := by
  constructor
  · intro h
    obtain ⟨j, hj, hb⟩ := List.getElem_of_mem h
    have hj' : j < s.size := by simpa using hj
    exact ⟨j, hj', by rw [get_data s j hj', hb]⟩
  · rintro ⟨j, hj, hb⟩
    rw [← hb, get_data s j hj]
    exact List.getElem_mem _
theorem dec_pos (s : ByteArray) (pos : Nat) (h : pos < s.size) : 1 ≤ (Utf8.decode s pos).2 := Lib.width_pos s pos

set_option maxHeartbeats 2000000 in
set_option maxRecDepth 100000 in
theorem path_Sound.calls (s : ByteArray) (r : Int) (w : World) (h : path_Sound.f s = some r) (hGG : GG w) :
    Calls Tryd.prog 45 #[.string s] w fun e w' => e = .returned (.int .i64 r) ∧ Below w.heap.size w w' := by
  obtain rfl := Option.some.inj h
  clear h
  have hlen : s.data.toList.length = s.size := by simp
  unfold Pure.sound
  rw [hlen]
  by_cases h0 : s.data.toList = []
  · have e0 : s = ⟨#[]⟩ := by
      cases s with
      | mk d => cases d with
        | mk l => have : l = [] := h0
                  rw [this]
    subst e0
    go_enter Tryd.func45, Tryd.ntmps45
    go_wp2
    go_ret
    exact ⟨by simp, Below.refl _ _⟩
  rw [if_neg h0]
  have hpos : 0 < s.size := by rw [← hlen]; exact List.length_pos_iff.2 h0
  have he : s.toList.isEmpty = false := by rw [Lib.toList_data]; simpa using h0
  have he2 : (s.toList == ([] : List UInt8)) = false := by rw [Lib.toList_data]; simpa using h0
  clear h0
  by_cases h1 : 4000 < s.size
  · rw [if_pos h1]
    have h1b : decide ((4000 : Int) < (s.size : Int)) = true := decide_eq_true (by omega)
    go_enter Tryd.func45, Tryd.ntmps45
    go_wp2
    go_ret
    exact ⟨rfl, Below.refl _ _⟩
  rw [if_neg h1]
  have h1b : decide ((4000 : Int) < (s.size : Int)) = false := decide_eq_false (by omega)
  obtain ⟨R, hR⟩ : ∃ R : Int, R = (if (0 : UInt8) ∈ s.data.toList then 101 else if Lib.validD s.data.toList = false then 102 else if s.data.toList.getD 0 0 = 47 then 103 else 0) := ⟨_, rfl⟩
  rw [← hR]
  have HR := Aside0.mk hR
  clear hR hlen
  go_enter Tryd.func45, Tryd.ntmps45
  go_wp2
  go_loopw [4] (fun _ w' => ∃ pos : Nat, w' = w.iter s pos ∧ Aside0 (∀ j, j < pos → s.get! j ≠ 0)) (fun _ w' => s.size - w'.iterPos w.heap.size)
  case atStart => exact ⟨0, rfl, ⟨fun j hj => absurd hj (Nat.not_lt_zero _)⟩⟩
  case round =>
    obtain ⟨pos, rfl, HN⟩ := hrel
    by_cases hp : pos < s.size
    · have hnx : ∀ ty, (Instr.next (.pointer (some ⟨w.heap.size, 0, none⟩)) true ty).run Tryd.prog (w.iter s pos) = _ := fun ty => run_next_any w s pos ty hp
      have hd := Pure.dec_nul s pos hp
      have hwd := dec_pos s pos hp
      by_cases hz : s.get! pos = 0
      · have hdz := hd.1 hz
        rw [hdz] at hnx
        have HR2 := HR.out
        rw [if_pos ((mem_nul s).2 ⟨pos, hp, hz⟩)] at HR2
        subst HR2
        clear hd hz hwd hdz HR
        go_wp2
        go_ret
        exact ⟨rfl, iter_below _ _ _⟩
      · have hd2 := hd.2 hz
        have hne : (((Utf8.decode s pos).1 : Int) == 0) = false := beq_eq_false_iff_ne.2 (by have := hd2.1; omega)
        have HD := Aside0.mk hd2.2
        clear hd hz hd2
        go_wp2
        go_roundw
        case rel =>
          refine ⟨pos + (Utf8.decode s pos).2, rfl, ⟨fun j hj => ?_⟩⟩
          rcases Nat.lt_or_ge j pos with h | h
          · exact HN.out j h
          · exact HD.out j h hj
        case measure =>
          simp
          omega
    · have hnx : ∀ ty, (Instr.next (.pointer (some ⟨w.heap.size, 0, none⟩)) true ty).run Tryd.prog (w.iter s pos) = _ := fun ty => run_next_end w s pos ty hp
      have hno : ¬ ((0 : UInt8) ∈ s.data.toList) := fun h => by
        obtain ⟨j, hj, hb⟩ := (mem_nul s).1 h
        exact HN.out j (by omega) hb
      have HR2 := HR.out
      rw [if_neg hno] at HR2
      have hb := iter_below w s pos
      have hT := GG_below hGG hb
      have cV := Tryd.utf8_ValidString s (w.iter s pos) (by omega) hT.out
      clear hno HR HN hT
      cases hv : Lib.validD s.data.toList
      · rw [hv] at HR2 cV
        rw [if_pos rfl] at HR2
        subst HR2
        have HB := Aside0.mk hb
        clear hb hv
        go_wp2_with (go_at_call 63; refine cV.mono ?_; rintro e w1 ⟨rfl, hb1⟩)
        go_ret
        exact ⟨rfl, HB.out.trans (hb1.mono HB.out.size)⟩
      · rw [hv] at HR2 cV
        rw [if_neg (by decide)] at HR2
        have HB := Aside0.mk hb
        clear hb hv
        have g0 : s.data.toList.getD 0 0 = s[0]'hpos := by
          rw [List.getD_eq_getElem?_getD, List.getElem?_eq_getElem (by simpa using hpos)]
          simp [ByteArray.getElem_eq_getElem_data]
        rw [g0] at HR2
        clear g0
        by_cases h47 : s[0]'hpos = 47
        · rw [if_pos h47] at HR2
          subst HR2
          have b47 : (((s[0]'hpos).toNat : Int) == 47) = true := by rw [h47]; rfl
          clear h47
          go_wp2_with (go_at_call 63; refine cV.mono ?_; rintro e w1 ⟨rfl, hb1⟩)
          go_ret
          exact ⟨rfl, HB.out.trans (hb1.mono HB.out.size)⟩
        · rw [if_neg h47] at HR2
          subst HR2
          have b47 : (((s[0]'hpos).toNat : Int) == 47) = false := beq_eq_false_iff_ne.2 (fun e => h47 (UInt8.toNat_inj.1 (by show _ = 47; omega)))
          clear h47
          go_wp2_with (go_at_call 63; refine cV.mono ?_; rintro e w1 ⟨rfl, hb1⟩)
          go_ret
          exact ⟨rfl, HB.out.trans (hb1.mono HB.out.size)⟩
end Go.Proofs.YtolpamojbiipaaaDoor.XA
/- strings.Split at one slash, strings.Join, strings.Compare: the library's contracts in the walks' form. -/



namespace Go.Proofs.YtolpamojbiipaaaDoor.XA
open Go.RowKit Go.Proofs.YtolpamojbiipaaaDoorW.PrintWords Go.Proofs.YtolpamojbiipaaaDoorW.PrintLast Go.Proofs.YtolpamojbiipaaaDoorW.PrintMore
set_option linter.unusedVariables false
set_option linter.unusedSimpArgs false

def strings_Compare.f (a b : ByteArray) : Option Int := some (Lib.compareBytes a.data.toList b.data.toList)
theorem strings_Compare.calls (a b : ByteArray) (r : Int) (w : World) (h : strings_Compare.f a b = some r) :
    Calls Tryd.prog 56 #[.string a, .string b] w fun e w' => e = .returned (.int .i64 r) ∧ Drawn0 w w' := by
  obtain rfl := Option.some.inj h
  refine (Tryd.strings_Compare a b w).mono ?_
  rintro e w' ⟨rfl, rfl⟩
  exact ⟨rfl, Drawn0.refl _⟩

/-- Bytes as a text. -/
def mkS (l : List UInt8) : ByteArray := ⟨l.toArray⟩
theorem mkS_data (l : List UInt8) : (mkS l).data.toList = l := by simp [mkS]
theorem mkS_of (s : ByteArray) : mkS s.data.toList = s := by simp [mkS]

def strings_Split.f (s t : ByteArray) : Option (List ByteArray) := if t = ⟨#[47]⟩ ∧ s.size ≤ 1000000 then some ((Pure.cutS s.data.toList).map mkS) else none
theorem split_is (s : ByteArray) : Lib.splitB (⟨#[47]⟩ : ByteArray) 0 (Lib.countB s (⟨#[47]⟩ : ByteArray)) s = (Pure.cutS s.data.toList).map mkS := by
  rw [← Pure.splitB_cut s, List.map_map]
  conv => lhs; rw [← List.map_id (Lib.splitB _ _ _ _)]
  exact List.map_congr_left fun x _ => (mkS_of x).symm
theorem strings_Split.calls (s t : ByteArray) (r : List ByteArray) (w : World) (h : strings_Split.f s t = some r) :
    Calls Tryd.prog 46 #[.string s, .string t] w fun e w' => ∃ v : Value, e = .returned v ∧ Kd.R Kd.string 9 w' w.heap.size (fun _ => True) v r ∧ Below w.heap.size w w' := by
  unfold strings_Split.f at h
  split at h
  · rename_i hc
    obtain ⟨rfl, hs⟩ := hc
    obtain rfl := Option.some.inj h
    have hi9 : (Tryd.prog.info? 9).map (fun i => (i.zero, i.size, i.bytes)) = some (some (.string ByteArray.empty), 1, 16) := by kernel_rfl
    have hlen := Lib.splitB_all (⟨#[47]⟩ : ByteArray) (by decide) 0 _ s rfl
    have hle := Lib.countB_le (⟨#[47]⟩ : ByteArray) (by decide) s.size s (Nat.le_refl _)
    have c := Any.strings_genSplit_core Tryd.lays221 hi9 s (⟨#[47]⟩ : ByteArray) 0 (-1) (Lib.countB s (⟨#[47]⟩ : ByteArray) + 1) w (by omega) (by decide) (Nat.zero_le _)
      (fun x cs hx => (Tryd.strings_Index_one x 47 _).mono (fun e w' ⟨he, hw⟩ => ⟨by rw [he]; exact congrArg (fun z => Ending.returned (Value.int .i64 z)) (Lib.index_one x.data.toList 47).symm, hw⟩))
      ((Tryd.strings_Count_one s 47 w).mono (fun e w' ⟨he, hw⟩ => ⟨by rw [he]; exact congrArg (fun z : Nat => Ending.returned (Value.int .i64 (z : Int))) (Lib.count_one 47 s.data.toList).symm, hw⟩)) (by decide) (by decide) (by rw [if_pos (by decide)]; omega)
    rw [Nat.add_sub_cancel, hlen] at c
    have e2 : Lib.cellsOf (Lib.splitB (⟨#[47]⟩ : ByteArray) 0 (Lib.countB s (⟨#[47]⟩ : ByteArray)) s) (Lib.countB s (⟨#[47]⟩ : ByteArray) + 1) = ((Lib.splitB (⟨#[47]⟩ : ByteArray) 0 (Lib.countB s (⟨#[47]⟩ : ByteArray)) s).map Value.string).toArray := by rw [← hlen]; exact Lib.cellsOf_full _
    rw [e2, show Tryd.lays221_ren.t 9 = 9 from rfl] at c
    rw [← hlen, split_is s] at c
    have hm : ((Pure.cutS s.data.toList).map mkS).length ≤ 1000001 := by rw [← split_is s, hlen]; omega
    clear e2 hlen hle
    generalize (Pure.cutS s.data.toList).map mkS = r at c hm ⊢
    go_enter Tryd.func46, Tryd.ntmps46
    go_wp2_with (go_at_call 64; refine c.mono ?_; rintro e w' ⟨rfl, hw⟩; rw [hw])
    go_ret
    refine ⟨_, rfl, ?_, below_alloc (Below.refl _ _) _⟩
    refine Kd.R_of_own (enc := Value.string) (h1 := fun _ => rfl) ?_ (fun _ _ => trivial)
    have h2 := World.ownsRow_lit (base := w.heap.size) (e := 9) (size := 1) w (r.map Value.string).toArray r.length (Nat.le_refl _) (by unfold maxLen; omega) (by simp)
    simpa [encs] using h2
  · cases h

def strings_Join.f (l : List ByteArray) (t : ByteArray) : Option ByteArray :=
  if l.length ≤ 140737488355328 ∧ (Lib.join (l.map (·.data.toList)) t.data.toList).length ≤ 140737488355328 then some (mkS (Lib.join (l.map (·.data.toList)) t.data.toList)) else none
theorem strings_Join.calls (A : Option Addr) (c : Nat) (l : List ByteArray) (t : ByteArray) (r : ByteArray) (w : World) (hr : Kd.C Kd.string w A l.length l) (hc : l.length ≤ c) (h : strings_Join.f l t = some r) :
    Calls Tryd.prog 49 #[.slice A l.length c, .string t] w fun e w' => e = .returned (.string r) ∧ Below w.heap.size w w' := by
  unfold strings_Join.f at h
  split at h
  · rename_i hq
    obtain rfl := Option.some.inj h
    have hR := Kd.reads_of_C (enc := Value.string) (d := ByteArray.empty) (h1 := fun _ => rfl) hr
    cases hl : l with
    | nil =>
      subst hl
      refine (Tryd.strings_Join_none A c t w).mono ?_
      rintro e w' ⟨rfl, rfl⟩
      exact ⟨rfl, Below.refl _ _⟩
    | cons x xs =>
      rw [← hl]
      have hn : 0 < l.length := by rw [hl]; simp
      obtain ⟨ad, rfl, hcell⟩ := hR.2.2 hn
      have h0 := hcell 0 hn
      obtain ⟨b, o, sp⟩ := ad
      have hsp : sp = none := by
        cases sp with
        | none => rfl
        | some z =>
          exfalso
          rw [show (⟨b, o, some z⟩ : Addr).add 0 = ⟨b, o, some z⟩ from rfl] at h0
          unfold World.cell? at h0
          split at h0 <;> simp at h0
      subst hsp
      have hcells : ∀ (j : Nat) x, l[j]? = some x → w.cell? ⟨b, o + j, none⟩ = some (.string x) := by
        intro j x hj
        obtain ⟨hjl, hjx⟩ := List.getElem?_eq_some_iff.1 hj
        have := hcell j hjl
        rw [List.getD_eq_getElem?_getD, hj, Option.getD_some] at this
        rw [← this]
        unfold Addr.add
        by_cases hj0 : j = 0
        · subst hj0; simp
        · rw [if_neg hj0]
      refine (Tryd.strings_Join b o c l t w hcells (World.block_lt_of_cell? w _ h0) hq.1 hc hq.2).mono ?_
      rintro e w' ⟨rfl, hb⟩
      exact ⟨rfl, hb⟩
  · cases h
end Go.Proofs.YtolpamojbiipaaaDoor.XA
-- Written by a program of this session (wip/tools/xprint.py) out of the translation's print. Lean checks it.


namespace Go.Proofs.YtolpamojbiipaaaDoor.XA
open Go.RowKit Go.Proofs.YtolpamojbiipaaaDoorW.PrintWords Go.Proofs.YtolpamojbiipaaaDoorW.PrintLast Go.Proofs.YtolpamojbiipaaaDoorW.PrintMore
attribute [local go_sem] max2_int min2_int max_two min_two max_three min_three max_four min_four   -- for this text's walks alone
set_option linter.unusedVariables false
set_option linter.unusedSimpArgs false

/-! ### path_Parts: function 43 -/
def path_Parts.f (a0 : ByteArray) : Option (List ByteArray) := if a0.toList = ([] : List UInt8) then (some ([] : List ByteArray)) else ((strings_Split.f a0 (⟨#[47]⟩ : ByteArray)).bind fun t101 => (some t101))
set_option maxHeartbeats 8000000 in
set_option maxRecDepth 100000 in
theorem path_Parts.calls (a0 : ByteArray) (r : List ByteArray) (w : World) (h : path_Parts.f a0 = some r) :
  Calls Tryd.prog 43 #[.string a0] w fun e w' => ∃ v0_ : Value, e = .returned (v0_) ∧ Kd.R Kd.string 9 w' w.heap.size (fun _ => True) v0_ r ∧ Below w.heap.size w w' := by
 have HB := Aside0.mk (Below.refl w.heap.size w)
 have H : (if a0.toList = ([] : List UInt8) then (some ([] : List ByteArray)) else ((strings_Split.f a0 (⟨#[47]⟩ : ByteArray)).bind fun t101 => (some t101))) = some r := h
 clear h
 by_cases c2 : a0.toList = ([] : List UInt8)
 ·rw [if_pos c2] at H
  have c2b0 : (a0.toList == ([] : List UInt8)) = true := beq_iff_eq.mpr c2
  have c2b2 : (a0.toList).isEmpty = true := List.isEmpty_iff.mpr c2
  have c2b1 : (a0.toList != ([] : List UInt8)) = false := bne_eq_false_iff_eq.mpr c2
  clear c2
  obtain rfl := Option.some.inj H
  go_enter Tryd.func43, Tryd.ntmps43
  go_wp2
  all_goals (try (exfalso; first | (rename_i he_; rw [c2b2] at he_; cases he_; done) | (rename_i he_ _; rw [c2b2] at he_; cases he_; done) | (rename_i he_ _ _; rw [c2b2] at he_; cases he_; done) | (rename_i he_ _ _ _; rw [c2b2] at he_; cases he_; done) | (rename_i he_ _ _ _ _; rw [c2b2] at he_; cases he_; done) | (rename_i he_ _ _ _ _ _; rw [c2b2] at he_; cases he_; done) | (rename_i he_ _ _ _ _ _ _; rw [c2b2] at he_; cases he_; done)))
  go_ret
  exact ⟨_, by first | rfl | (simp [errW_none, errW_some] <;> rfl) | (simp [*, errW_none, errW_some] <;> rfl), by first | exact Kd.R_nil _ _ _ _ _ | exact Kd.N_nil _ _ _ _ _ | exact Kd.V_nil _ _ _ _ _ | exact Kd.Q_nil _ _ _ _ _ | exact Kd.S_nil _ _ _ _ _, by repeat (first | (with_reducible first | exact HB.out | apply below_alloc | apply pw_below_drewN | apply below_drew1) | exact HB.out)⟩
 ·rw [if_neg c2] at H
  have c2b0 : (a0.toList == ([] : List UInt8)) = false := beq_eq_false_iff_ne.mpr c2
  have c2b2 : (a0.toList).isEmpty = false := List.isEmpty_eq_false_iff.mpr c2
  have c2b1 : (a0.toList != ([] : List UInt8)) = true := bne_iff_ne.mpr c2
  replace H := Option.bind_eq_some_iff.mp H
  obtain ⟨t101, A30, H⟩ := H
  replace H : (some t101) = some r := H
  have A3 := Aside0.mk A30
  clear A30
  obtain rfl := Option.some.inj H
  go_enter Tryd.func43, Tryd.ntmps43
  go_wp2_with (first | ((with_reducible refine gate_callee (f := 46) rfl ?_); refine goesL_ (some 6) rfl rfl Tryd.func46 (by kernel_rfl) rfl #[.string a0, .string (⟨#[47]⟩ : ByteArray)] rfl (by (try simp only [List.map_toArray, List.map_cons, List.map_nil]); first | done | rfl | (simp only [List.length_drop, List.length_take]; rfl)) ?_; (with_reducible refine (strings_Split.calls a0 (⟨#[47]⟩ : ByteArray) t101 _ A3.out).mono ?_); rintro e w4 ⟨v102, rfl, ho0, hb⟩; refine ⟨_, rfl, ?_⟩; have n0_ := Aside0.mk (Kd.R_lower ho0 (below_size (by repeat (first | (with_reducible first | exact HB.out | apply below_alloc | apply pw_below_drewN | apply below_drew1) | exact HB.out)))); have n1_ := Aside0.mk (below_step (by repeat (first | (with_reducible first | exact HB.out | apply below_alloc | apply pw_below_drewN | apply below_drew1) | exact HB.out)) hb); clear HB; have HO103 := n0_; have HB := n1_; clear n0_ n1_; (try clear hb); (try clear hb2); (try clear hk); (try clear hi); (try clear ho0)))
  go_ret
  exact ⟨_, by first | rfl | (simp [errW_none, errW_some] <;> rfl) | (simp [*, errW_none, errW_some] <;> rfl), by (with_reducible repeat (first | apply Kd.R_alloc | apply Kd.R_drewN | apply Kd.R_drew)); exact HO103.out, by repeat (first | (with_reducible first | exact HB.out | apply below_alloc | apply pw_below_drewN | apply below_drew1) | exact HB.out)⟩

end Go.Proofs.YtolpamojbiipaaaDoor.XA
-- Written by a program of this session (wip/tools/xprint.py) out of the translation's print. Lean checks it.

namespace Go.Proofs.YtolpamojbiipaaaDoor.XA
open Go.RowKit Go.Proofs.YtolpamojbiipaaaDoorW.PrintWords Go.Proofs.YtolpamojbiipaaaDoorW.PrintLast Go.Proofs.YtolpamojbiipaaaDoorW.PrintMore
attribute [local go_sem] max2_int min2_int max_two min_two max_three min_three max_four min_four   -- for this text's walks alone
set_option linter.unusedVariables false
set_option linter.unusedSimpArgs false

/-! ### bytealg_LastIndexByteString: function 74 -/
def bytealg_LastIndexByteString.l0 : Nat → ByteArray → Int → Int → Option (Int)
 | 0, _, _, _ => none
 | k + 1, x0, x1, x5 => if x5 ≥ 0 then (if 0 ≤ x5 then (if x5 < (x0.size : Int) then (if (bt x0 x5) = x1 then (some x5) else (bytealg_LastIndexByteString.l0 k x0 x1 (wrap64 (x5 - 1)))) else (none)) else (none)) else (some (-1))
def bytealg_LastIndexByteString.f (k : Nat) (a0 : ByteArray) (a1 : Int) : Option (Int) := bytealg_LastIndexByteString.l0 k a0 a1 (wrap64 ((a0.size : Int) - 1))
theorem bytealg_LastIndexByteString.mono_l : ∀ k, (∀ y0 y1 y2, LeO (bytealg_LastIndexByteString.l0 k y0 y1 y2) (bytealg_LastIndexByteString.l0 (k + 1) y0 y1 y2))
 | 0 => fun _ _ _ r h => by simp [bytealg_LastIndexByteString.l0] at h
 | k + 1 => by
  have ih0 := bytealg_LastIndexByteString.mono_l k
  ·intro y0 y1 y2
   unfold bytealg_LastIndexByteString.l0
   repeat' first
   | (with_reducible exact ih0 _ _ _)
   | (with_reducible exact LeO.refl _)
   | (with_reducible exact LeO.none _)
   | (with_reducible refine LeO.ite ?_ ?_)
   | (with_reducible refine LeO.bind ?_ (fun _ => ?_))
   | exact ih0 _ _ _
   | exact LeO.none _
   | refine LeO.ite ?_ ?_
   | refine LeO.bind ?_ (fun _ => ?_)
theorem bytealg_LastIndexByteString.mono : ∀ a0 a1 k, LeO (bytealg_LastIndexByteString.f k a0 a1) (bytealg_LastIndexByteString.f (k + 1) a0 a1) := by
 intro a0 a1 k
 have ih0 := bytealg_LastIndexByteString.mono_l k
 unfold bytealg_LastIndexByteString.f
 repeat' first
   | (with_reducible exact ih0 _ _ _)
   | (with_reducible exact LeO.refl _)
   | (with_reducible exact LeO.none _)
   | (with_reducible refine LeO.ite ?_ ?_)
   | (with_reducible refine LeO.bind ?_ (fun _ => ?_))
   | exact ih0 _ _ _
   | exact LeO.none _
   | refine LeO.ite ?_ ?_
   | refine LeO.bind ?_ (fun _ => ?_)
set_option maxHeartbeats 8000000 in
set_option maxRecDepth 100000 in
theorem bytealg_LastIndexByteString.calls (k : Nat) (a0 : ByteArray) (a1 : Int) (r : Int) (w : World) (h : bytealg_LastIndexByteString.f k a0 a1 = some r) :
  Calls Tryd.prog 74 #[.string a0, .int .u8 a1] w fun e w' => e = .returned (.int .i64 r) ∧ Drawn0 w w' := by
 have H : (bytealg_LastIndexByteString.l0 k a0 a1 (wrap64 ((a0.size : Int) - 1))) = some r := h
 clear h
 have H' := Aside0.mk H
 clear H
 go_enter Tryd.func74, Tryd.ntmps74
 go_wp2
 go_loopg [5] k (fun kq v5 w' => ∃ (x5_1 : Int), v5 = .int .i64 x5_1 ∧ Aside0 (bytealg_LastIndexByteString.l0 kq a0 a1 x5_1 = some r) ∧ Aside0 (kq ≤ k) ∧ Drawn0 w w')
 case atStart => exact ⟨(wrap64 ((a0.size : Int) - 1)), (by first | rfl | (simp; done) | (simp [*]; done)), H', ⟨Nat.le_refl _⟩, by repeat (first | exact Drawn0.refl _ | apply Drawn0.step)⟩
 case round =>
  clear H'
  try clear p2
  obtain ⟨x5_1, rfl, HA, HK1, ⟨m1, rfl⟩⟩ := hrel
  cases gk with
  | zero => exact absurd HA.out (by simp [bytealg_LastIndexByteString.l0])
  | succ k1 =>
   have H := HA.out
   clear HA
   simp only [bytealg_LastIndexByteString.l0] at H
   by_cases c3 : x5_1 ≥ 0
   ·rw [if_pos c3] at H
    have c3b0 : decide (0 ≤ x5_1) = true := decide_eq_true c3
    clear c3
    by_cases c4 : 0 ≤ x5_1
    ·rw [if_pos c4] at H
     have c4b0 : decide (0 ≤ x5_1) = true := decide_eq_true c4
     clear c4
     by_cases c5 : x5_1 < (a0.size : Int)
     ·rw [if_pos c5] at H
      have c5b0 : decide (x5_1 < (a0.size : Int)) = true := decide_eq_true c5
      clear c5
      by_cases c7 : (bt a0 x5_1) = a1
      ·rw [if_pos c7] at H
       have c7b0 : ((bt a0 x5_1) == a1) = true := beq_iff_eq.mpr c7
       have c7b1 : ((bt a0 x5_1) != a1) = false := bne_eq_false_iff_eq.mpr c7
       clear c7
       obtain rfl := Option.some.inj H
       have p6 : 0 ≤ (x5_1 : Int) := of_decide_eq_true (by first | (with_reducible assumption) | assumption)
       have q6 : x5_1 < (a0.size : Int) := of_decide_eq_true (by first | (with_reducible assumption) | assumption)
       have hx6 := bt_at a0 x5_1
       replace p6 := eq_true p6
       replace q6 := eq_true q6
       go_wp2
       all_goals (go_ret; exact ⟨by first | rfl | (simp; done) | (simp [*]; done), by repeat (first | exact Drawn0.refl _ | apply Drawn0.step)⟩)
      ·rw [if_neg c7] at H
       have c7b0 : ((bt a0 x5_1) == a1) = false := beq_eq_false_iff_ne.mpr c7
       have c7b1 : ((bt a0 x5_1) != a1) = true := bne_iff_ne.mpr c7
       have H' := Aside0.mk H
       clear H
       have p6 : 0 ≤ (x5_1 : Int) := of_decide_eq_true (by first | (with_reducible assumption) | assumption)
       have q6 : x5_1 < (a0.size : Int) := of_decide_eq_true (by first | (with_reducible assumption) | assumption)
       have hx6 := bt_at a0 x5_1
       replace p6 := eq_true p6
       replace q6 := eq_true q6
       go_wp2
       go_roundg k1
       case measure => have := HK1.out; omega
       case rel => exact ⟨(wrap64 (x5_1 - 1)), (by first | rfl | (simp; done) | (simp [*]; done)), H', ⟨by have := HK1.out; omega⟩, by repeat (first | exact Drawn0.refl _ | apply Drawn0.step)⟩
     ·rw [if_neg c5] at H
      exact absurd H (by simp)
    ·rw [if_neg c4] at H
     exact absurd H (by simp)
   ·rw [if_neg c3] at H
    have c3b0 : decide (0 ≤ x5_1) = false := decide_eq_false c3
    clear c3
    obtain rfl := Option.some.inj H
    go_wp2
    all_goals (go_ret; exact ⟨by first | rfl | (simp; done) | (simp [*]; done), by repeat (first | exact Drawn0.refl _ | apply Drawn0.step)⟩)

/-! ### strings_LastIndexByte: function 62 -/
def strings_LastIndexByte.f (k : Nat) (a0 : ByteArray) (a1 : Int) : Option (Int) := (bytealg_LastIndexByteString.f k a0 a1).bind fun t115 => (some t115)
theorem strings_LastIndexByte.mono : ∀ a0 a1 k, LeO (strings_LastIndexByte.f k a0 a1) (strings_LastIndexByte.f (k + 1) a0 a1) := by
 intro a0 a1 k
 unfold strings_LastIndexByte.f
 repeat' first
   | (with_reducible exact bytealg_LastIndexByteString.mono _ _ _)
   | (with_reducible exact LeO.refl _)
   | (with_reducible exact LeO.none _)
   | (with_reducible refine LeO.ite ?_ ?_)
   | (with_reducible refine LeO.bind ?_ (fun _ => ?_))
   | exact bytealg_LastIndexByteString.mono _ _ _
   | exact LeO.none _
   | refine LeO.ite ?_ ?_
   | refine LeO.bind ?_ (fun _ => ?_)
set_option maxHeartbeats 8000000 in
set_option maxRecDepth 100000 in
theorem strings_LastIndexByte.calls (k : Nat) (a0 : ByteArray) (a1 : Int) (r : Int) (w : World) (h : strings_LastIndexByte.f k a0 a1 = some r) :
  Calls Tryd.prog 62 #[.string a0, .int .u8 a1] w fun e w' => e = .returned (.int .i64 r) ∧ Drawn0 w w' := by
 have H : ((bytealg_LastIndexByteString.f k a0 a1).bind fun t115 => (some t115)) = some r := h
 clear h
 replace H := Option.bind_eq_some_iff.mp H
 obtain ⟨t115, A30, H⟩ := H
 replace H : (some t115) = some r := H
 have A3 := Aside0.mk A30
 clear A30
 obtain rfl := Option.some.inj H
 go_enter Tryd.func62, Tryd.ntmps62
 go_wp2_with (first | ((with_reducible refine gate_callee (f := 74) rfl ?_); refine goesL_ (some 7) rfl rfl Tryd.func74 (by kernel_rfl) rfl #[.string a0, .int .u8 a1] rfl (by (try simp only [List.map_toArray, List.map_cons, List.map_nil]); first | done | rfl | (simp only [List.length_drop, List.length_take]; rfl)) ?_; (with_reducible refine (bytealg_LastIndexByteString.calls k a0 a1 t115 _ A3.out).mono ?_); rintro e w' ⟨rfl, ⟨nd, rfl⟩⟩; refine ⟨_, rfl, ?_⟩))
 all_goals (go_ret; exact ⟨by first | rfl | (simp; done) | (simp [*]; done), by repeat (first | exact Drawn0.refl _ | apply Drawn0.step)⟩)

/-! ### path_Up: function 40 -/
def path_Up.f (k : Nat) (a0 : ByteArray) : Option (ByteArray × Bool) := if a0.toList = ([] : List UInt8) then (some ((⟨#[]⟩ : ByteArray), false)) else ((strings_LastIndexByte.f k a0 47).bind fun t116 => (if t116 < 0 then (some ((⟨#[]⟩ : ByteArray), true)) else (if 0 ≤ t116 then (if t116 ≤ (a0.size : Int) then (some (a0.extract 0 (t116 : Int).toNat, true)) else (none)) else (none))))
theorem path_Up.mono : ∀ a0 k, LeO (path_Up.f k a0) (path_Up.f (k + 1) a0) := by
 intro a0 k
 unfold path_Up.f
 repeat' first
   | (with_reducible exact strings_LastIndexByte.mono _ _ _)
   | (with_reducible exact LeO.refl _)
   | (with_reducible exact LeO.none _)
   | (with_reducible refine LeO.ite ?_ ?_)
   | (with_reducible refine LeO.bind ?_ (fun _ => ?_))
   | exact strings_LastIndexByte.mono _ _ _
   | exact LeO.none _
   | refine LeO.ite ?_ ?_
   | refine LeO.bind ?_ (fun _ => ?_)
set_option maxHeartbeats 8000000 in
set_option maxRecDepth 100000 in
theorem path_Up.calls (k : Nat) (a0 : ByteArray) (r1 : ByteArray) (r2 : Bool) (w : World) (h : path_Up.f k a0 = some (r1, r2)) :
  Calls Tryd.prog 40 #[.string a0] w fun e w' => e = .returned (.tuple #[.string r1, .bool r2]) ∧ Drawn0 w w' := by
 have H : (if a0.toList = ([] : List UInt8) then (some ((⟨#[]⟩ : ByteArray), false)) else ((strings_LastIndexByte.f k a0 47).bind fun t116 => (if t116 < 0 then (some ((⟨#[]⟩ : ByteArray), true)) else (if 0 ≤ t116 then (if t116 ≤ (a0.size : Int) then (some (a0.extract 0 (t116 : Int).toNat, true)) else (none)) else (none))))) = some (r1, r2) := h
 clear h
 by_cases c2 : a0.toList = ([] : List UInt8)
 ·rw [if_pos c2] at H
  have c2b0 : (a0.toList == ([] : List UInt8)) = true := beq_iff_eq.mpr c2
  have c2b2 : (a0.toList).isEmpty = true := List.isEmpty_iff.mpr c2
  have c2b1 : (a0.toList != ([] : List UInt8)) = false := bne_eq_false_iff_eq.mpr c2
  clear c2
  simp only [Option.some.injEq, Prod.mk.injEq] at H
  obtain ⟨rfl, rfl⟩ := H
  go_enter Tryd.func40, Tryd.ntmps40
  go_wp2
  all_goals (try (exfalso; first | (rename_i he_; rw [c2b2] at he_; cases he_; done) | (rename_i he_ _; rw [c2b2] at he_; cases he_; done) | (rename_i he_ _ _; rw [c2b2] at he_; cases he_; done) | (rename_i he_ _ _ _; rw [c2b2] at he_; cases he_; done) | (rename_i he_ _ _ _ _; rw [c2b2] at he_; cases he_; done) | (rename_i he_ _ _ _ _ _; rw [c2b2] at he_; cases he_; done) | (rename_i he_ _ _ _ _ _ _; rw [c2b2] at he_; cases he_; done)))
  go_ret2
  exact ⟨by first | rfl | (simp; done) | (simp [*]; done), by repeat (first | exact Drawn0.refl _ | apply Drawn0.step)⟩
 ·rw [if_neg c2] at H
  have c2b0 : (a0.toList == ([] : List UInt8)) = false := beq_eq_false_iff_ne.mpr c2
  have c2b2 : (a0.toList).isEmpty = false := List.isEmpty_eq_false_iff.mpr c2
  have c2b1 : (a0.toList != ([] : List UInt8)) = true := bne_iff_ne.mpr c2
  replace H := Option.bind_eq_some_iff.mp H
  obtain ⟨t116, A30, H⟩ := H
  replace H : (if t116 < 0 then (some ((⟨#[]⟩ : ByteArray), true)) else (if 0 ≤ t116 then (if t116 ≤ (a0.size : Int) then (some (a0.extract 0 (t116 : Int).toNat, true)) else (none)) else (none))) = some (r1, r2) := H
  have A3 := Aside0.mk A30
  clear A30
  by_cases c4 : t116 < 0
  ·rw [if_pos c4] at H
   have c4b0 : decide (t116 < 0) = true := decide_eq_true c4
   clear c4
   simp only [Option.some.injEq, Prod.mk.injEq] at H
   obtain ⟨rfl, rfl⟩ := H
   go_enter Tryd.func40, Tryd.ntmps40
   go_wp2_with (first | ((with_reducible refine gate_callee (f := 62) rfl ?_); refine goesL_ (some 8) rfl rfl Tryd.func62 (by kernel_rfl) rfl #[.string a0, .int .u8 47] rfl (by (try simp only [List.map_toArray, List.map_cons, List.map_nil]); first | done | rfl | (simp only [List.length_drop, List.length_take]; rfl)) ?_; (with_reducible refine (strings_LastIndexByte.calls k a0 47 t116 _ A3.out).mono ?_); rintro e w' ⟨rfl, ⟨nd, rfl⟩⟩; refine ⟨_, rfl, ?_⟩))
   go_ret2
   exact ⟨by first | rfl | (simp; done) | (simp [*]; done), by repeat (first | exact Drawn0.refl _ | apply Drawn0.step)⟩
  ·rw [if_neg c4] at H
   have c4b0 : decide (t116 < 0) = false := decide_eq_false c4
   clear c4
   by_cases c5 : 0 ≤ t116
   ·rw [if_pos c5] at H
    have c5b0 := eq_true c5
    have c5b1 : decide (0 ≤ t116) = true := decide_eq_true c5
    clear c5
    by_cases c6 : t116 ≤ (a0.size : Int)
    ·rw [if_pos c6] at H
     have c6b0 := eq_true c6
     have c6b1 : decide (t116 ≤ (a0.size : Int)) = true := decide_eq_true c6
     clear c6
     simp only [Option.some.injEq, Prod.mk.injEq] at H
     obtain ⟨rfl, rfl⟩ := H
     go_enter Tryd.func40, Tryd.ntmps40
     go_wp2_with (first | ((with_reducible refine gate_callee (f := 62) rfl ?_); refine goesL_ (some 8) rfl rfl Tryd.func62 (by kernel_rfl) rfl #[.string a0, .int .u8 47] rfl (by (try simp only [List.map_toArray, List.map_cons, List.map_nil]); first | done | rfl | (simp only [List.length_drop, List.length_take]; rfl)) ?_; (with_reducible refine (strings_LastIndexByte.calls k a0 47 t116 _ A3.out).mono ?_); rintro e w' ⟨rfl, ⟨nd, rfl⟩⟩; refine ⟨_, rfl, ?_⟩))
     go_ret2
     exact ⟨by first | rfl | (simp; done) | (simp [*]; done), by repeat (first | exact Drawn0.refl _ | apply Drawn0.step)⟩
    ·rw [if_neg c6] at H
     exact absurd H (by simp)
   ·rw [if_neg c5] at H
    exact absurd H (by simp)

end Go.Proofs.YtolpamojbiipaaaDoor.XA
-- Written by a program of this session (wip/tools/xprint.py) out of the translation's print. Lean checks it.


namespace Go.Proofs.YtolpamojbiipaaaDoor.XA
open Go.RowKit Go.Proofs.YtolpamojbiipaaaDoorW.PrintWords Go.Proofs.YtolpamojbiipaaaDoorW.PrintLast Go.Proofs.YtolpamojbiipaaaDoorW.PrintMore
attribute [local go_sem] max2_int min2_int max_two min_two max_three min_three max_four min_four   -- for this text's walks alone
set_option linter.unusedVariables false
set_option linter.unusedSimpArgs false

/-! ### path_Join: function 24 -/
def path_Join.f (l0 : List ByteArray) : Option (ByteArray) := (strings_Join.f l0 (⟨#[47]⟩ : ByteArray)).bind fun t238 => (some t238)
set_option maxHeartbeats 8000000 in
set_option maxRecDepth 100000 in
theorem path_Join.calls (A0 : Option Addr) (c0 : Nat) (l0 : List ByteArray) (r : ByteArray) (w : World) (hr0 : Kd.C Kd.string w A0 l0.length l0) (hc0 : l0.length ≤ c0) (h : path_Join.f l0 = some r) :
  Calls Tryd.prog 24 #[.slice A0 l0.length c0] w fun e w' => e = .returned (.string r) ∧ Below w.heap.size w w' := by
 have HR0 := Aside0.mk hr0
 have HC0 := Aside0.mk hc0
 clear hr0 hc0
 have HB := Aside0.mk (Below.refl w.heap.size w)
 have H : ((strings_Join.f l0 (⟨#[47]⟩ : ByteArray)).bind fun t238 => (some t238)) = some r := h
 clear h
 replace H := Option.bind_eq_some_iff.mp H
 obtain ⟨t238, A20, H⟩ := H
 replace H : (some t238) = some r := H
 have A2 := Aside0.mk A20
 clear A20
 obtain rfl := Option.some.inj H
 go_enter Tryd.func24, Tryd.ntmps24
 go_wp2_with (first | ((with_reducible refine gate_callee (f := 49) rfl ?_); refine goesL_ (some 4) rfl rfl Tryd.func49 (by kernel_rfl) rfl #[.slice A0 l0.length c0, .string (⟨#[47]⟩ : ByteArray)] rfl (by (try simp only [List.map_toArray, List.map_cons, List.map_nil]); first | done | rfl | (simp only [List.length_drop, List.length_take]; rfl)) ?_; (with_reducible refine (strings_Join.calls _ _ l0 (⟨#[47]⟩ : ByteArray) t238 _ ?side1 ?side2 A2.out).mono ?_); (case side1 => repeat (first | exact HR0.out | (with_reducible refine Kd.C_alloc ?_ _) | (with_reducible refine Kd.C_drewN ?_ _) | (with_reducible refine Kd.C_drew ?_))); (case side2 => exact HC0.out); rintro e w3 ⟨rfl, hb⟩; refine ⟨_, rfl, ?_⟩; have n0_ := Aside0.mk (below_step (by repeat (first | (with_reducible first | exact HB.out | apply below_alloc | apply pw_below_drewN | apply below_drew1) | exact HB.out)) hb); clear HB; have HB := n0_; clear n0_; (try clear hb); (try clear hb2); (try clear hk); (try clear hi)))
 all_goals (go_ret; exact ⟨by first | rfl | (simp [errW_none, errW_some] <;> rfl) | (simp [*, errW_none, errW_some] <;> rfl), by repeat (first | (with_reducible first | exact HB.out | apply below_alloc | apply pw_below_drewN | apply below_drew1) | exact HB.out)⟩)

end Go.Proofs.YtolpamojbiipaaaDoor.XA
-- Written by a program of this session (wip/tools/xprint.py) out of the translation's print. Lean checks it.



namespace Go.Proofs.YtolpamojbiipaaaDoor.XA
open Go.RowKit Go.Proofs.YtolpamojbiipaaaDoorW.PrintWords Go.Proofs.YtolpamojbiipaaaDoorW.PrintLast Go.Proofs.YtolpamojbiipaaaDoorW.PrintMore
attribute [local go_sem] max2_int min2_int max_two min_two max_three min_three max_four min_four   -- for this text's walks alone
set_option linter.unusedVariables false
set_option linter.unusedSimpArgs false

/-! ### path_Clean: function 22 -/
mutual
def path_Clean.l0 : Nat → List ByteArray → List ByteArray → Int → Int → Option (List ByteArray × Int)
 | 0, _, _, _, _ => none
 | k + 1, x5, x14, x15, x16 => if x16 < x15 then (if 0 ≤ x16 then (if x16 < (x14.length : Int) then (if (rdOf ByteArray.empty x14 x16).toList = ([] : List UInt8) then (path_Clean.j1 k x5 (rdOf ByteArray.empty x14 x16) x14 x15 x16 ((rdOf ByteArray.empty x14 x16).toList == ([] : List UInt8))) else (path_Clean.j1 k x5 (rdOf ByteArray.empty x14 x16) x14 x15 x16 ((rdOf ByteArray.empty x14 x16).toList == ([46] : List UInt8)))) else (none)) else (none)) else (some (x5, 0))
def path_Clean.j1 : Nat → List ByteArray → ByteArray → List ByteArray → Int → Int → Bool → Option (List ByteArray × Int)
 | 0, _, _, _, _, _, _ => none
 | k + 1, x5, x7, x14, x15, x16, x20 => if x20 = true then (path_Clean.l0 k x5 x14 x15 (wrap64 (x16 + 1))) else (if x7.toList = ([46, 46] : List UInt8) then (some (([] : List ByteArray), 104)) else (if (x7.size : Int) > 255 then (some (([] : List ByteArray), 2)) else (if x5.length < 8796093022208 then (path_Clean.l0 k (x5 ++ [x7]) x14 x15 (wrap64 (x16 + 1))) else (none))))
end
def path_Clean.f (k : Nat) (a0 : ByteArray) : Option (List ByteArray × Int) := (path_Sound.f a0).bind fun t230 => (if t230 = 0 then ((strings_Split.f a0 (⟨#[47]⟩ : ByteArray)).bind fun t231 => (path_Clean.l0 k ([] : List ByteArray) t231 (t231.length : Int) 0)) else (some (([] : List ByteArray), t230)))
theorem path_Clean.mono_l : ∀ k, (∀ y0 y1 y2 y3, LeO (path_Clean.l0 k y0 y1 y2 y3) (path_Clean.l0 (k + 1) y0 y1 y2 y3)) ∧ (∀ y0 y1 y2 y3 y4 y5, LeO (path_Clean.j1 k y0 y1 y2 y3 y4 y5) (path_Clean.j1 (k + 1) y0 y1 y2 y3 y4 y5))
 | 0 => ⟨fun _ _ _ _ r h => by simp [path_Clean.l0] at h, fun _ _ _ _ _ _ r h => by simp [path_Clean.j1] at h⟩
 | k + 1 => by
  obtain ⟨ih0, ih1⟩ := path_Clean.mono_l k
  refine ⟨?_, ?_⟩
  ·intro y0 y1 y2 y3
   unfold path_Clean.l0
   repeat' first
   | (with_reducible exact ih0 _ _ _ _)
   | (with_reducible exact ih1 _ _ _ _ _ _)
   | (with_reducible exact LeO.refl _)
   | (with_reducible exact LeO.none _)
   | (with_reducible refine LeO.ite ?_ ?_)
   | (with_reducible refine LeO.bind ?_ (fun _ => ?_))
   | exact ih0 _ _ _ _
   | exact ih1 _ _ _ _ _ _
   | exact LeO.none _
   | refine LeO.ite ?_ ?_
   | refine LeO.bind ?_ (fun _ => ?_)
  ·intro y0 y1 y2 y3 y4 y5
   unfold path_Clean.j1
   repeat' first
   | (with_reducible exact ih0 _ _ _ _)
   | (with_reducible exact ih1 _ _ _ _ _ _)
   | (with_reducible exact LeO.refl _)
   | (with_reducible exact LeO.none _)
   | (with_reducible refine LeO.ite ?_ ?_)
   | (with_reducible refine LeO.bind ?_ (fun _ => ?_))
   | exact ih0 _ _ _ _
   | exact ih1 _ _ _ _ _ _
   | exact LeO.none _
   | refine LeO.ite ?_ ?_
   | refine LeO.bind ?_ (fun _ => ?_)
theorem path_Clean.mono : ∀ a0 k, LeO (path_Clean.f k a0) (path_Clean.f (k + 1) a0) := by
 intro a0 k
 obtain ⟨ih0, ih1⟩ := path_Clean.mono_l k
 unfold path_Clean.f
 repeat' first
   | (with_reducible exact ih0 _ _ _ _)
   | (with_reducible exact ih1 _ _ _ _ _ _)
   | (with_reducible exact LeO.refl _)
   | (with_reducible exact LeO.none _)
   | (with_reducible refine LeO.ite ?_ ?_)
   | (with_reducible refine LeO.bind ?_ (fun _ => ?_))
   | exact ih0 _ _ _ _
   | exact ih1 _ _ _ _ _ _
   | exact LeO.none _
   | refine LeO.ite ?_ ?_
   | refine LeO.bind ?_ (fun _ => ?_)
set_option maxHeartbeats 8000000 in
set_option maxRecDepth 100000 in
theorem path_Clean.calls (k : Nat) (a0 : ByteArray) (r1 : List ByteArray) (r2 : Int) (w : World) (h : path_Clean.f k a0 = some (r1, r2)) (hGG0 : GG w) :
  Calls Tryd.prog 22 #[.string a0] w fun e w' => ∃ v0_ : Value, e = .returned (.tuple #[v0_, .int .i64 r2]) ∧ Kd.R Kd.string 9 w' w.heap.size (fun _ => True) v0_ r1 ∧ Below w.heap.size w w' := by
 have HGG := Aside0.mk hGG0
 clear hGG0
 have HB := Aside0.mk (Below.refl w.heap.size w)
 have H : ((path_Sound.f a0).bind fun t230 => (if t230 = 0 then ((strings_Split.f a0 (⟨#[47]⟩ : ByteArray)).bind fun t231 => (path_Clean.l0 k ([] : List ByteArray) t231 (t231.length : Int) 0)) else (some (([] : List ByteArray), t230)))) = some (r1, r2) := h
 clear h
 replace H := Option.bind_eq_some_iff.mp H
 obtain ⟨t230, A20, H⟩ := H
 replace H : (if t230 = 0 then ((strings_Split.f a0 (⟨#[47]⟩ : ByteArray)).bind fun t231 => (path_Clean.l0 k ([] : List ByteArray) t231 (t231.length : Int) 0)) else (some (([] : List ByteArray), t230))) = some (r1, r2) := H
 have A2 := Aside0.mk A20
 clear A20
 by_cases c3 : t230 = 0
 ·rw [if_pos c3] at H
  have c3b0 : (t230 == 0) = true := beq_iff_eq.mpr c3
  have c3b1 : (t230 != 0) = false := bne_eq_false_iff_eq.mpr c3
  clear c3
  replace H := Option.bind_eq_some_iff.mp H
  obtain ⟨t231, A40, H⟩ := H
  replace H : (path_Clean.l0 k ([] : List ByteArray) t231 (t231.length : Int) 0) = some (r1, r2) := H
  have A4 := Aside0.mk A40
  clear A40
  have H' := Aside0.mk H
  clear H
  go_enter Tryd.func22, Tryd.ntmps22
  go_wp2_with (first | ((with_reducible refine gate_callee (f := 45) rfl ?_); refine goesL_ (some 9) rfl rfl Tryd.func45 (by kernel_rfl) rfl #[.string a0] rfl (by (try simp only [List.map_toArray, List.map_cons, List.map_nil]); first | done | rfl | (simp only [List.length_drop, List.length_take]; rfl)) ?_; (with_reducible refine (path_Sound.calls a0 t230 _ A2.out ?hGG).mono ?_); (case hGG => exact GG_below HGG.out (by repeat (first | (with_reducible first | exact HB.out | apply below_alloc | apply pw_below_drewN | apply below_drew1) | exact HB.out))); rintro e w5 ⟨rfl, hb⟩; refine ⟨_, rfl, ?_⟩; have n0_ := Aside0.mk (below_step (by repeat (first | (with_reducible first | exact HB.out | apply below_alloc | apply pw_below_drewN | apply below_drew1) | exact HB.out)) hb); clear HB; have HB := n0_; clear n0_; (try clear hb); (try clear hb2); (try clear hk); (try clear hi)) | ((with_reducible refine gate_callee (f := 46) rfl ?_); refine goesL_ (some 14) rfl rfl Tryd.func46 (by kernel_rfl) rfl #[.string a0, .string (⟨#[47]⟩ : ByteArray)] rfl (by (try simp only [List.map_toArray, List.map_cons, List.map_nil]); first | done | rfl | (simp only [List.length_drop, List.length_take]; rfl)) ?_; (with_reducible refine (strings_Split.calls a0 (⟨#[47]⟩ : ByteArray) t231 _ A4.out).mono ?_); rintro e w6 ⟨v232, rfl, ho0, hb⟩; refine ⟨_, rfl, ?_⟩; have n0_ := Aside0.mk (Kd.R_lower ho0 (below_size (by repeat (first | (with_reducible first | exact HB.out | apply below_alloc | apply pw_below_drewN | apply below_drew1) | exact HB.out)))); have n1_ := Aside0.mk (below_step (by repeat (first | (with_reducible first | exact HB.out | apply below_alloc | apply pw_below_drewN | apply below_drew1) | exact HB.out)) hb); clear HB; have HO233 := n0_; have HB := n1_; clear n0_ n1_; (try clear hb); (try clear hb2); (try clear hk); (try clear hi); (try clear ho0); obtain ⟨Ao7, co7, eo7⟩ := Kd.R_slice HO233.out; subst eo7))
  go_loopg [5, 16] k (fun kq v5 v16 w' => ∃ (x5_1 : List ByteArray) (x16_1 : Int), v16 = .int .i64 x16_1 ∧ Aside0 (path_Clean.l0 kq x5_1 t231 (t231.length : Int) x16_1 = some (r1, r2)) ∧ Aside0 (kq ≤ k) ∧ Aside0 (Kd.R Kd.string 9 w' w.heap.size (fun k_ => some k_ ≠ ((.slice Ao7 t231.length co7) : Value).ownBlock) v5 x5_1) ∧ Aside0 (Kd.R Kd.string 9 w' w.heap.size (fun k_ => some k_ ≠ (v5 : Value).ownBlock) (.slice Ao7 t231.length co7) t231) ∧ Aside0 (Below w.heap.size w w'))
  case atStart => exact ⟨(([] : List ByteArray)), (0), (by first | rfl | (simp; done) | (simp [*]; done)), H', ⟨Nat.le_refl _⟩, ⟨by first | exact Kd.R_nil _ _ _ _ _ | exact Kd.N_nil _ _ _ _ _ | exact Kd.V_nil _ _ _ _ _ | exact Kd.Q_nil _ _ _ _ _ | exact Kd.S_nil _ _ _ _ _⟩, ⟨by (with_reducible repeat (first | apply Kd.R_alloc | apply Kd.R_drewN | apply Kd.R_drew)); exact Kd.R_mono HO233.out (fun _ hk => (by simp [Value.ownBlock]))⟩, ⟨by repeat (first | (with_reducible first | exact HB.out | apply below_alloc | apply pw_below_drewN | apply below_drew1) | exact HB.out)⟩⟩
  case round =>
   clear H'
   try clear c2
   try clear p2
   try clear c3
   try clear c3b0
   try clear c3b1
   try clear c4
   obtain ⟨x5_1, x16_1, rfl, HA, HK1, HO_5, HO_14, HB⟩ := hrel
   cases gk with
   | zero => exact absurd HA.out (by simp [path_Clean.l0])
   | succ k1 =>
    have H := HA.out
    clear HA
    simp only [path_Clean.l0] at H
    by_cases c8 : x16_1 < (t231.length : Int)
    ·rw [if_pos c8] at H
     have c8b0 : decide (x16_1 < (t231.length : Int)) = true := decide_eq_true c8
     clear c8
     by_cases c9 : 0 ≤ x16_1
     ·rw [if_pos c9] at H
      have c9b0 : decide (0 ≤ x16_1) = true := decide_eq_true c9
      clear c9
      by_cases c10 : x16_1 < (t231.length : Int)
      ·rw [if_pos c10] at H
       have c10b0 : decide (x16_1 < (t231.length : Int)) = true := decide_eq_true c10
       clear c10
       have HC11 := Aside0.mk H
       clear H
       have p234 : 0 ≤ (x16_1 : Int) := of_decide_eq_true (by first | (with_reducible assumption) | assumption)
       have q234 : x16_1 < (t231.length : Int) := of_decide_eq_true (by first | (with_reducible assumption) | assumption)
       obtain ⟨ad234, e234, hx234_0⟩ := Kd.at_string (Kd.R_reads' HO_14.out).2.2 x16_1 p234 q234
       cases e234
       replace p234 := eq_true p234
       replace q234 := eq_true q234
       go_upto_if 20 with (fail)
       go_cut [20] (fun v20 wc => ∃ (kq : Nat) (x20_10 : Bool), v20 = .bool x20_10 ∧ Aside0 (path_Clean.j1 kq x5_1 (rdOf ByteArray.empty t231 x16_1) t231 (t231.length : Int) x16_1 x20_10 = some (r1, r2)) ∧ Aside0 (kq ≤ k1) ∧ Aside0 (Kd.R Kd.string 9 wc w.heap.size (fun k_ => some k_ ≠ ((.slice (some ad234) t231.length co7) : Value).ownBlock) u5 x5_1) ∧ Aside0 (Kd.R Kd.string 9 wc w.heap.size (fun k_ => some k_ ≠ (u5 : Value).ownBlock) (.slice (some ad234) t231.length co7) t231) ∧ Aside0 (Below w.heap.size w wc))
       case first =>
        have H := HC11.out
        clear HC11
        by_cases c12 : (rdOf ByteArray.empty t231 x16_1).toList = ([] : List UInt8)
        ·rw [if_pos c12] at H
         have c12b0 : ((rdOf ByteArray.empty t231 x16_1).toList == ([] : List UInt8)) = true := beq_iff_eq.mpr c12
         have c12b2 : ((rdOf ByteArray.empty t231 x16_1).toList).isEmpty = true := List.isEmpty_iff.mpr c12
         have c12b1 : ((rdOf ByteArray.empty t231 x16_1).toList != ([] : List UInt8)) = false := bne_eq_false_iff_eq.mpr c12
         clear c12
         (first | rw [c12b0] | (simp only [i64_w, i32_w]; rw [c12b0]) | skip)
         have H' := Aside0.mk H
         clear H
         go_wp2
         all_goals (try (exfalso; first | (rename_i he_; rw [c12b2] at he_; cases he_; done) | (rename_i he_ _; rw [c12b2] at he_; cases he_; done) | (rename_i he_ _ _; rw [c12b2] at he_; cases he_; done) | (rename_i he_ _ _ _; rw [c12b2] at he_; cases he_; done) | (rename_i he_ _ _ _ _; rw [c12b2] at he_; cases he_; done) | (rename_i he_ _ _ _ _ _; rw [c12b2] at he_; cases he_; done) | (rename_i he_ _ _ _ _ _ _; rw [c12b2] at he_; cases he_; done)))
         go_meet
         case rel => exact ⟨_, (((rdOf ByteArray.empty t231 x16_1).toList == ([] : List UInt8))), (by first | rfl | (simp; done) | (simp [*]; done)), H', ⟨by have := HK1.out; first | omega | exact Nat.le_refl _⟩, ⟨by (with_reducible repeat (first | apply Kd.R_alloc | apply Kd.R_drewN | apply Kd.R_drew)); first | exact HO_5.out | exact Kd.R_mono HO_5.out (fun _ hk_ => by have h_ : ∀ (A : Option Addr) (n c : Nat), (Value.slice A n c).ownBlock = A.map (·.block) := fun A _ _ => (by cases A <;> rfl); simpa only [h_] using hk_)⟩, ⟨by (with_reducible repeat (first | apply Kd.R_alloc | apply Kd.R_drewN | apply Kd.R_drew)); first | exact HO_14.out | exact Kd.R_mono HO_14.out (fun _ hk_ => by have h_ : ∀ (A : Option Addr) (n c : Nat), (Value.slice A n c).ownBlock = A.map (·.block) := fun A _ _ => (by cases A <;> rfl); simpa only [h_] using hk_)⟩, ⟨by repeat (first | (with_reducible first | exact HB.out | apply below_alloc | apply pw_below_drewN | apply below_drew1) | exact HB.out)⟩⟩
        ·rw [if_neg c12] at H
         have c12b0 : ((rdOf ByteArray.empty t231 x16_1).toList == ([] : List UInt8)) = false := beq_eq_false_iff_ne.mpr c12
         have c12b2 : ((rdOf ByteArray.empty t231 x16_1).toList).isEmpty = false := List.isEmpty_eq_false_iff.mpr c12
         have c12b1 : ((rdOf ByteArray.empty t231 x16_1).toList != ([] : List UInt8)) = true := bne_iff_ne.mpr c12
         (first | rw [c12b0] | (simp only [i64_w, i32_w]; rw [c12b0]) | skip)
         have H' := Aside0.mk H
         clear H
         go_wp2
         all_goals (try (exfalso; first | (rename_i he_; rw [c12b2] at he_; cases he_; done) | (rename_i he_ _; rw [c12b2] at he_; cases he_; done) | (rename_i he_ _ _; rw [c12b2] at he_; cases he_; done) | (rename_i he_ _ _ _; rw [c12b2] at he_; cases he_; done) | (rename_i he_ _ _ _ _; rw [c12b2] at he_; cases he_; done) | (rename_i he_ _ _ _ _ _; rw [c12b2] at he_; cases he_; done) | (rename_i he_ _ _ _ _ _ _; rw [c12b2] at he_; cases he_; done)))
         go_meet
         case rel => exact ⟨_, (((rdOf ByteArray.empty t231 x16_1).toList == ([46] : List UInt8))), (by first | rfl | (simp; done) | (simp [*]; done)), H', ⟨by have := HK1.out; first | omega | exact Nat.le_refl _⟩, ⟨by (with_reducible repeat (first | apply Kd.R_alloc | apply Kd.R_drewN | apply Kd.R_drew)); first | exact HO_5.out | exact Kd.R_mono HO_5.out (fun _ hk_ => by have h_ : ∀ (A : Option Addr) (n c : Nat), (Value.slice A n c).ownBlock = A.map (·.block) := fun A _ _ => (by cases A <;> rfl); simpa only [h_] using hk_)⟩, ⟨by (with_reducible repeat (first | apply Kd.R_alloc | apply Kd.R_drewN | apply Kd.R_drew)); first | exact HO_14.out | exact Kd.R_mono HO_14.out (fun _ hk_ => by have h_ : ∀ (A : Option Addr) (n c : Nat), (Value.slice A n c).ownBlock = A.map (·.block) := fun A _ _ => (by cases A <;> rfl); simpa only [h_] using hk_)⟩, ⟨by repeat (first | (with_reducible first | exact HB.out | apply below_alloc | apply pw_below_drewN | apply below_drew1) | exact HB.out)⟩⟩
       case rest =>
        clear HC11
        try clear c1
        try clear c2
        try clear p2
        try clear q2
        try clear hx2
        try clear c3
        try clear c3b0
        try clear c3b1
        try clear c4
        try clear c8
        try clear c8b0
        try clear c9
        try clear c9b0
        try clear c10
        try clear c10b0
        try clear c12
        try clear c12b0
        try clear c12b1
        try clear hx234_0
        try clear p2
        try clear p234
        try clear q234
        obtain ⟨kq, x20_10, rfl, HA, HJ10, HO_5, HO_14, HB⟩ := hcut
        cases kq with
        | zero => exact absurd HA.out (by simp [path_Clean.j1])
        | succ kj10 =>
         have H := HA.out
         clear HA
         simp only [path_Clean.j1] at H
         by_cases c13 : x20_10 = true
         ·subst c13
          have H1 : (path_Clean.l0 kj10 x5_1 t231 (t231.length : Int) (wrap64 (x16_1 + 1))) = some (r1, r2) := by rw [if_pos rfl] at H; exact H
          clear H
          have H := H1
          clear H1
          have H' := Aside0.mk H
          clear H
          go_wp2
          go_roundg kj10
          case measure => have := HK1.out; have := HJ10.out; omega
          case rel => exact ⟨(x5_1), (wrap64 (x16_1 + 1)), (by first | rfl | (simp; done) | (simp [*]; done)), H', ⟨by have := HK1.out; have := HJ10.out; omega⟩, ⟨by (with_reducible repeat (first | apply Kd.R_alloc | apply Kd.R_drewN | apply Kd.R_drew)); first | exact HO_5.out | exact Kd.R_mono HO_5.out (fun _ hk_ => by have h_ : ∀ (A : Option Addr) (n c : Nat), (Value.slice A n c).ownBlock = A.map (·.block) := fun A _ _ => (by cases A <;> rfl); simpa only [h_] using hk_)⟩, ⟨by (with_reducible repeat (first | apply Kd.R_alloc | apply Kd.R_drewN | apply Kd.R_drew)); first | exact HO_14.out | exact Kd.R_mono HO_14.out (fun _ hk_ => by have h_ : ∀ (A : Option Addr) (n c : Nat), (Value.slice A n c).ownBlock = A.map (·.block) := fun A _ _ => (by cases A <;> rfl); simpa only [h_] using hk_)⟩, ⟨by repeat (first | (with_reducible first | exact HB.out | apply below_alloc | apply pw_below_drewN | apply below_drew1) | exact HB.out)⟩⟩
         ·replace c13 := Bool.eq_false_iff.mpr c13
          subst c13
          have H1 : (if (rdOf ByteArray.empty t231 x16_1).toList = ([46, 46] : List UInt8) then (some (([] : List ByteArray), 104)) else (if ((rdOf ByteArray.empty t231 x16_1).size : Int) > 255 then (some (([] : List ByteArray), 2)) else (if x5_1.length < 8796093022208 then (path_Clean.l0 kj10 (x5_1 ++ [(rdOf ByteArray.empty t231 x16_1)]) t231 (t231.length : Int) (wrap64 (x16_1 + 1))) else (none)))) = some (r1, r2) := by rw [if_neg (show ¬ (false = true) by decide)] at H; exact H
          clear H
          have H := H1
          clear H1
          by_cases c14 : (rdOf ByteArray.empty t231 x16_1).toList = ([46, 46] : List UInt8)
          ·rw [if_pos c14] at H
           have c14b0 : ((rdOf ByteArray.empty t231 x16_1).toList == ([46, 46] : List UInt8)) = true := beq_iff_eq.mpr c14
           have c14b1 : ((rdOf ByteArray.empty t231 x16_1).toList != ([46, 46] : List UInt8)) = false := bne_eq_false_iff_eq.mpr c14
           clear c14
           simp only [Option.some.injEq, Prod.mk.injEq] at H
           obtain ⟨rfl, rfl⟩ := H
           go_wp2
           go_ret2
           exact ⟨_, by first | rfl | (simp [errW_none, errW_some] <;> rfl) | (simp [*, errW_none, errW_some] <;> rfl), by first | exact Kd.R_nil _ _ _ _ _ | exact Kd.N_nil _ _ _ _ _ | exact Kd.V_nil _ _ _ _ _ | exact Kd.Q_nil _ _ _ _ _ | exact Kd.S_nil _ _ _ _ _, by repeat (first | (with_reducible first | exact HB.out | apply below_alloc | apply pw_below_drewN | apply below_drew1) | exact HB.out)⟩
          ·rw [if_neg c14] at H
           have c14b0 : ((rdOf ByteArray.empty t231 x16_1).toList == ([46, 46] : List UInt8)) = false := beq_eq_false_iff_ne.mpr c14
           have c14b1 : ((rdOf ByteArray.empty t231 x16_1).toList != ([46, 46] : List UInt8)) = true := bne_iff_ne.mpr c14
           by_cases c15 : ((rdOf ByteArray.empty t231 x16_1).size : Int) > 255
           ·rw [if_pos c15] at H
            have c15b0 : decide (255 < ((rdOf ByteArray.empty t231 x16_1).size : Int)) = true := decide_eq_true c15
            have c15b1 : decide (255 < (rdOf ByteArray.empty t231 x16_1).size) = true := decide_eq_true (by omega)
            clear c15
            simp only [Option.some.injEq, Prod.mk.injEq] at H
            obtain ⟨rfl, rfl⟩ := H
            go_wp2
            go_ret2
            exact ⟨_, by first | rfl | (simp [errW_none, errW_some] <;> rfl) | (simp [*, errW_none, errW_some] <;> rfl), by first | exact Kd.R_nil _ _ _ _ _ | exact Kd.N_nil _ _ _ _ _ | exact Kd.V_nil _ _ _ _ _ | exact Kd.Q_nil _ _ _ _ _ | exact Kd.S_nil _ _ _ _ _, by repeat (first | (with_reducible first | exact HB.out | apply below_alloc | apply pw_below_drewN | apply below_drew1) | exact HB.out)⟩
           ·rw [if_neg c15] at H
            have c15b0 : decide (255 < ((rdOf ByteArray.empty t231 x16_1).size : Int)) = false := decide_eq_false c15
            have c15b1 : decide (255 < (rdOf ByteArray.empty t231 x16_1).size) = false := decide_eq_false (by omega)
            clear c15
            by_cases c16 : x5_1.length < 8796093022208
            ·rw [if_pos c16] at H
             have LMc16 := Aside0.mk c16
             clear c16
             obtain ⟨y235, hy235⟩ : ∃ y_ : List ByteArray, y_ = (x5_1 ++ [(rdOf ByteArray.empty t231 x16_1)]) := ⟨_, rfl⟩
             replace H : (path_Clean.l0 kj10 y235 t231 (t231.length : Int) (wrap64 (x16_1 + 1))) = some (r1, r2) := by first | (rw [hy235]; with_reducible exact H) | (have H2_ := (Option.bind_some _ _).symm.trans H; rw [hy235]; with_reducible exact H2_) | (have H2_ := (Option.bind_some _ _).symm.trans H; with_reducible exact H2_) | with_reducible exact H | (rw [hy235]; exact H) | exact H
             have Ny235 := Aside0.mk hy235
             clear hy235
             have H' := Aside0.mk H
             clear H
             go_wp2_with (first | ((with_reducible refine gate_builtin (b := .append) (xs := #[.tmp 32, .tmp 34]) rfl ?_); at_builtin; refine Kd.R_append Kd.string (w0 := w) w.heap.size rfl (.tmp 32) (.tmp 34) 45 9 (.string ⟨#[]⟩) 16 rfl Tryd.underlying45 info9 rfl (by decide) (by omega) u5 x5_1 (rdOf ByteArray.empty t231 x16_1) [.string (rdOf ByteArray.empty t231 x16_1)] (fun k_ => some k_ ≠ (.slice (some ad234) t231.length co7 : Value).ownBlock) (fun _ => False) rfl rfl ?aP (fun _ hk => hk.elim) ?aF ?aO ?aB ?aS ?aL ?_; (case aP => exact rfl); (case aB => exact (by repeat (first | (with_reducible first | exact HB.out | apply below_alloc | apply pw_below_drewN | apply below_drew1) | exact HB.out))); (case aF => exact (fun k_ hk => Kd.fresh' (Kd.R_lt (by (with_reducible repeat (first | apply Kd.R_alloc | apply Kd.R_drewN | apply Kd.R_drew)); exact HO_14.out)) k_ hk)); (case aO => exact (by (with_reducible repeat (first | apply Kd.R_alloc | apply Kd.R_drewN | apply Kd.R_drew)); exact HO_5.out)); (case aS => exact (below_size (by repeat (first | (with_reducible first | exact HB.out | apply below_alloc | apply pw_below_drewN | apply below_drew1) | exact HB.out)))); (case aL => have := LMc16.out; omega); intro v236 w17 ho hb hg hat; rw [← Ny235.out] at ho; have n0_ := Aside0.mk (Kd.R_after (ok := (fun _ => True)) (by (with_reducible repeat (first | apply Kd.R_alloc | apply Kd.R_drewN | apply Kd.R_drew)); exact Kd.R_mono HO_14.out (fun _ hk => ⟨trivial, hk⟩)) hg hat); have n1_ := Aside0.mk (hb); have n2_ := Aside0.mk (ho); clear HO_14; clear HB; clear HO_5; have HO_14 := n0_; have HB := n1_; have HO237 := n2_; clear n0_ n1_ n2_; clear ho hb hg hat))
             go_roundg kj10
             case measure => have := HK1.out; have := HJ10.out; omega
             case rel => exact ⟨(y235), (wrap64 (x16_1 + 1)), (by first | rfl | (simp; done) | (simp [*]; done)), H', ⟨by have := HK1.out; have := HJ10.out; omega⟩, ⟨by (with_reducible repeat (first | apply Kd.R_alloc | apply Kd.R_drewN | apply Kd.R_drew)); first | exact HO237.out | exact Kd.R_mono HO237.out (fun _ hk_ => by have h_ : ∀ (A : Option Addr) (n c : Nat), (Value.slice A n c).ownBlock = A.map (·.block) := fun A _ _ => (by cases A <;> rfl); simpa only [h_] using hk_)⟩, ⟨by (with_reducible repeat (first | apply Kd.R_alloc | apply Kd.R_drewN | apply Kd.R_drew)); exact Kd.R_mono HO_14.out (fun _ hk => hk.2)⟩, ⟨by repeat (first | (with_reducible first | exact HB.out | apply below_alloc | apply pw_below_drewN | apply below_drew1) | exact HB.out)⟩⟩
            ·rw [if_neg c16] at H
             exact absurd H (by simp)
      ·rw [if_neg c10] at H
       exact absurd H (by simp)
     ·rw [if_neg c9] at H
      exact absurd H (by simp)
    ·rw [if_neg c8] at H
     have c8b0 : decide (x16_1 < (t231.length : Int)) = false := decide_eq_false c8
     clear c8
     simp only [Option.some.injEq, Prod.mk.injEq] at H
     obtain ⟨rfl, rfl⟩ := H
     go_wp2
     go_ret2
     exact ⟨_, by first | rfl | (simp [errW_none, errW_some] <;> rfl) | (simp [*, errW_none, errW_some] <;> rfl), by (with_reducible repeat (first | apply Kd.R_alloc | apply Kd.R_drewN | apply Kd.R_drew)); exact Kd.R_mono HO_5.out (fun _ hk => trivial), by repeat (first | (with_reducible first | exact HB.out | apply below_alloc | apply pw_below_drewN | apply below_drew1) | exact HB.out)⟩
 ·rw [if_neg c3] at H
  have c3b0 : (t230 == 0) = false := beq_eq_false_iff_ne.mpr c3
  have c3b1 : (t230 != 0) = true := bne_iff_ne.mpr c3
  simp only [Option.some.injEq, Prod.mk.injEq] at H
  obtain ⟨rfl, rfl⟩ := H
  go_enter Tryd.func22, Tryd.ntmps22
  go_wp2_with (first | ((with_reducible refine gate_callee (f := 45) rfl ?_); refine goesL_ (some 9) rfl rfl Tryd.func45 (by kernel_rfl) rfl #[.string a0] rfl (by (try simp only [List.map_toArray, List.map_cons, List.map_nil]); first | done | rfl | (simp only [List.length_drop, List.length_take]; rfl)) ?_; (with_reducible refine (path_Sound.calls a0 t230 _ A2.out ?hGG).mono ?_); (case hGG => exact GG_below HGG.out (by repeat (first | (with_reducible first | exact HB.out | apply below_alloc | apply pw_below_drewN | apply below_drew1) | exact HB.out))); rintro e w18 ⟨rfl, hb⟩; refine ⟨_, rfl, ?_⟩; have n0_ := Aside0.mk (below_step (by repeat (first | (with_reducible first | exact HB.out | apply below_alloc | apply pw_below_drewN | apply below_drew1) | exact HB.out)) hb); clear HB; have HB := n0_; clear n0_; (try clear hb); (try clear hb2); (try clear hk); (try clear hi)))
  go_ret2
  exact ⟨_, by first | rfl | (simp [errW_none, errW_some] <;> rfl) | (simp [*, errW_none, errW_some] <;> rfl), by first | exact Kd.R_nil _ _ _ _ _ | exact Kd.N_nil _ _ _ _ _ | exact Kd.V_nil _ _ _ _ _ | exact Kd.Q_nil _ _ _ _ _ | exact Kd.S_nil _ _ _ _ _, by repeat (first | (with_reducible first | exact HB.out | apply below_alloc | apply pw_below_drewN | apply below_drew1) | exact HB.out)⟩

end Go.Proofs.YtolpamojbiipaaaDoor.XA
-- Written by a program of this session (wip/tools/xprint.py) out of the translation's print. Lean checks it.

namespace Go.Proofs.YtolpamojbiipaaaDoor.XA
open Go.RowKit Go.Proofs.YtolpamojbiipaaaDoorW.PrintWords Go.Proofs.YtolpamojbiipaaaDoorW.PrintLast Go.Proofs.YtolpamojbiipaaaDoorW.PrintMore
attribute [local go_sem] max2_int min2_int max_two min_two max_three min_three max_four min_four   -- for this text's walks alone
set_option linter.unusedVariables false
set_option linter.unusedSimpArgs false

-- NOT PRINTED: function 7 (pannierlaw14_UsageNames)

/-! ### stringslite_HasPrefix: function 85 -/
def stringslite_HasPrefix.f (a0 : ByteArray) (a1 : ByteArray) : Option (Bool) := if (a0.size : Int) ≥ (a1.size : Int) then (if 0 ≤ (a1.size : Int) then (if (a1.size : Int) ≤ (a0.size : Int) then (some ((a0.extract 0 ((a1.size : Int) : Int).toNat).toList == a1.toList)) else (none)) else (none)) else (some false)
set_option maxHeartbeats 8000000 in
set_option maxRecDepth 100000 in
theorem stringslite_HasPrefix.calls (a0 : ByteArray) (a1 : ByteArray) (r : Bool) (w : World) (h : stringslite_HasPrefix.f a0 a1 = some r) :
  Calls Tryd.prog 85 #[.string a0, .string a1] w fun e w' => e = .returned (.bool r) ∧ Drawn0 w w' := by
 have H : (if (a0.size : Int) ≥ (a1.size : Int) then (if 0 ≤ (a1.size : Int) then (if (a1.size : Int) ≤ (a0.size : Int) then (some ((a0.extract 0 ((a1.size : Int) : Int).toNat).toList == a1.toList)) else (none)) else (none)) else (some false)) = some r := h
 clear h
 by_cases c3 : (a0.size : Int) ≥ (a1.size : Int)
 ·rw [if_pos c3] at H
  have c3b0 : decide ((a1.size : Int) ≤ (a0.size : Int)) = true := decide_eq_true c3
  have c3b1 : decide (a1.size ≤ a0.size) = true := decide_eq_true (Int.ofNat_le.mp c3)
  clear c3
  by_cases c4 : 0 ≤ (a1.size : Int)
  ·rw [if_pos c4] at H
   have c4b0 := eq_true c4
   have c4b1 : decide (0 ≤ (a1.size : Int)) = true := decide_eq_true c4
   clear c4
   by_cases c5 : (a1.size : Int) ≤ (a0.size : Int)
   ·rw [if_pos c5] at H
    have c5b0 := eq_true c5
    have c5b1 : decide ((a1.size : Int) ≤ (a0.size : Int)) = true := decide_eq_true c5
    clear c5
    obtain rfl := Option.some.inj H
    go_enter Tryd.func85, Tryd.ntmps85
    go_wp2
    all_goals (go_ret; exact ⟨by first | rfl | (simp; done) | (simp [*]; done), by repeat (first | exact Drawn0.refl _ | apply Drawn0.step)⟩)
   ·rw [if_neg c5] at H
    exact absurd H (by simp)
  ·rw [if_neg c4] at H
   exact absurd H (by simp)
 ·rw [if_neg c3] at H
  have c3b0 : decide ((a1.size : Int) ≤ (a0.size : Int)) = false := decide_eq_false c3
  have c3b1 : decide (a1.size ≤ a0.size) = false := decide_eq_false (fun h => c3 (Int.ofNat_le.mpr h))
  clear c3
  obtain rfl := Option.some.inj H
  go_enter Tryd.func85, Tryd.ntmps85
  go_wp2
  all_goals (go_ret; exact ⟨by first | rfl | (simp; done) | (simp [*]; done), by repeat (first | exact Drawn0.refl _ | apply Drawn0.step)⟩)

/-! ### strings_HasPrefix: function 73 -/
def strings_HasPrefix.f (a0 : ByteArray) (a1 : ByteArray) : Option (Bool) := (stringslite_HasPrefix.f a0 a1).bind fun t400 => (some t400)
set_option maxHeartbeats 8000000 in
set_option maxRecDepth 100000 in
theorem strings_HasPrefix.calls (a0 : ByteArray) (a1 : ByteArray) (r : Bool) (w : World) (h : strings_HasPrefix.f a0 a1 = some r) :
  Calls Tryd.prog 73 #[.string a0, .string a1] w fun e w' => e = .returned (.bool r) ∧ Drawn0 w w' := by
 have H : ((stringslite_HasPrefix.f a0 a1).bind fun t400 => (some t400)) = some r := h
 clear h
 replace H := Option.bind_eq_some_iff.mp H
 obtain ⟨t400, A30, H⟩ := H
 replace H : (some t400) = some r := H
 have A3 := Aside0.mk A30
 clear A30
 obtain rfl := Option.some.inj H
 go_enter Tryd.func73, Tryd.ntmps73
 go_wp2_with (first | ((with_reducible refine gate_callee (f := 85) rfl ?_); refine goesL_ (some 7) rfl rfl Tryd.func85 (by kernel_rfl) rfl #[.string a0, .string a1] rfl (by (try simp only [List.map_toArray, List.map_cons, List.map_nil]); first | done | rfl | (simp only [List.length_drop, List.length_take]; rfl)) ?_; (with_reducible refine (stringslite_HasPrefix.calls a0 a1 t400 _ A3.out).mono ?_); rintro e w' ⟨rfl, ⟨nd, rfl⟩⟩; refine ⟨_, rfl, ?_⟩))
 all_goals (go_ret; exact ⟨by first | rfl | (simp; done) | (simp [*]; done), by repeat (first | exact Drawn0.refl _ | apply Drawn0.step)⟩)

/-! ### path_Under: function 59 -/
def path_Under.f (a0 : ByteArray) (a1 : ByteArray) : Option (Bool) := if a0.toList = ([] : List UInt8) then (some true) else (if a1.toList = a0.toList then (some true) else (if a0.size + 1 ≤ 9223372036854775807 then ((strings_HasPrefix.f a1 (a0 ++ (⟨#[47]⟩ : ByteArray))).bind fun t401 => (some t401)) else (none)))
set_option maxHeartbeats 8000000 in
set_option maxRecDepth 100000 in
theorem path_Under.calls (a0 : ByteArray) (a1 : ByteArray) (r : Bool) (w : World) (h : path_Under.f a0 a1 = some r) :
  Calls Tryd.prog 59 #[.string a0, .string a1] w fun e w' => e = .returned (.bool r) ∧ Drawn0 w w' := by
 have H : (if a0.toList = ([] : List UInt8) then (some true) else (if a1.toList = a0.toList then (some true) else (if a0.size + 1 ≤ 9223372036854775807 then ((strings_HasPrefix.f a1 (a0 ++ (⟨#[47]⟩ : ByteArray))).bind fun t401 => (some t401)) else (none)))) = some r := h
 clear h
 by_cases c3 : a0.toList = ([] : List UInt8)
 ·rw [if_pos c3] at H
  have c3b0 : (a0.toList == ([] : List UInt8)) = true := beq_iff_eq.mpr c3
  have c3b2 : (a0.toList).isEmpty = true := List.isEmpty_iff.mpr c3
  have c3b1 : (a0.toList != ([] : List UInt8)) = false := bne_eq_false_iff_eq.mpr c3
  clear c3
  obtain rfl := Option.some.inj H
  go_enter Tryd.func59, Tryd.ntmps59
  go_wp2
  all_goals (try (exfalso; first | (rename_i he_; rw [c3b2] at he_; cases he_; done) | (rename_i he_ _; rw [c3b2] at he_; cases he_; done) | (rename_i he_ _ _; rw [c3b2] at he_; cases he_; done) | (rename_i he_ _ _ _; rw [c3b2] at he_; cases he_; done) | (rename_i he_ _ _ _ _; rw [c3b2] at he_; cases he_; done) | (rename_i he_ _ _ _ _ _; rw [c3b2] at he_; cases he_; done) | (rename_i he_ _ _ _ _ _ _; rw [c3b2] at he_; cases he_; done)))
  all_goals (go_ret; exact ⟨by first | rfl | (simp; done) | (simp [*]; done), by repeat (first | exact Drawn0.refl _ | apply Drawn0.step)⟩)
 ·rw [if_neg c3] at H
  have c3b0 : (a0.toList == ([] : List UInt8)) = false := beq_eq_false_iff_ne.mpr c3
  have c3b2 : (a0.toList).isEmpty = false := List.isEmpty_eq_false_iff.mpr c3
  have c3b1 : (a0.toList != ([] : List UInt8)) = true := bne_iff_ne.mpr c3
  by_cases c4 : a1.toList = a0.toList
  ·rw [if_pos c4] at H
   have c4b0 : (a1.toList == a0.toList) = true := beq_iff_eq.mpr c4
   have c4b1 : (a1.toList != a0.toList) = false := bne_eq_false_iff_eq.mpr c4
   clear c4
   obtain rfl := Option.some.inj H
   go_enter Tryd.func59, Tryd.ntmps59
   go_wp2
   all_goals (go_ret; exact ⟨by first | rfl | (simp; done) | (simp [*]; done), by repeat (first | exact Drawn0.refl _ | apply Drawn0.step)⟩)
  ·rw [if_neg c4] at H
   have c4b0 : (a1.toList == a0.toList) = false := beq_eq_false_iff_ne.mpr c4
   have c4b1 : (a1.toList != a0.toList) = true := bne_iff_ne.mpr c4
   by_cases c5 : a0.size + 1 ≤ 9223372036854775807
   ·rw [if_pos c5] at H
    have c5b0 := eq_true c5
    have c5b1 : decide (a0.size + 1 ≤ 9223372036854775807) = true := decide_eq_true c5
    try have c5b2 : (9223372036854775807 < a0.size + 1) = False := eq_false (Nat.not_lt.2 c5)
    replace H := Option.bind_eq_some_iff.mp H
    obtain ⟨t401, A60, H⟩ := H
    replace H : (some t401) = some r := H
    have A6 := Aside0.mk A60
    clear A60
    obtain rfl := Option.some.inj H
    go_enter Tryd.func59, Tryd.ntmps59
    go_wp2_with (first | (go_at_call 73; (with_reducible refine (strings_HasPrefix.calls a1 (a0 ++ (⟨#[47]⟩ : ByteArray)) t401 _ A6.out).mono ?_); rintro e w' ⟨rfl, ⟨nd, rfl⟩⟩))
    all_goals (go_ret; exact ⟨by first | rfl | (simp; done) | (simp [*]; done), by repeat (first | exact Drawn0.refl _ | apply Drawn0.step)⟩)
   ·rw [if_neg c5] at H
    exact absurd H (by simp)

end Go.Proofs.YtolpamojbiipaaaDoor.XA
-- Written by a program of this session (wip/tools/xprint.py) out of the translation's print. Lean checks it.

namespace Go.Proofs.YtolpamojbiipaaaDoor.XA
open Go.RowKit Go.Proofs.YtolpamojbiipaaaDoorW.PrintWords Go.Proofs.YtolpamojbiipaaaDoorW.PrintLast Go.Proofs.YtolpamojbiipaaaDoorW.PrintMore
attribute [local go_sem] max2_int min2_int max_two min_two max_three min_three max_four min_four   -- for this text's walks alone
set_option linter.unusedVariables false
set_option linter.unusedSimpArgs false

/-! ### pannierref10_Split: function 21 -/
mutual
def pannierref10_Split.l0 : Nat → ByteArray → List ByteArray → ByteArray → Int → Option (List ByteArray)
 | 0, _, _, _, _ => none
 | k + 1, x0, x3, x4, x5 => if x5 ≤ (x0.size : Int) then (if x5 < (x0.size : Int) then (if 0 ≤ x5 then (pannierref10_Split.j1 k x0 x3 x4 x5 ((bt x0 x5) != 47)) else (none)) else (pannierref10_Split.j1 k x0 x3 x4 x5 false)) else (some x3)
def pannierref10_Split.j1 : Nat → ByteArray → List ByteArray → ByteArray → Int → Bool → Option (List ByteArray)
 | 0, _, _, _, _, _ => none
 | k + 1, x0, x3, x4, x5, x21 => if x21 = true then (if 0 ≤ x5 then (if x5 ≤ (wrap64 (x5 + 1)) then (if (wrap64 (x5 + 1)) ≤ (x0.size : Int) then (if x4.size + (x0.extract (x5 : Int).toNat ((wrap64 (x5 + 1)) : Int).toNat).size ≤ 9223372036854775807 then (pannierref10_Split.l0 k x0 x3 (x4 ++ (x0.extract (x5 : Int).toNat ((wrap64 (x5 + 1)) : Int).toNat)) (wrap64 (x5 + 1))) else (none)) else (none)) else (none)) else (none)) else (if x4.toList = ([] : List UInt8) then (pannierref10_Split.l0 k x0 x3 (⟨#[]⟩ : ByteArray) (wrap64 (x5 + 1))) else (if x4.toList = ([46] : List UInt8) then (pannierref10_Split.l0 k x0 x3 (⟨#[]⟩ : ByteArray) (wrap64 (x5 + 1))) else (if x3.length < 8796093022208 then (pannierref10_Split.l0 k x0 (x3 ++ [x4]) (⟨#[]⟩ : ByteArray) (wrap64 (x5 + 1))) else (none))))
end
def pannierref10_Split.f (k : Nat) (a0 : ByteArray) : Option (List ByteArray) := pannierref10_Split.l0 k a0 ([] : List ByteArray) (⟨#[]⟩ : ByteArray) 0
theorem pannierref10_Split.mono_l : ∀ k, (∀ y0 y1 y2 y3, LeO (pannierref10_Split.l0 k y0 y1 y2 y3) (pannierref10_Split.l0 (k + 1) y0 y1 y2 y3)) ∧ (∀ y0 y1 y2 y3 y4, LeO (pannierref10_Split.j1 k y0 y1 y2 y3 y4) (pannierref10_Split.j1 (k + 1) y0 y1 y2 y3 y4))
 | 0 => ⟨fun _ _ _ _ r h => by simp [pannierref10_Split.l0] at h, fun _ _ _ _ _ r h => by simp [pannierref10_Split.j1] at h⟩
 | k + 1 => by
  obtain ⟨ih0, ih1⟩ := pannierref10_Split.mono_l k
  refine ⟨?_, ?_⟩
  ·intro y0 y1 y2 y3
   unfold pannierref10_Split.l0
   repeat' first
   | (with_reducible exact ih0 _ _ _ _)
   | (with_reducible exact ih1 _ _ _ _ _)
   | (with_reducible exact LeO.refl _)
   | (with_reducible exact LeO.none _)
   | (with_reducible refine LeO.ite ?_ ?_)
   | (with_reducible refine LeO.bind ?_ (fun _ => ?_))
   | exact ih0 _ _ _ _
   | exact ih1 _ _ _ _ _
   | exact LeO.none _
   | refine LeO.ite ?_ ?_
   | refine LeO.bind ?_ (fun _ => ?_)
  ·intro y0 y1 y2 y3 y4
   unfold pannierref10_Split.j1
   repeat' first
   | (with_reducible exact ih0 _ _ _ _)
   | (with_reducible exact ih1 _ _ _ _ _)
   | (with_reducible exact LeO.refl _)
   | (with_reducible exact LeO.none _)
   | (with_reducible refine LeO.ite ?_ ?_)
   | (with_reducible refine LeO.bind ?_ (fun _ => ?_))
   | exact ih0 _ _ _ _
   | exact ih1 _ _ _ _ _
   | exact LeO.none _
   | refine LeO.ite ?_ ?_
   | refine LeO.bind ?_ (fun _ => ?_)
theorem pannierref10_Split.mono : ∀ a0 k, LeO (pannierref10_Split.f k a0) (pannierref10_Split.f (k + 1) a0) := by
 intro a0 k
 obtain ⟨ih0, ih1⟩ := pannierref10_Split.mono_l k
 unfold pannierref10_Split.f
 repeat' first
   | (with_reducible exact ih0 _ _ _ _)
   | (with_reducible exact ih1 _ _ _ _ _)
   | (with_reducible exact LeO.refl _)
   | (with_reducible exact LeO.none _)
   | (with_reducible refine LeO.ite ?_ ?_)
   | (with_reducible refine LeO.bind ?_ (fun _ => ?_))
   | exact ih0 _ _ _ _
   | exact ih1 _ _ _ _ _
   | exact LeO.none _
   | refine LeO.ite ?_ ?_
   | refine LeO.bind ?_ (fun _ => ?_)
set_option maxHeartbeats 8000000 in
set_option maxRecDepth 100000 in
theorem pannierref10_Split.calls (k : Nat) (a0 : ByteArray) (r : List ByteArray) (w : World) (h : pannierref10_Split.f k a0 = some r) :
  Calls Tryd.prog 21 #[.string a0] w fun e w' => ∃ v0_ : Value, e = .returned (v0_) ∧ Kd.R Kd.string 9 w' w.heap.size (fun _ => True) v0_ r ∧ Below w.heap.size w w' := by
 have HB := Aside0.mk (Below.refl w.heap.size w)
 have H : (pannierref10_Split.l0 k a0 ([] : List ByteArray) (⟨#[]⟩ : ByteArray) 0) = some r := h
 clear h
 have H' := Aside0.mk H
 clear H
 go_enter Tryd.func21, Tryd.ntmps21
 go_wp2
 go_loopg [3, 4, 5] k (fun kq v3 v4 v5 w' => ∃ (x3_1 : List ByteArray) (x4_1 : ByteArray) (x5_1 : Int), v4 = .string x4_1 ∧ v5 = .int .i64 x5_1 ∧ Aside0 (pannierref10_Split.l0 kq a0 x3_1 x4_1 x5_1 = some r) ∧ Aside0 (kq ≤ k) ∧ Aside0 (Kd.R Kd.string 9 w' w.heap.size (fun _ => True) v3 x3_1) ∧ Aside0 (Below w.heap.size w w'))
 case atStart => exact ⟨(([] : List ByteArray)), ((⟨#[]⟩ : ByteArray)), (0), (by first | rfl | (simp; done) | (simp [*]; done)), (by first | rfl | (simp; done) | (simp [*]; done)), H', ⟨Nat.le_refl _⟩, ⟨by first | exact Kd.R_nil _ _ _ _ _ | exact Kd.N_nil _ _ _ _ _ | exact Kd.V_nil _ _ _ _ _ | exact Kd.Q_nil _ _ _ _ _ | exact Kd.S_nil _ _ _ _ _⟩, ⟨by repeat (first | (with_reducible first | exact HB.out | apply below_alloc | apply pw_below_drewN | apply below_drew1) | exact HB.out)⟩⟩
 case round =>
  clear H'
  obtain ⟨x3_1, x4_1, x5_1, rfl, rfl, HA, HK1, HO_3, HB⟩ := hrel
  cases gk with
  | zero => exact absurd HA.out (by simp [pannierref10_Split.l0])
  | succ k1 =>
   have H := HA.out
   clear HA
   simp only [pannierref10_Split.l0] at H
   by_cases c2 : x5_1 ≤ (a0.size : Int)
   ·rw [if_pos c2] at H
    have c2b0 : decide (x5_1 ≤ (a0.size : Int)) = true := decide_eq_true c2
    clear c2
    have HC3 := Aside0.mk H
    clear H
    go_upto_region 6 with (fail)
    go_cut [21] (fun v21 wc => ∃ (kq : Nat) (x21_2 : Bool), v21 = .bool x21_2 ∧ Aside0 (pannierref10_Split.j1 kq a0 x3_1 x4_1 x5_1 x21_2 = some r) ∧ Aside0 (kq ≤ k1) ∧ Aside0 (Kd.R Kd.string 9 wc w.heap.size (fun _ => True) u3 x3_1) ∧ Aside0 (Below w.heap.size w wc))
    case first =>
     have H := HC3.out
     clear HC3
     by_cases c4 : x5_1 < (a0.size : Int)
     ·rw [if_pos c4] at H
      have c4b0 : decide (x5_1 < (a0.size : Int)) = true := decide_eq_true c4
      clear c4
      (first | rw [c4b0] | (simp only [i64_w, i32_w]; rw [c4b0]) | skip)
      by_cases c5 : 0 ≤ x5_1
      ·rw [if_pos c5] at H
       have c5b0 : decide (0 ≤ x5_1) = true := decide_eq_true c5
       clear c5
       have H' := Aside0.mk H
       clear H
       have p6 : 0 ≤ (x5_1 : Int) := of_decide_eq_true (by first | (with_reducible assumption) | assumption)
       have q6 : x5_1 < (a0.size : Int) := of_decide_eq_true (by first | (with_reducible assumption) | assumption)
       have hx6 := bt_at a0 x5_1
       replace p6 := eq_true p6
       replace q6 := eq_true q6
       go_wp2
       go_meet
       case rel => exact ⟨_, (((bt a0 x5_1) != 47)), (by first | rfl | (simp; done) | (simp [*]; done)), H', ⟨by have := HK1.out; first | omega | exact Nat.le_refl _⟩, ⟨by (with_reducible repeat (first | apply Kd.R_alloc | apply Kd.R_drewN | apply Kd.R_drew)); first | exact HO_3.out | exact Kd.R_mono HO_3.out (fun _ hk_ => by have h_ : ∀ (A : Option Addr) (n c : Nat), (Value.slice A n c).ownBlock = A.map (·.block) := fun A _ _ => (by cases A <;> rfl); simpa only [h_] using hk_)⟩, ⟨by repeat (first | (with_reducible first | exact HB.out | apply below_alloc | apply pw_below_drewN | apply below_drew1) | exact HB.out)⟩⟩
      ·rw [if_neg c5] at H
       exact absurd H (by simp)
     ·rw [if_neg c4] at H
      have c4b0 : decide (x5_1 < (a0.size : Int)) = false := decide_eq_false c4
      clear c4
      (first | rw [c4b0] | (simp only [i64_w, i32_w]; rw [c4b0]) | skip)
      have H' := Aside0.mk H
      clear H
      go_wp2
      go_meet
      case rel => exact ⟨_, (false), (by first | rfl | (simp; done) | (simp [*]; done)), H', ⟨by have := HK1.out; first | omega | exact Nat.le_refl _⟩, ⟨by (with_reducible repeat (first | apply Kd.R_alloc | apply Kd.R_drewN | apply Kd.R_drew)); first | exact HO_3.out | exact Kd.R_mono HO_3.out (fun _ hk_ => by have h_ : ∀ (A : Option Addr) (n c : Nat), (Value.slice A n c).ownBlock = A.map (·.block) := fun A _ _ => (by cases A <;> rfl); simpa only [h_] using hk_)⟩, ⟨by repeat (first | (with_reducible first | exact HB.out | apply below_alloc | apply pw_below_drewN | apply below_drew1) | exact HB.out)⟩⟩
    case rest =>
     clear HC3
     try clear c2
     try clear c2b0
     try clear p2
     try clear c4
     try clear c4b0
     try clear c5
     try clear c5b0
     try clear p6
     try clear q6
     try clear hx6
     try clear p6
     try clear q6
     obtain ⟨kq, x21_2, rfl, HA, HJ2, HO_3, HB⟩ := hcut
     cases kq with
     | zero => exact absurd HA.out (by simp [pannierref10_Split.j1])
     | succ kj2 =>
      have H := HA.out
      clear HA
      simp only [pannierref10_Split.j1] at H
      by_cases c7 : x21_2 = true
      ·subst c7
       have H1 : (if 0 ≤ x5_1 then (if x5_1 ≤ (wrap64 (x5_1 + 1)) then (if (wrap64 (x5_1 + 1)) ≤ (a0.size : Int) then (if x4_1.size + (a0.extract (x5_1 : Int).toNat ((wrap64 (x5_1 + 1)) : Int).toNat).size ≤ 9223372036854775807 then (pannierref10_Split.l0 kj2 a0 x3_1 (x4_1 ++ (a0.extract (x5_1 : Int).toNat ((wrap64 (x5_1 + 1)) : Int).toNat)) (wrap64 (x5_1 + 1))) else (none)) else (none)) else (none)) else (none)) = some r := by rw [if_pos rfl] at H; exact H
       clear H
       have H := H1
       clear H1
       by_cases c8 : 0 ≤ x5_1
       ·rw [if_pos c8] at H
        have c8b0 := eq_true c8
        have c8b1 : decide (0 ≤ x5_1) = true := decide_eq_true c8
        clear c8
        by_cases c9 : x5_1 ≤ (wrap64 (x5_1 + 1))
        ·rw [if_pos c9] at H
         have c9b0 := eq_true c9
         have c9b1 : decide (x5_1 ≤ (wrap64 (x5_1 + 1))) = true := decide_eq_true c9
         by_cases c10 : (wrap64 (x5_1 + 1)) ≤ (a0.size : Int)
         ·rw [if_pos c10] at H
          have c10b0 := eq_true c10
          have c10b1 : decide ((wrap64 (x5_1 + 1)) ≤ (a0.size : Int)) = true := decide_eq_true c10
          by_cases c11 : x4_1.size + (a0.extract (x5_1 : Int).toNat ((wrap64 (x5_1 + 1)) : Int).toNat).size ≤ 9223372036854775807
          ·rw [if_pos c11] at H
           have c11b0 := eq_true c11
           have c11b1 : decide (x4_1.size + (a0.extract (x5_1 : Int).toNat ((wrap64 (x5_1 + 1)) : Int).toNat).size ≤ 9223372036854775807) = true := decide_eq_true c11
           try have c11b2 : (9223372036854775807 < x4_1.size + (a0.extract (x5_1 : Int).toNat ((wrap64 (x5_1 + 1)) : Int).toNat).size) = False := eq_false (Nat.not_lt.2 c11)
           have H' := Aside0.mk H
           clear H
           go_wp2
           go_roundg kj2
           case measure => have := HK1.out; have := HJ2.out; omega
           case rel => exact ⟨(x3_1), (x4_1 ++ (a0.extract (x5_1 : Int).toNat ((wrap64 (x5_1 + 1)) : Int).toNat)), (wrap64 (x5_1 + 1)), (by first | rfl | (simp; done) | (simp [*]; done)), (by first | rfl | (simp; done) | (simp [*]; done)), H', ⟨by have := HK1.out; have := HJ2.out; omega⟩, ⟨by (with_reducible repeat (first | apply Kd.R_alloc | apply Kd.R_drewN | apply Kd.R_drew)); first | exact HO_3.out | exact Kd.R_mono HO_3.out (fun _ hk_ => by have h_ : ∀ (A : Option Addr) (n c : Nat), (Value.slice A n c).ownBlock = A.map (·.block) := fun A _ _ => (by cases A <;> rfl); simpa only [h_] using hk_)⟩, ⟨by repeat (first | (with_reducible first | exact HB.out | apply below_alloc | apply pw_below_drewN | apply below_drew1) | exact HB.out)⟩⟩
          ·rw [if_neg c11] at H
           exact absurd H (by simp)
         ·rw [if_neg c10] at H
          exact absurd H (by simp)
        ·rw [if_neg c9] at H
         exact absurd H (by simp)
       ·rw [if_neg c8] at H
        exact absurd H (by simp)
      ·replace c7 := Bool.eq_false_iff.mpr c7
       subst c7
       have H1 : (if x4_1.toList = ([] : List UInt8) then (pannierref10_Split.l0 kj2 a0 x3_1 (⟨#[]⟩ : ByteArray) (wrap64 (x5_1 + 1))) else (if x4_1.toList = ([46] : List UInt8) then (pannierref10_Split.l0 kj2 a0 x3_1 (⟨#[]⟩ : ByteArray) (wrap64 (x5_1 + 1))) else (if x3_1.length < 8796093022208 then (pannierref10_Split.l0 kj2 a0 (x3_1 ++ [x4_1]) (⟨#[]⟩ : ByteArray) (wrap64 (x5_1 + 1))) else (none)))) = some r := by rw [if_neg (show ¬ (false = true) by decide)] at H; exact H
       clear H
       have H := H1
       clear H1
       by_cases c12 : x4_1.toList = ([] : List UInt8)
       ·rw [if_pos c12] at H
        have c12b0 : (x4_1.toList == ([] : List UInt8)) = true := beq_iff_eq.mpr c12
        have c12b2 : (x4_1.toList).isEmpty = true := List.isEmpty_iff.mpr c12
        have c12b1 : (x4_1.toList != ([] : List UInt8)) = false := bne_eq_false_iff_eq.mpr c12
        clear c12
        have H' := Aside0.mk H
        clear H
        go_wp2
        all_goals (try (exfalso; first | (rename_i he_; rw [c12b2] at he_; cases he_; done) | (rename_i he_ _; rw [c12b2] at he_; cases he_; done) | (rename_i he_ _ _; rw [c12b2] at he_; cases he_; done) | (rename_i he_ _ _ _; rw [c12b2] at he_; cases he_; done) | (rename_i he_ _ _ _ _; rw [c12b2] at he_; cases he_; done) | (rename_i he_ _ _ _ _ _; rw [c12b2] at he_; cases he_; done) | (rename_i he_ _ _ _ _ _ _; rw [c12b2] at he_; cases he_; done)))
        go_roundg kj2
        case measure => have := HK1.out; have := HJ2.out; omega
        case rel => exact ⟨(x3_1), ((⟨#[]⟩ : ByteArray)), (wrap64 (x5_1 + 1)), (by first | rfl | (simp; done) | (simp [*]; done)), (by first | rfl | (simp; done) | (simp [*]; done)), H', ⟨by have := HK1.out; have := HJ2.out; omega⟩, ⟨by (with_reducible repeat (first | apply Kd.R_alloc | apply Kd.R_drewN | apply Kd.R_drew)); first | exact HO_3.out | exact Kd.R_mono HO_3.out (fun _ hk_ => by have h_ : ∀ (A : Option Addr) (n c : Nat), (Value.slice A n c).ownBlock = A.map (·.block) := fun A _ _ => (by cases A <;> rfl); simpa only [h_] using hk_)⟩, ⟨by repeat (first | (with_reducible first | exact HB.out | apply below_alloc | apply pw_below_drewN | apply below_drew1) | exact HB.out)⟩⟩
       ·rw [if_neg c12] at H
        have c12b0 : (x4_1.toList == ([] : List UInt8)) = false := beq_eq_false_iff_ne.mpr c12
        have c12b2 : (x4_1.toList).isEmpty = false := List.isEmpty_eq_false_iff.mpr c12
        have c12b1 : (x4_1.toList != ([] : List UInt8)) = true := bne_iff_ne.mpr c12
        by_cases c13 : x4_1.toList = ([46] : List UInt8)
        ·rw [if_pos c13] at H
         have c13b0 : (x4_1.toList == ([46] : List UInt8)) = true := beq_iff_eq.mpr c13
         have c13b1 : (x4_1.toList != ([46] : List UInt8)) = false := bne_eq_false_iff_eq.mpr c13
         clear c13
         have H' := Aside0.mk H
         clear H
         go_wp2
         go_roundg kj2
         case measure => have := HK1.out; have := HJ2.out; omega
         case rel => exact ⟨(x3_1), ((⟨#[]⟩ : ByteArray)), (wrap64 (x5_1 + 1)), (by first | rfl | (simp; done) | (simp [*]; done)), (by first | rfl | (simp; done) | (simp [*]; done)), H', ⟨by have := HK1.out; have := HJ2.out; omega⟩, ⟨by (with_reducible repeat (first | apply Kd.R_alloc | apply Kd.R_drewN | apply Kd.R_drew)); first | exact HO_3.out | exact Kd.R_mono HO_3.out (fun _ hk_ => by have h_ : ∀ (A : Option Addr) (n c : Nat), (Value.slice A n c).ownBlock = A.map (·.block) := fun A _ _ => (by cases A <;> rfl); simpa only [h_] using hk_)⟩, ⟨by repeat (first | (with_reducible first | exact HB.out | apply below_alloc | apply pw_below_drewN | apply below_drew1) | exact HB.out)⟩⟩
        ·rw [if_neg c13] at H
         have c13b0 : (x4_1.toList == ([46] : List UInt8)) = false := beq_eq_false_iff_ne.mpr c13
         have c13b1 : (x4_1.toList != ([46] : List UInt8)) = true := bne_iff_ne.mpr c13
         by_cases c14 : x3_1.length < 8796093022208
         ·rw [if_pos c14] at H
          have LMc14 := Aside0.mk c14
          clear c14
          obtain ⟨y270, hy270⟩ : ∃ y_ : List ByteArray, y_ = (x3_1 ++ [x4_1]) := ⟨_, rfl⟩
          replace H : (pannierref10_Split.l0 kj2 a0 y270 (⟨#[]⟩ : ByteArray) (wrap64 (x5_1 + 1))) = some r := by first | (rw [hy270]; with_reducible exact H) | (have H2_ := (Option.bind_some _ _).symm.trans H; rw [hy270]; with_reducible exact H2_) | (have H2_ := (Option.bind_some _ _).symm.trans H; with_reducible exact H2_) | with_reducible exact H | (rw [hy270]; exact H) | exact H
          have Ny270 := Aside0.mk hy270
          clear hy270
          have H' := Aside0.mk H
          clear H
          go_wp2_with (first | ((with_reducible refine gate_builtin (b := .append) (xs := #[.tmp 35, .tmp 37]) rfl ?_); at_builtin; refine Kd.R_append Kd.string (w0 := w) w.heap.size rfl (.tmp 35) (.tmp 37) 45 9 (.string ⟨#[]⟩) 16 rfl Tryd.underlying45 info9 rfl (by decide) (by omega) u3 x3_1 x4_1 [.string x4_1] (fun _ => True) (fun _ => False) rfl rfl ?aP (fun _ hk => hk.elim) ?aF ?aO ?aB ?aS ?aL ?_; (case aP => exact rfl); (case aB => exact (by repeat (first | (with_reducible first | exact HB.out | apply below_alloc | apply pw_below_drewN | apply below_drew1) | exact HB.out))); (case aF => exact (fun _ _ => trivial)); (case aO => exact (by (with_reducible repeat (first | apply Kd.R_alloc | apply Kd.R_drewN | apply Kd.R_drew)); exact HO_3.out)); (case aS => exact (below_size (by repeat (first | (with_reducible first | exact HB.out | apply below_alloc | apply pw_below_drewN | apply below_drew1) | exact HB.out)))); (case aL => have := LMc14.out; omega); intro v271 w15 ho hb hg hat; rw [← Ny270.out] at ho; have n0_ := Aside0.mk (hb); have n1_ := Aside0.mk (ho); clear HB; clear HO_3; have HB := n0_; have HO272 := n1_; clear n0_ n1_; clear ho hb hg hat))
          go_roundg kj2
          case measure => have := HK1.out; have := HJ2.out; omega
          case rel => exact ⟨(y270), ((⟨#[]⟩ : ByteArray)), (wrap64 (x5_1 + 1)), (by first | rfl | (simp; done) | (simp [*]; done)), (by first | rfl | (simp; done) | (simp [*]; done)), H', ⟨by have := HK1.out; have := HJ2.out; omega⟩, ⟨by (with_reducible repeat (first | apply Kd.R_alloc | apply Kd.R_drewN | apply Kd.R_drew)); first | exact HO272.out | exact Kd.R_mono HO272.out (fun _ hk_ => by have h_ : ∀ (A : Option Addr) (n c : Nat), (Value.slice A n c).ownBlock = A.map (·.block) := fun A _ _ => (by cases A <;> rfl); simpa only [h_] using hk_)⟩, ⟨by repeat (first | (with_reducible first | exact HB.out | apply below_alloc | apply pw_below_drewN | apply below_drew1) | exact HB.out)⟩⟩
         ·rw [if_neg c14] at H
          exact absurd H (by simp)
   ·rw [if_neg c2] at H
    have c2b0 : decide (x5_1 ≤ (a0.size : Int)) = false := decide_eq_false c2
    clear c2
    obtain rfl := Option.some.inj H
    go_wp2
    go_ret
    exact ⟨_, by first | rfl | (simp [errW_none, errW_some] <;> rfl) | (simp [*, errW_none, errW_some] <;> rfl), by (with_reducible repeat (first | apply Kd.R_alloc | apply Kd.R_drewN | apply Kd.R_drew)); exact HO_3.out, by repeat (first | (with_reducible first | exact HB.out | apply below_alloc | apply pw_below_drewN | apply below_drew1) | exact HB.out)⟩

-- NOT PRINTED: function 5 (pannierlaw14_UsageOf)

-- NOT PRINTED: function 6 (pannierlaw14_UsageGrows)

end Go.Proofs.YtolpamojbiipaaaDoor.XA
-- Written by a program of this session (wip/tools/xprint.py) out of the translation's print. Lean checks it.



namespace Go.Proofs.YtolpamojbiipaaaDoor.XA
open Go.RowKit Go.Proofs.YtolpamojbiipaaaDoorW.PrintWords Go.Proofs.YtolpamojbiipaaaDoorW.PrintLast Go.Proofs.YtolpamojbiipaaaDoorW.PrintMore
attribute [local go_sem] max2_int min2_int max_two min_two max_three min_three max_four min_four   -- for this text's walks alone
set_option linter.unusedVariables false
set_option linter.unusedSimpArgs false

/-! ### path_Compare: function 32 -/
mutual
def path_Compare.l0 : Nat → List ByteArray → List ByteArray → Int → Option (Int)
 | 0, _, _, _ => none
 | k + 1, x5, x6, x7 => if x7 < (x5.length : Int) then (path_Compare.j1 k x5 x6 x7 (decide (x7 < (x6.length : Int)))) else (path_Compare.j1 k x5 x6 x7 false)
def path_Compare.j1 : Nat → List ByteArray → List ByteArray → Int → Bool → Option (Int)
 | 0, _, _, _, _ => none
 | k + 1, x5, x6, x7, x22 => if x22 = true then (if 0 ≤ x7 then (if x7 < (x5.length : Int) then (if x7 < (x6.length : Int) then ((strings_Compare.f (rdOf ByteArray.empty x5 x7) (rdOf ByteArray.empty x6 x7)).bind fun t112 => (if t112 = 0 then (path_Compare.l0 k x5 x6 (wrap64 (x7 + 1))) else (some t112))) else (none)) else (none)) else (none)) else (some (wrap64 ((x5.length : Int) - (x6.length : Int))))
end
def path_Compare.f (k : Nat) (a0 : ByteArray) (a1 : ByteArray) : Option (Int) := (path_Parts.f a0).bind fun t104 => ((path_Parts.f a1).bind fun t107 => (path_Compare.l0 k t104 t107 0))
theorem path_Compare.mono_l : ∀ k, (∀ y0 y1 y2, LeO (path_Compare.l0 k y0 y1 y2) (path_Compare.l0 (k + 1) y0 y1 y2)) ∧ (∀ y0 y1 y2 y3, LeO (path_Compare.j1 k y0 y1 y2 y3) (path_Compare.j1 (k + 1) y0 y1 y2 y3))
 | 0 => ⟨fun _ _ _ r h => by simp [path_Compare.l0] at h, fun _ _ _ _ r h => by simp [path_Compare.j1] at h⟩
 | k + 1 => by
  obtain ⟨ih0, ih1⟩ := path_Compare.mono_l k
  refine ⟨?_, ?_⟩
  ·intro y0 y1 y2
   unfold path_Compare.l0
   repeat' first
   | (with_reducible exact ih0 _ _ _)
   | (with_reducible exact ih1 _ _ _ _)
   | (with_reducible exact LeO.refl _)
   | (with_reducible exact LeO.none _)
   | (with_reducible refine LeO.ite ?_ ?_)
   | (with_reducible refine LeO.bind ?_ (fun _ => ?_))
   | exact ih0 _ _ _
   | exact ih1 _ _ _ _
   | exact LeO.none _
   | refine LeO.ite ?_ ?_
   | refine LeO.bind ?_ (fun _ => ?_)
  ·intro y0 y1 y2 y3
   unfold path_Compare.j1
   repeat' first
   | (with_reducible exact ih0 _ _ _)
   | (with_reducible exact ih1 _ _ _ _)
   | (with_reducible exact LeO.refl _)
   | (with_reducible exact LeO.none _)
   | (with_reducible refine LeO.ite ?_ ?_)
   | (with_reducible refine LeO.bind ?_ (fun _ => ?_))
   | exact ih0 _ _ _
   | exact ih1 _ _ _ _
   | exact LeO.none _
   | refine LeO.ite ?_ ?_
   | refine LeO.bind ?_ (fun _ => ?_)
theorem path_Compare.mono : ∀ a0 a1 k, LeO (path_Compare.f k a0 a1) (path_Compare.f (k + 1) a0 a1) := by
 intro a0 a1 k
 obtain ⟨ih0, ih1⟩ := path_Compare.mono_l k
 unfold path_Compare.f
 repeat' first
   | (with_reducible exact ih0 _ _ _)
   | (with_reducible exact ih1 _ _ _ _)
   | (with_reducible exact LeO.refl _)
   | (with_reducible exact LeO.none _)
   | (with_reducible refine LeO.ite ?_ ?_)
   | (with_reducible refine LeO.bind ?_ (fun _ => ?_))
   | exact ih0 _ _ _
   | exact ih1 _ _ _ _
   | exact LeO.none _
   | refine LeO.ite ?_ ?_
   | refine LeO.bind ?_ (fun _ => ?_)
set_option maxHeartbeats 8000000 in
set_option maxRecDepth 100000 in
theorem path_Compare.calls (k : Nat) (a0 : ByteArray) (a1 : ByteArray) (r : Int) (w : World) (h : path_Compare.f k a0 a1 = some r) :
  Calls Tryd.prog 32 #[.string a0, .string a1] w fun e w' => e = .returned (.int .i64 r) ∧ Below w.heap.size w w' := by
 have HB := Aside0.mk (Below.refl w.heap.size w)
 have H : ((path_Parts.f a0).bind fun t104 => ((path_Parts.f a1).bind fun t107 => (path_Compare.l0 k t104 t107 0))) = some r := h
 clear h
 replace H := Option.bind_eq_some_iff.mp H
 obtain ⟨t104, A30, H⟩ := H
 replace H : ((path_Parts.f a1).bind fun t107 => (path_Compare.l0 k t104 t107 0)) = some r := H
 have A3 := Aside0.mk A30
 clear A30
 replace H := Option.bind_eq_some_iff.mp H
 obtain ⟨t107, A40, H⟩ := H
 replace H : (path_Compare.l0 k t104 t107 0) = some r := H
 have A4 := Aside0.mk A40
 clear A40
 have H' := Aside0.mk H
 clear H
 go_enter Tryd.func32, Tryd.ntmps32
 go_wp2_with (first | (go_at_call 43; (with_reducible refine (path_Parts.calls a0 t104 _ A3.out).mono ?_); rintro e w5 ⟨v105, rfl, ho0, hb⟩; have n0_ := Aside0.mk (Kd.R_lower ho0 (below_size (by repeat (first | (with_reducible first | exact HB.out | apply below_alloc | apply pw_below_drewN | apply below_drew1) | exact HB.out)))); have n1_ := Aside0.mk (below_step (by repeat (first | (with_reducible first | exact HB.out | apply below_alloc | apply pw_below_drewN | apply below_drew1) | exact HB.out)) hb); clear HB; have HO106 := n0_; have HB := n1_; clear n0_ n1_; (try clear hb); (try clear hb2); (try clear hk); (try clear hi); (try clear ho0)) | (go_at_call 43; (with_reducible refine (path_Parts.calls a1 t107 _ A4.out).mono ?_); rintro e w6 ⟨v108, rfl, ho0, hb⟩; have n0_ := Aside0.mk (Kd.R_elder' (by (with_reducible repeat (first | apply Kd.R_alloc | apply Kd.R_drewN | apply Kd.R_drew)); exact HO106.out) (Kd.R_base ho0) hb); have n1_ := Aside0.mk (Kd.R_lower (Kd.R_new' ho0 (Kd.R_lt (by (with_reducible repeat (first | apply Kd.R_alloc | apply Kd.R_drewN | apply Kd.R_drew)); exact HO106.out))) (below_size (by repeat (first | (with_reducible first | exact HB.out | apply below_alloc | apply pw_below_drewN | apply below_drew1) | exact HB.out)))); have n2_ := Aside0.mk (below_step (by repeat (first | (with_reducible first | exact HB.out | apply below_alloc | apply pw_below_drewN | apply below_drew1) | exact HB.out)) hb); clear HO106; clear HB; have HO106 := n0_; have HO109 := n1_; have HB := n2_; clear n0_ n1_ n2_; (try clear hb); (try clear hb2); (try clear hk); (try clear hi); (try clear ho0)))
 repeat (go_quiet (first | (go_at_call 43; (with_reducible refine (path_Parts.calls a0 t104 _ A3.out).mono ?_); rintro e w5 ⟨v105, rfl, ho0, hb⟩; have n0_ := Aside0.mk (Kd.R_lower ho0 (below_size (by repeat (first | (with_reducible first | exact HB.out | apply below_alloc | apply pw_below_drewN | apply below_drew1) | exact HB.out)))); have n1_ := Aside0.mk (below_step (by repeat (first | (with_reducible first | exact HB.out | apply below_alloc | apply pw_below_drewN | apply below_drew1) | exact HB.out)) hb); clear HB; have HO106 := n0_; have HB := n1_; clear n0_ n1_; (try clear hb); (try clear hb2); (try clear hk); (try clear hi); (try clear ho0)) | (go_at_call 43; (with_reducible refine (path_Parts.calls a1 t107 _ A4.out).mono ?_); rintro e w6 ⟨v108, rfl, ho0, hb⟩; have n0_ := Aside0.mk (Kd.R_elder' (by (with_reducible repeat (first | apply Kd.R_alloc | apply Kd.R_drewN | apply Kd.R_drew)); exact HO106.out) (Kd.R_base ho0) hb); have n1_ := Aside0.mk (Kd.R_lower (Kd.R_new' ho0 (Kd.R_lt (by (with_reducible repeat (first | apply Kd.R_alloc | apply Kd.R_drewN | apply Kd.R_drew)); exact HO106.out))) (below_size (by repeat (first | (with_reducible first | exact HB.out | apply below_alloc | apply pw_below_drewN | apply below_drew1) | exact HB.out)))); have n2_ := Aside0.mk (below_step (by repeat (first | (with_reducible first | exact HB.out | apply below_alloc | apply pw_below_drewN | apply below_drew1) | exact HB.out)) hb); clear HO106; clear HB; have HO106 := n0_; have HO109 := n1_; have HB := n2_; clear n0_ n1_ n2_; (try clear hb); (try clear hb2); (try clear hk); (try clear hi); (try clear ho0))); try go_wp2_with (first | (go_at_call 43; (with_reducible refine (path_Parts.calls a0 t104 _ A3.out).mono ?_); rintro e w5 ⟨v105, rfl, ho0, hb⟩; have n0_ := Aside0.mk (Kd.R_lower ho0 (below_size (by repeat (first | (with_reducible first | exact HB.out | apply below_alloc | apply pw_below_drewN | apply below_drew1) | exact HB.out)))); have n1_ := Aside0.mk (below_step (by repeat (first | (with_reducible first | exact HB.out | apply below_alloc | apply pw_below_drewN | apply below_drew1) | exact HB.out)) hb); clear HB; have HO106 := n0_; have HB := n1_; clear n0_ n1_; (try clear hb); (try clear hb2); (try clear hk); (try clear hi); (try clear ho0)) | (go_at_call 43; (with_reducible refine (path_Parts.calls a1 t107 _ A4.out).mono ?_); rintro e w6 ⟨v108, rfl, ho0, hb⟩; have n0_ := Aside0.mk (Kd.R_elder' (by (with_reducible repeat (first | apply Kd.R_alloc | apply Kd.R_drewN | apply Kd.R_drew)); exact HO106.out) (Kd.R_base ho0) hb); have n1_ := Aside0.mk (Kd.R_lower (Kd.R_new' ho0 (Kd.R_lt (by (with_reducible repeat (first | apply Kd.R_alloc | apply Kd.R_drewN | apply Kd.R_drew)); exact HO106.out))) (below_size (by repeat (first | (with_reducible first | exact HB.out | apply below_alloc | apply pw_below_drewN | apply below_drew1) | exact HB.out)))); have n2_ := Aside0.mk (below_step (by repeat (first | (with_reducible first | exact HB.out | apply below_alloc | apply pw_below_drewN | apply below_drew1) | exact HB.out)) hb); clear HO106; clear HB; have HO106 := n0_; have HO109 := n1_; have HB := n2_; clear n0_ n1_ n2_; (try clear hb); (try clear hb2); (try clear hk); (try clear hi); (try clear ho0))))
 go_loopg [7] k (fun kq v7 w' => ∃ (x7_1 : Int), v7 = .int .i64 x7_1 ∧ Aside0 (path_Compare.l0 kq t104 t107 x7_1 = some r) ∧ Aside0 (kq ≤ k) ∧ Aside0 (Kd.R Kd.string 9 w' w.heap.size (fun k_ => some k_ ≠ (v108 : Value).ownBlock) v105 t104) ∧ Aside0 (Kd.R Kd.string 9 w' w.heap.size (fun k_ => some k_ ≠ (v105 : Value).ownBlock) v108 t107) ∧ Aside0 (Below w.heap.size w w'))
 case atStart => exact ⟨(0), (by first | rfl | (simp; done) | (simp [*]; done)), H', ⟨Nat.le_refl _⟩, ⟨by (with_reducible repeat (first | apply Kd.R_alloc | apply Kd.R_drewN | apply Kd.R_drew)); exact Kd.R_mono HO106.out (fun _ hk => hk.2)⟩, ⟨by (with_reducible repeat (first | apply Kd.R_alloc | apply Kd.R_drewN | apply Kd.R_drew)); exact Kd.R_mono HO109.out (fun _ hk => hk.2)⟩, ⟨by repeat (first | (with_reducible first | exact HB.out | apply below_alloc | apply pw_below_drewN | apply below_drew1) | exact HB.out)⟩⟩
 case round =>
  clear H'
  try clear p2
  try clear c3
  obtain ⟨x7_1, rfl, HA, HK1, HO_5, HO_6, HB⟩ := hrel
  cases gk with
  | zero => exact absurd HA.out (by simp [path_Compare.l0])
  | succ k1 =>
   have H := HA.out
   clear HA
   simp only [path_Compare.l0] at H
   have HC7 := Aside0.mk H
   clear H
   go_upto_region 3 with (fail)
   repeat (go_quiet (fail); go_upto_region 3 with (fail))
   go_cut [22] (fun v22 wc => ∃ (kq : Nat) (x22_6 : Bool), v22 = .bool x22_6 ∧ Aside0 (path_Compare.j1 kq t104 t107 x7_1 x22_6 = some r) ∧ Aside0 (kq ≤ k1) ∧ Aside0 (Kd.R Kd.string 9 wc w.heap.size (fun k_ => some k_ ≠ (v108 : Value).ownBlock) v105 t104) ∧ Aside0 (Kd.R Kd.string 9 wc w.heap.size (fun k_ => some k_ ≠ (v105 : Value).ownBlock) v108 t107) ∧ Aside0 (Below w.heap.size w wc))
   case first =>
    have H := HC7.out
    clear HC7
    by_cases c8 : x7_1 < (t104.length : Int)
    ·rw [if_pos c8] at H
     have c8b0 : decide (x7_1 < (t104.length : Int)) = true := decide_eq_true c8
     clear c8
     (first | rw [c8b0] | (simp only [i64_w, i32_w]; rw [c8b0]) | skip)
     have H' := Aside0.mk H
     clear H
     obtain ⟨Ao9, co9, eo9⟩ := Kd.R_slice HO_5.out
     subst eo9
     obtain ⟨Ao10, co10, eo10⟩ := Kd.R_slice HO_6.out
     subst eo10
     go_wp2
     repeat (go_quiet (fail); try go_wp2)
     go_meet
     case rel => exact ⟨_, (decide (x7_1 < (t107.length : Int))), (by first | rfl | (simp; done) | (simp [*]; done)), H', ⟨by have := HK1.out; first | omega | exact Nat.le_refl _⟩, ⟨by (with_reducible repeat (first | apply Kd.R_alloc | apply Kd.R_drewN | apply Kd.R_drew)); first | exact HO_5.out | exact Kd.R_mono HO_5.out (fun _ hk_ => by have h_ : ∀ (A : Option Addr) (n c : Nat), (Value.slice A n c).ownBlock = A.map (·.block) := fun A _ _ => (by cases A <;> rfl); simpa only [h_] using hk_)⟩, ⟨by (with_reducible repeat (first | apply Kd.R_alloc | apply Kd.R_drewN | apply Kd.R_drew)); first | exact HO_6.out | exact Kd.R_mono HO_6.out (fun _ hk_ => by have h_ : ∀ (A : Option Addr) (n c : Nat), (Value.slice A n c).ownBlock = A.map (·.block) := fun A _ _ => (by cases A <;> rfl); simpa only [h_] using hk_)⟩, ⟨by repeat (first | (with_reducible first | exact HB.out | apply below_alloc | apply pw_below_drewN | apply below_drew1) | exact HB.out)⟩⟩
    ·rw [if_neg c8] at H
     have c8b0 : decide (x7_1 < (t104.length : Int)) = false := decide_eq_false c8
     clear c8
     (first | rw [c8b0] | (simp only [i64_w, i32_w]; rw [c8b0]) | skip)
     have H' := Aside0.mk H
     clear H
     obtain ⟨Ao11, co11, eo11⟩ := Kd.R_slice HO_5.out
     subst eo11
     go_wp2
     repeat (go_quiet (fail); try go_wp2)
     go_meet
     case rel => exact ⟨_, (false), (by first | rfl | (simp; done) | (simp [*]; done)), H', ⟨by have := HK1.out; first | omega | exact Nat.le_refl _⟩, ⟨by (with_reducible repeat (first | apply Kd.R_alloc | apply Kd.R_drewN | apply Kd.R_drew)); first | exact HO_5.out | exact Kd.R_mono HO_5.out (fun _ hk_ => by have h_ : ∀ (A : Option Addr) (n c : Nat), (Value.slice A n c).ownBlock = A.map (·.block) := fun A _ _ => (by cases A <;> rfl); simpa only [h_] using hk_)⟩, ⟨by (with_reducible repeat (first | apply Kd.R_alloc | apply Kd.R_drewN | apply Kd.R_drew)); first | exact HO_6.out | exact Kd.R_mono HO_6.out (fun _ hk_ => by have h_ : ∀ (A : Option Addr) (n c : Nat), (Value.slice A n c).ownBlock = A.map (·.block) := fun A _ _ => (by cases A <;> rfl); simpa only [h_] using hk_)⟩, ⟨by repeat (first | (with_reducible first | exact HB.out | apply below_alloc | apply pw_below_drewN | apply below_drew1) | exact HB.out)⟩⟩
   case rest =>
    clear HC7
    try clear p2
    try clear c3
    try clear c8
    try clear c8b0
    try clear p2
    obtain ⟨kq, x22_6, rfl, HA, HJ6, HO_5, HO_6, HB⟩ := hcut
    cases kq with
    | zero => exact absurd HA.out (by simp [path_Compare.j1])
    | succ kj6 =>
     have H := HA.out
     clear HA
     simp only [path_Compare.j1] at H
     by_cases c12 : x22_6 = true
     ·subst c12
      have H1 : (if 0 ≤ x7_1 then (if x7_1 < (t104.length : Int) then (if x7_1 < (t107.length : Int) then ((strings_Compare.f (rdOf ByteArray.empty t104 x7_1) (rdOf ByteArray.empty t107 x7_1)).bind fun t112 => (if t112 = 0 then (path_Compare.l0 kj6 t104 t107 (wrap64 (x7_1 + 1))) else (some t112))) else (none)) else (none)) else (none)) = some r := by rw [if_pos rfl] at H; exact H
      clear H
      have H := H1
      clear H1
      by_cases c13 : 0 ≤ x7_1
      ·rw [if_pos c13] at H
       have c13b0 : decide (0 ≤ x7_1) = true := decide_eq_true c13
       clear c13
       by_cases c14 : x7_1 < (t104.length : Int)
       ·rw [if_pos c14] at H
        have c14b0 : decide (x7_1 < (t104.length : Int)) = true := decide_eq_true c14
        clear c14
        by_cases c15 : x7_1 < (t107.length : Int)
        ·rw [if_pos c15] at H
         have c15b0 : decide (x7_1 < (t107.length : Int)) = true := decide_eq_true c15
         clear c15
         replace H := Option.bind_eq_some_iff.mp H
         obtain ⟨t112, A160, H⟩ := H
         replace H : (if t112 = 0 then (path_Compare.l0 kj6 t104 t107 (wrap64 (x7_1 + 1))) else (some t112)) = some r := H
         have A16 := Aside0.mk A160
         clear A160
         by_cases c17 : t112 = 0
         ·rw [if_pos c17] at H
          have c17b0 : (t112 == 0) = true := beq_iff_eq.mpr c17
          have c17b1 : (t112 != 0) = false := bne_eq_false_iff_eq.mpr c17
          clear c17
          have H' := Aside0.mk H
          clear H
          obtain ⟨Ao18, co18, eo18⟩ := Kd.R_slice HO_5.out
          subst eo18
          have p110 : 0 ≤ (x7_1 : Int) := of_decide_eq_true (by first | (with_reducible assumption) | assumption)
          have q110 : x7_1 < (t104.length : Int) := of_decide_eq_true (by first | (with_reducible assumption) | assumption)
          obtain ⟨ad110, e110, hx110_0⟩ := Kd.at_string (Kd.R_reads' HO_5.out).2.2 x7_1 p110 q110
          cases e110
          replace p110 := eq_true p110
          replace q110 := eq_true q110
          obtain ⟨Ao19, co19, eo19⟩ := Kd.R_slice HO_6.out
          subst eo19
          have p111 : 0 ≤ (x7_1 : Int) := of_decide_eq_true (by first | (with_reducible assumption) | assumption)
          have q111 : x7_1 < (t107.length : Int) := of_decide_eq_true (by first | (with_reducible assumption) | assumption)
          obtain ⟨ad111, e111, hx111_0⟩ := Kd.at_string (Kd.R_reads' HO_6.out).2.2 x7_1 p111 q111
          cases e111
          replace p111 := eq_true p111
          replace q111 := eq_true q111
          go_wp2_with (first | (go_at_call 56; (with_reducible refine (strings_Compare.calls (rdOf ByteArray.empty t104 x7_1) (rdOf ByteArray.empty t107 x7_1) t112 _ A16.out).mono ?_); rintro e w' ⟨rfl, ⟨nd, rfl⟩⟩; (try first | exact ⟨rfl, _, World.drewN_drewN _ _ _⟩ | exact ⟨rfl, _, Eq.trans (World.drewN_drewN _ _ _) (congrArg (World.drewN _) (Nat.add_assoc _ _ _))⟩)))
          repeat (go_quiet (first | (go_at_call 56; (with_reducible refine (strings_Compare.calls (rdOf ByteArray.empty t104 x7_1) (rdOf ByteArray.empty t107 x7_1) t112 _ A16.out).mono ?_); rintro e w' ⟨rfl, ⟨nd, rfl⟩⟩; (try first | exact ⟨rfl, _, World.drewN_drewN _ _ _⟩ | exact ⟨rfl, _, Eq.trans (World.drewN_drewN _ _ _) (congrArg (World.drewN _) (Nat.add_assoc _ _ _))⟩))); try go_wp2_with (first | (go_at_call 56; (with_reducible refine (strings_Compare.calls (rdOf ByteArray.empty t104 x7_1) (rdOf ByteArray.empty t107 x7_1) t112 _ A16.out).mono ?_); rintro e w' ⟨rfl, ⟨nd, rfl⟩⟩; (try first | exact ⟨rfl, _, World.drewN_drewN _ _ _⟩ | exact ⟨rfl, _, Eq.trans (World.drewN_drewN _ _ _) (congrArg (World.drewN _) (Nat.add_assoc _ _ _))⟩))))
          go_roundg kj6
          case measure => have := HK1.out; have := HJ6.out; omega
          case rel => exact ⟨(wrap64 (x7_1 + 1)), (by first | rfl | (simp; done) | (simp [*]; done)), H', ⟨by have := HK1.out; have := HJ6.out; omega⟩, ⟨by (with_reducible repeat (first | apply Kd.R_alloc | apply Kd.R_drewN | apply Kd.R_drew)); first | exact HO_5.out | exact Kd.R_mono HO_5.out (fun _ hk_ => by have h_ : ∀ (A : Option Addr) (n c : Nat), (Value.slice A n c).ownBlock = A.map (·.block) := fun A _ _ => (by cases A <;> rfl); simpa only [h_] using hk_)⟩, ⟨by (with_reducible repeat (first | apply Kd.R_alloc | apply Kd.R_drewN | apply Kd.R_drew)); first | exact HO_6.out | exact Kd.R_mono HO_6.out (fun _ hk_ => by have h_ : ∀ (A : Option Addr) (n c : Nat), (Value.slice A n c).ownBlock = A.map (·.block) := fun A _ _ => (by cases A <;> rfl); simpa only [h_] using hk_)⟩, ⟨by repeat (first | (with_reducible first | exact HB.out | apply below_alloc | apply pw_below_drewN | apply below_drew1) | exact HB.out)⟩⟩
         ·rw [if_neg c17] at H
          have c17b0 : (t112 == 0) = false := beq_eq_false_iff_ne.mpr c17
          have c17b1 : (t112 != 0) = true := bne_iff_ne.mpr c17
          obtain rfl := Option.some.inj H
          obtain ⟨Ao20, co20, eo20⟩ := Kd.R_slice HO_5.out
          subst eo20
          have p110 : 0 ≤ (x7_1 : Int) := of_decide_eq_true (by first | (with_reducible assumption) | assumption)
          have q110 : x7_1 < (t104.length : Int) := of_decide_eq_true (by first | (with_reducible assumption) | assumption)
          obtain ⟨ad110, e110, hx110_0⟩ := Kd.at_string (Kd.R_reads' HO_5.out).2.2 x7_1 p110 q110
          cases e110
          replace p110 := eq_true p110
          replace q110 := eq_true q110
          obtain ⟨Ao21, co21, eo21⟩ := Kd.R_slice HO_6.out
          subst eo21
          have p111 : 0 ≤ (x7_1 : Int) := of_decide_eq_true (by first | (with_reducible assumption) | assumption)
          have q111 : x7_1 < (t107.length : Int) := of_decide_eq_true (by first | (with_reducible assumption) | assumption)
          obtain ⟨ad111, e111, hx111_0⟩ := Kd.at_string (Kd.R_reads' HO_6.out).2.2 x7_1 p111 q111
          cases e111
          replace p111 := eq_true p111
          replace q111 := eq_true q111
          go_wp2_with (first | (go_at_call 56; (with_reducible refine (strings_Compare.calls (rdOf ByteArray.empty t104 x7_1) (rdOf ByteArray.empty t107 x7_1) t112 _ A16.out).mono ?_); rintro e w' ⟨rfl, ⟨nd, rfl⟩⟩; (try first | exact ⟨rfl, _, World.drewN_drewN _ _ _⟩ | exact ⟨rfl, _, Eq.trans (World.drewN_drewN _ _ _) (congrArg (World.drewN _) (Nat.add_assoc _ _ _))⟩)))
          repeat (go_quiet (first | (go_at_call 56; (with_reducible refine (strings_Compare.calls (rdOf ByteArray.empty t104 x7_1) (rdOf ByteArray.empty t107 x7_1) t112 _ A16.out).mono ?_); rintro e w' ⟨rfl, ⟨nd, rfl⟩⟩; (try first | exact ⟨rfl, _, World.drewN_drewN _ _ _⟩ | exact ⟨rfl, _, Eq.trans (World.drewN_drewN _ _ _) (congrArg (World.drewN _) (Nat.add_assoc _ _ _))⟩))); try go_wp2_with (first | (go_at_call 56; (with_reducible refine (strings_Compare.calls (rdOf ByteArray.empty t104 x7_1) (rdOf ByteArray.empty t107 x7_1) t112 _ A16.out).mono ?_); rintro e w' ⟨rfl, ⟨nd, rfl⟩⟩; (try first | exact ⟨rfl, _, World.drewN_drewN _ _ _⟩ | exact ⟨rfl, _, Eq.trans (World.drewN_drewN _ _ _) (congrArg (World.drewN _) (Nat.add_assoc _ _ _))⟩))))
          all_goals (go_ret; exact ⟨by first | rfl | (simp [errW_none, errW_some] <;> rfl) | (simp [*, errW_none, errW_some] <;> rfl), by repeat (first | (with_reducible first | exact HB.out | apply below_alloc | apply pw_below_drewN | apply below_drew1) | exact HB.out)⟩)
        ·rw [if_neg c15] at H
         exact absurd H (by simp)
       ·rw [if_neg c14] at H
        exact absurd H (by simp)
      ·rw [if_neg c13] at H
       exact absurd H (by simp)
     ·replace c12 := Bool.eq_false_iff.mpr c12
      subst c12
      have H1 : (some (wrap64 ((t104.length : Int) - (t107.length : Int)))) = some r := by rw [if_neg (show ¬ (false = true) by decide)] at H; exact H
      clear H
      have H := H1
      clear H1
      obtain rfl := Option.some.inj H
      obtain ⟨Ao22, co22, eo22⟩ := Kd.R_slice HO_5.out
      subst eo22
      obtain ⟨Ao23, co23, eo23⟩ := Kd.R_slice HO_6.out
      subst eo23
      go_wp2
      repeat (go_quiet (fail); try go_wp2)
      all_goals (go_ret; exact ⟨by first | rfl | (simp [errW_none, errW_some] <;> rfl) | (simp [*, errW_none, errW_some] <;> rfl), by repeat (first | (with_reducible first | exact HB.out | apply below_alloc | apply pw_below_drewN | apply below_drew1) | exact HB.out)⟩)

/-! ### tree_byPath: function 48 -/
def tree_byPath.f (k : Nat) (a0_0 : ByteArray) (a0_1 : Int) (a0_2 : Int) (a0_3 : Int) (a0_4 : Int) (a0_5 : Int) (a0_6 : Int) (a0_7 : ByteArray) (a0_8 : ByteArray) (a0_9 : ByteArray) (a0_10 : Unit) (a0_11 : Int) (a0_12 : Bool) (a1 : ByteArray) : Option (Int) := (path_Compare.f k a0_0 a1).bind fun t114 => (some t114)
theorem tree_byPath.mono : ∀ a0 a1 a2 a3 a4 a5 a6 a7 a8 a9 a10 a11 a12 a13 k, LeO (tree_byPath.f k a0 a1 a2 a3 a4 a5 a6 a7 a8 a9 a10 a11 a12 a13) (tree_byPath.f (k + 1) a0 a1 a2 a3 a4 a5 a6 a7 a8 a9 a10 a11 a12 a13) := by
 intro a0 a1 a2 a3 a4 a5 a6 a7 a8 a9 a10 a11 a12 a13 k
 unfold tree_byPath.f
 repeat' first
   | (with_reducible exact path_Compare.mono _ _ _)
   | (with_reducible exact LeO.refl _)
   | (with_reducible exact LeO.none _)
   | (with_reducible refine LeO.ite ?_ ?_)
   | (with_reducible refine LeO.bind ?_ (fun _ => ?_))
   | exact path_Compare.mono _ _ _
   | exact LeO.none _
   | refine LeO.ite ?_ ?_
   | refine LeO.bind ?_ (fun _ => ?_)
set_option maxHeartbeats 8000000 in
set_option maxRecDepth 100000 in
theorem tree_byPath.calls (k : Nat) (a0_0 : ByteArray) (a0_1 : Int) (a0_2 : Int) (a0_3 : Int) (a0_4 : Int) (a0_5 : Int) (a0_6 : Int) (a0_7 : ByteArray) (a0_8 : ByteArray) (a0_9 : ByteArray) (a0_10 : Unit) (a0_11 : Int) (a0_12 : Bool) (a1 : ByteArray) (r : Int) (w : World) (h : tree_byPath.f k a0_0 a0_1 a0_2 a0_3 a0_4 a0_5 a0_6 a0_7 a0_8 a0_9 a0_10 a0_11 a0_12 a1 = some r) :
  Calls Tryd.prog 48 #[.agg #[.string a0_0, .int .i64 a0_1, .int .i64 a0_2, .int .i64 a0_3, .int .i64 a0_4, .int .i64 a0_5, .int .i64 a0_6, .string a0_7, .string a0_8, .string a0_9, .slice none 0 0, .int .i64 a0_11, .bool a0_12], .string a1] w fun e w' => e = .returned (.int .i64 r) ∧ Below w.heap.size w w' := by
 have hu44 := Tryd.underlying44
 have HB := Aside0.mk (Below.refl w.heap.size w)
 have H : ((path_Compare.f k a0_0 a1).bind fun t114 => (some t114)) = some r := h
 clear h
 replace H := Option.bind_eq_some_iff.mp H
 obtain ⟨t114, A30, H⟩ := H
 replace H : (some t114) = some r := H
 have A3 := Aside0.mk A30
 clear A30
 obtain rfl := Option.some.inj H
 go_enter Tryd.func48, Tryd.ntmps48
 go_wp2_with (first | ((with_reducible refine gate_dst (N := 2) rfl ?_); refine box_event ?hg (N := 2) ?hd (cs := #[.string a0_0, .int .i64 a0_1, .int .i64 a0_2, .int .i64 a0_3, .int .i64 a0_4, .int .i64 a0_5, .int .i64 a0_6, .string a0_7, .string a0_8, .string a0_9, .slice none 0 0, .int .i64 a0_11, .bool a0_12]) (t := 44) ?hr ?_; (case hd => rfl); (case hg => rfl); (case hr => first | (go_simp; done) | (go_simp; rfl)); intro gb113 hg w4 hbox hb; have n0_ := Aside0.mk (below_step (by repeat (first | (with_reducible first | exact HB.out | apply below_alloc | apply pw_below_drewN | apply below_drew1) | exact HB.out)) hb); have n1_ := Aside0.mk (hbox); have n2_ := Aside0.mk ((by rw [hg]; exact (below_size (by repeat (first | (with_reducible first | exact HB.out | apply below_alloc | apply pw_below_drewN | apply below_drew1) | exact HB.out))) : w.heap.size ≤ gb113)); have n3_ := Aside0.mk ((by rw [hg]; exact (below_size (by repeat (first | (with_reducible first | exact HB.out | apply below_alloc | apply pw_below_drewN | apply below_drew1) | exact HB.out))) : w.heap.size ≤ gb113)); clear HB; have HB := n0_; have BK113 := n1_; have GW113 := n2_; have GE113 := n3_; clear n0_ n1_ n2_ n3_; clear hb hbox hg; have hcz5_0 : w4.cell? ⟨gb113, 0, none⟩ = some (.string a0_0) := (blk_cell BK113.out 0).trans rfl; have hcz5_1 : w4.cell? ⟨gb113, 1, none⟩ = some (.int .i64 a0_1) := (blk_cell BK113.out 1).trans rfl; have hcz5_2 : w4.cell? ⟨gb113, 2, none⟩ = some (.int .i64 a0_2) := (blk_cell BK113.out 2).trans rfl; have hcz5_3 : w4.cell? ⟨gb113, 3, none⟩ = some (.int .i64 a0_3) := (blk_cell BK113.out 3).trans rfl; have hcz5_4 : w4.cell? ⟨gb113, 4, none⟩ = some (.int .i64 a0_4) := (blk_cell BK113.out 4).trans rfl; have hcz5_5 : w4.cell? ⟨gb113, 5, none⟩ = some (.int .i64 a0_5) := (blk_cell BK113.out 5).trans rfl; have hcz5_6 : w4.cell? ⟨gb113, 6, none⟩ = some (.int .i64 a0_6) := (blk_cell BK113.out 6).trans rfl; have hcz5_7 : w4.cell? ⟨gb113, 7, none⟩ = some (.string a0_7) := (blk_cell BK113.out 7).trans rfl; have hcz5_8 : w4.cell? ⟨gb113, 8, none⟩ = some (.string a0_8) := (blk_cell BK113.out 8).trans rfl; have hcz5_9 : w4.cell? ⟨gb113, 9, none⟩ = some (.string a0_9) := (blk_cell BK113.out 9).trans rfl; have hcz5_10 : w4.cell? ⟨gb113, 10, none⟩ = some (.slice none 0 0) := (blk_cell BK113.out 10).trans rfl; have hcz5_11 : w4.cell? ⟨gb113, 11, none⟩ = some (.int .i64 a0_11) := (blk_cell BK113.out 11).trans rfl; have hcz5_12 : w4.cell? ⟨gb113, 12, none⟩ = some (.bool a0_12) := (blk_cell BK113.out 12).trans rfl; have hfz5_0 := blk_frozen BK113.out 0; have hfz5_1 := blk_frozen BK113.out 1; have hfz5_2 := blk_frozen BK113.out 2; have hfz5_3 := blk_frozen BK113.out 3; have hfz5_4 := blk_frozen BK113.out 4; have hfz5_5 := blk_frozen BK113.out 5; have hfz5_6 := blk_frozen BK113.out 6; have hfz5_7 := blk_frozen BK113.out 7; have hfz5_8 := blk_frozen BK113.out 8; have hfz5_9 := blk_frozen BK113.out 9; have hfz5_10 := blk_frozen BK113.out 10; have hfz5_11 := blk_frozen BK113.out 11; have hfz5_12 := blk_frozen BK113.out 12) | ((with_reducible refine gate_callee (f := 32) rfl ?_); refine goesL_ (some 8) rfl rfl Tryd.func32 (by kernel_rfl) rfl #[.string a0_0, .string a1] rfl (by (try simp only [List.map_toArray, List.map_cons, List.map_nil]); first | done | rfl | (simp only [List.length_drop, List.length_take]; rfl)) ?_; (with_reducible refine (path_Compare.calls k a0_0 a1 t114 _ A3.out).mono ?_); rintro e w6 ⟨rfl, hb⟩; refine ⟨_, rfl, ?_⟩; have n0_ := Aside0.mk (blk_below (g := gb113) (o := .cells #[.string a0_0, .int .i64 a0_1, .int .i64 a0_2, .int .i64 a0_3, .int .i64 a0_4, .int .i64 a0_5, .int .i64 a0_6, .string a0_7, .string a0_8, .string a0_9, .slice none 0 0, .int .i64 a0_11, .bool a0_12] 44 (0, 0)) (by (with_reducible repeat (first | refine blk_drewN ?_ _ | refine blk_drew ?_ | refine blk_alloc ?_ _)); exact BK113.out) hb); have n1_ := Aside0.mk (below_step (by repeat (first | (with_reducible first | exact HB.out | apply below_alloc | apply pw_below_drewN | apply below_drew1 | refine below_set ?_ GE113.out) | exact HB.out)) hb); clear BK113; clear HB; have BK113 := n0_; have HB := n1_; clear n0_ n1_; (try clear hb); (try clear hb2); (try clear hk); (try clear hi)))
 all_goals (go_ret; exact ⟨by first | rfl | (simp [errW_none, errW_some] <;> rfl) | (simp [*, errW_none, errW_some] <;> rfl), by repeat (first | (with_reducible first | exact HB.out | apply below_alloc | apply pw_below_drewN | apply below_drew1 | refine below_set ?_ GE113.out) | exact HB.out)⟩)

end Go.Proofs.YtolpamojbiipaaaDoor.XA
