/- path.Sound, walked by hand: it loops over a text's signs. And what is taken of the library's two tables of UTF-8 (GG). -/
import Derived.Test.YtimbefkiledbdaaGreatDoorXA0
import Derived.Test.YtimbefkiledbdaaGreatDoorShelf
import Derived.Test.YtimbefkiledbdaaGreatDoorUCut
import Derived.Laws.RangeString
import Derived.Laws.RangeAny
namespace Go.Proofs.YtimbefkiledbdaaGreatDoor.XA
open Go.RowKit Go.Proofs.YtimbefkiledbdaaGreatDoorW.PrintWords Go.Proofs.YtimbefkiledbdaaGreatDoorW.PrintLast Go.Proofs.YtimbefkiledbdaaGreatDoorW.PrintMore
set_option linter.unusedVariables false
set_option linter.unusedSimpArgs false

/-- The two tables of UTF-8 lie in a world as the library lays them. -/
structure GG (w : World) : Prop where mk :: (out : Lib.Utf8Tabs 1 2 w)
theorem GG_below {w w' : World} (h : GG w) (hb : Below w.heap.size w w') : GG w' := ⟨Utf8Tabs_below h.out hb⟩

def path_Sound.f (s : ByteArray) : Option Int := some (Pure.sound s.data.toList)

theorem iter_below (w : World) (s : ByteArray) (pos : Nat) : Below w.heap.size w (w.iter s pos) := below_alloc (Below.refl _ _) _
theorem get_data (s : ByteArray) (j : Nat) (h : j < s.size) : s.get! j = s.data.toList[j]'(by simpa using h) := by
  simp [ByteArray.get!, getElem!_pos, h]
theorem mem_nul (s : ByteArray) : (0 : UInt8) ∈ s.data.toList ↔ ∃ j, j < s.size ∧ s.get! j = 0 := by
  constructor
  · intro h
    obtain ⟨j, hj, hb⟩ := List.getElem_of_mem h
    have hj' : j < s.size := by simpa using hj
    exact ⟨j, hj', by rw [get_data s j hj', hb]⟩
  · rintro ⟨j, hj, hb⟩
    rw [← hb, get_data s j hj]
    exact List.getElem_mem _
theorem dec_pos (s : ByteArray) (pos : Nat) (h : pos < s.size) : 1 ≤ (Utf8.decode s pos).2 := Lib.width_pos s pos

set_option maxHeartbeats 2000000 in
set_option maxRecDepth 100000 in
theorem path_Sound.calls (s : ByteArray) (r : Int) (w : World) (h : path_Sound.f s = some r) (hGG : GG w) :
    Calls Tryz.prog 19 #[.string s] w fun e w' => e = .returned (.int .i64 r) ∧ Below w.heap.size w w' := by
  obtain rfl := Option.some.inj h
  clear h
  have hlen : s.data.toList.length = s.size := by simp
  unfold Pure.sound
  rw [hlen]
  by_cases h0 : s.data.toList = []
  · have e0 : s = ⟨#[]⟩ := by
      cases s with
      | mk d => cases d with
        | mk l => have : l = [] := h0
                  rw [this]
    subst e0
    go_enter Tryz.func19, Tryz.ntmps19
    go_wp2
    go_ret
    exact ⟨by simp, Below.refl _ _⟩
  rw [if_neg h0]
  have hpos : 0 < s.size := by rw [← hlen]; exact List.length_pos_iff.2 h0
  have he : s.toList.isEmpty = false := by rw [Lib.toList_data]; simpa using h0
  have he2 : (s.toList == ([] : List UInt8)) = false := by rw [Lib.toList_data]; simpa using h0
  clear h0
  by_cases h1 : 4000 < s.size
  · rw [if_pos h1]
    have h1b : decide ((4000 : Int) < (s.size : Int)) = true := decide_eq_true (by omega)
    go_enter Tryz.func19, Tryz.ntmps19
    go_wp2
    go_ret
    exact ⟨rfl, Below.refl _ _⟩
  rw [if_neg h1]
  have h1b : decide ((4000 : Int) < (s.size : Int)) = false := decide_eq_false (by omega)
  obtain ⟨R, hR⟩ : ∃ R : Int, R = (if (0 : UInt8) ∈ s.data.toList then 101 else if Lib.validD s.data.toList = false then 102 else if s.data.toList.getD 0 0 = 47 then 103 else 0) := ⟨_, rfl⟩
  rw [← hR]
  have HR := Aside0.mk hR
  clear hR hlen
  go_enter Tryz.func19, Tryz.ntmps19
  go_wp2
  go_loopw [4] (fun _ w' => ∃ pos : Nat, w' = w.iter s pos ∧ Aside0 (∀ j, j < pos → s.get! j ≠ 0)) (fun _ w' => s.size - w'.iterPos w.heap.size)
  case atStart => exact ⟨0, rfl, ⟨fun j hj => absurd hj (Nat.not_lt_zero _)⟩⟩
  case round =>
    obtain ⟨pos, rfl, HN⟩ := hrel
    by_cases hp : pos < s.size
    · have hnx : ∀ ty, (Instr.next (.pointer (some ⟨w.heap.size, 0, none⟩)) true ty).run Tryz.prog (w.iter s pos) = _ := fun ty => run_next_any w s pos ty hp
      have hd := Pure.dec_nul s pos hp
      have hwd := dec_pos s pos hp
      by_cases hz : s.get! pos = 0
      · have hdz := hd.1 hz
        rw [hdz] at hnx
        have HR2 := HR.out
        rw [if_pos ((mem_nul s).2 ⟨pos, hp, hz⟩)] at HR2
        subst HR2
        clear hd hz hwd hdz HR
        go_wp2
        go_ret
        exact ⟨rfl, iter_below _ _ _⟩
      · have hd2 := hd.2 hz
        have hne : (((Utf8.decode s pos).1 : Int) == 0) = false := beq_eq_false_iff_ne.2 (by have := hd2.1; omega)
        have HD := Aside0.mk hd2.2
        clear hd hz hd2
        go_wp2
        go_roundw
        case rel =>
          refine ⟨pos + (Utf8.decode s pos).2, rfl, ⟨fun j hj => ?_⟩⟩
          rcases Nat.lt_or_ge j pos with h | h
          · exact HN.out j h
          · exact HD.out j h hj
        case measure =>
          simp
          omega
    · have hnx : ∀ ty, (Instr.next (.pointer (some ⟨w.heap.size, 0, none⟩)) true ty).run Tryz.prog (w.iter s pos) = _ := fun ty => run_next_end w s pos ty hp
      have hno : ¬ ((0 : UInt8) ∈ s.data.toList) := fun h => by
        obtain ⟨j, hj, hb⟩ := (mem_nul s).1 h
        exact HN.out j (by omega) hb
      have HR2 := HR.out
      rw [if_neg hno] at HR2
      have hb := iter_below w s pos
      have hT := GG_below hGG hb
      have cV := Tryz.utf8_ValidString s (w.iter s pos) (by omega) hT.out
      clear hno HR HN hT
      cases hv : Lib.validD s.data.toList
      · rw [hv] at HR2 cV
        rw [if_pos rfl] at HR2
        subst HR2
        have HB := Aside0.mk hb
        clear hb hv
        go_wp2_with (go_at_call 34; refine cV.mono ?_; rintro e w1 ⟨rfl, hb1⟩)
        go_ret
        exact ⟨rfl, HB.out.trans (hb1.mono HB.out.size)⟩
      · rw [hv] at HR2 cV
        rw [if_neg (by decide)] at HR2
        have HB := Aside0.mk hb
        clear hb hv
        have g0 : s.data.toList.getD 0 0 = s[0]'hpos := by
          rw [List.getD_eq_getElem?_getD, List.getElem?_eq_getElem (by simpa using hpos)]
          simp [ByteArray.getElem_eq_getElem_data]
        rw [g0] at HR2
        clear g0
        by_cases h47 : s[0]'hpos = 47
        · rw [if_pos h47] at HR2
          subst HR2
          have b47 : (((s[0]'hpos).toNat : Int) == 47) = true := by rw [h47]; rfl
          clear h47
          go_wp2_with (go_at_call 34; refine cV.mono ?_; rintro e w1 ⟨rfl, hb1⟩)
          go_ret
          exact ⟨rfl, HB.out.trans (hb1.mono HB.out.size)⟩
        · rw [if_neg h47] at HR2
          subst HR2
          have b47 : (((s[0]'hpos).toNat : Int) == 47) = false := beq_eq_false_iff_ne.2 (fun e => h47 (UInt8.toNat_inj.1 (by show _ = 47; omega)))
          clear h47
          go_wp2_with (go_at_call 34; refine cV.mono ?_; rintro e w1 ⟨rfl, hb1⟩)
          go_ret
          exact ⟨rfl, HB.out.trans (hb1.mono HB.out.size)⟩
end Go.Proofs.YtimbefkiledbdaaGreatDoor.XA
