/- strings.Split at one slash, strings.Join, strings.Compare: the library's contracts in the walks' form. -/
import Derived.Test.YtimbefkiledbdaaGreatDoorXA0
import Derived.Test.YtimbefkiledbdaaGreatDoorShelf
import Derived.Test.YtimbefkiledbdaaGreatDoorUCut
namespace Go.Proofs.YtimbefkiledbdaaGreatDoor.XA
open Go.RowKit Go.Proofs.YtimbefkiledbdaaGreatDoorW.PrintWords Go.Proofs.YtimbefkiledbdaaGreatDoorW.PrintLast Go.Proofs.YtimbefkiledbdaaGreatDoorW.PrintMore
set_option linter.unusedVariables false
set_option linter.unusedSimpArgs false

/-- Bytes as a text. -/
def mkS (l : List UInt8) : ByteArray := ⟨l.toArray⟩
theorem mkS_data (l : List UInt8) : (mkS l).data.toList = l := by simp [mkS]
theorem mkS_of (s : ByteArray) : mkS s.data.toList = s := by simp [mkS]

def strings_Split.f (s t : ByteArray) : Option (List ByteArray) := if t = ⟨#[47]⟩ ∧ s.size ≤ 1000000 then some ((Pure.cutS s.data.toList).map mkS) else none
theorem split_is (s : ByteArray) : Lib.splitB (⟨#[47]⟩ : ByteArray) 0 (Lib.countB s (⟨#[47]⟩ : ByteArray)) s = (Pure.cutS s.data.toList).map mkS := by
  rw [← Pure.splitB_cut s, List.map_map]
  conv => lhs; rw [← List.map_id (Lib.splitB _ _ _ _)]
  exact List.map_congr_left fun x _ => (mkS_of x).symm
theorem strings_Split.calls (s t : ByteArray) (r : List ByteArray) (w : World) (h : strings_Split.f s t = some r) :
    Calls Tryz.prog 20 #[.string s, .string t] w fun e w' => ∃ v : Value, e = .returned v ∧ Kd.R Kd.string 9 w' w.heap.size (fun _ => True) v r ∧ Below w.heap.size w w' := by
  unfold strings_Split.f at h
  split at h
  · rename_i hc
    obtain ⟨rfl, hs⟩ := hc
    obtain rfl := Option.some.inj h
    have hi9 : (Tryz.prog.info? 9).map (fun i => (i.zero, i.size, i.bytes)) = some (some (.string ByteArray.empty), 1, 16) := by kernel_rfl
    have hlen := Lib.splitB_all (⟨#[47]⟩ : ByteArray) (by decide) 0 _ s rfl
    have hle := Lib.countB_le (⟨#[47]⟩ : ByteArray) (by decide) s.size s (Nat.le_refl _)
    have c := Any.strings_genSplit_core Tryz.lays221 hi9 s (⟨#[47]⟩ : ByteArray) 0 (-1) (Lib.countB s (⟨#[47]⟩ : ByteArray) + 1) w (by omega) (by decide) (Nat.zero_le _)
      (fun x cs hx => (Tryz.strings_Index_one x 47 _).mono (fun e w' ⟨he, hw⟩ => ⟨by rw [he]; exact congrArg (fun z => Ending.returned (Value.int .i64 z)) (Lib.index_one x.data.toList 47).symm, hw⟩))
      ((Tryz.strings_Count_one s 47 w).mono (fun e w' ⟨he, hw⟩ => ⟨by rw [he]; exact congrArg (fun z : Nat => Ending.returned (Value.int .i64 (z : Int))) (Lib.count_one 47 s.data.toList).symm, hw⟩)) (by decide) (by decide) (by rw [if_pos (by decide)]; omega)
    rw [Nat.add_sub_cancel, hlen] at c
    have e2 : Lib.cellsOf (Lib.splitB (⟨#[47]⟩ : ByteArray) 0 (Lib.countB s (⟨#[47]⟩ : ByteArray)) s) (Lib.countB s (⟨#[47]⟩ : ByteArray) + 1) = ((Lib.splitB (⟨#[47]⟩ : ByteArray) 0 (Lib.countB s (⟨#[47]⟩ : ByteArray)) s).map Value.string).toArray := by rw [← hlen]; exact Lib.cellsOf_full _
    rw [e2, show Tryz.lays221_ren.t 9 = 9 from rfl] at c
    rw [← hlen, split_is s] at c
    have hm : ((Pure.cutS s.data.toList).map mkS).length ≤ 1000001 := by rw [← split_is s, hlen]; omega
    clear e2 hlen hle
    generalize (Pure.cutS s.data.toList).map mkS = r at c hm ⊢
    go_enter Tryz.func20, Tryz.ntmps20
    go_wp2_with (go_at_call 35; refine c.mono ?_; rintro e w' ⟨rfl, hw⟩; rw [hw])
    go_ret
    refine ⟨_, rfl, ?_, below_alloc (Below.refl _ _) _⟩
    refine Kd.R_of_own (enc := Value.string) (h1 := fun _ => rfl) ?_ (fun _ _ => trivial)
    have h2 := World.ownsRow_lit (base := w.heap.size) (e := 9) (size := 1) w (r.map Value.string).toArray r.length (Nat.le_refl _) (by unfold maxLen; omega) (by simp)
    simpa [encs] using h2
  · cases h

def strings_Join.f (l : List ByteArray) (t : ByteArray) : Option ByteArray :=
  if l.length ≤ 140737488355328 ∧ (Lib.join (l.map (·.data.toList)) t.data.toList).length ≤ 140737488355328 then some (mkS (Lib.join (l.map (·.data.toList)) t.data.toList)) else none
theorem strings_Join.calls (A : Option Addr) (c : Nat) (l : List ByteArray) (t : ByteArray) (r : ByteArray) (w : World) (hr : Kd.C Kd.string w A l.length l) (hc : l.length ≤ c) (h : strings_Join.f l t = some r) :
    Calls Tryz.prog 18 #[.slice A l.length c, .string t] w fun e w' => e = .returned (.string r) ∧ Below w.heap.size w w' := by
  unfold strings_Join.f at h
  split at h
  · rename_i hq
    obtain rfl := Option.some.inj h
    have hR := Kd.reads_of_C (enc := Value.string) (d := ByteArray.empty) (h1 := fun _ => rfl) hr
    cases hl : l with
    | nil =>
      subst hl
      refine (Tryz.strings_Join_none A c t w).mono ?_
      rintro e w' ⟨rfl, rfl⟩
      exact ⟨rfl, Below.refl _ _⟩
    | cons x xs =>
      rw [← hl]
      have hn : 0 < l.length := by rw [hl]; simp
      obtain ⟨ad, rfl, hcell⟩ := hR.2.2 hn
      have h0 := hcell 0 hn
      obtain ⟨b, o, sp⟩ := ad
      have hsp : sp = none := by
        cases sp with
        | none => rfl
        | some z =>
          exfalso
          rw [show (⟨b, o, some z⟩ : Addr).add 0 = ⟨b, o, some z⟩ from rfl] at h0
          unfold World.cell? at h0
          split at h0 <;> simp at h0
      subst hsp
      have hcells : ∀ (j : Nat) x, l[j]? = some x → w.cell? ⟨b, o + j, none⟩ = some (.string x) := by
        intro j x hj
        obtain ⟨hjl, hjx⟩ := List.getElem?_eq_some_iff.1 hj
        have := hcell j hjl
        rw [List.getD_eq_getElem?_getD, hj, Option.getD_some] at this
        rw [← this]
        unfold Addr.add
        by_cases hj0 : j = 0
        · subst hj0; simp
        · rw [if_neg hj0]
      refine (Tryz.strings_Join b o c l t w hcells (World.block_lt_of_cell? w _ h0) hq.1 hc hq.2).mono ?_
      rintro e w' ⟨rfl, hb⟩
      exact ⟨rfl, hb⟩
  · cases h
end Go.Proofs.YtimbefkiledbdaaGreatDoor.XA
