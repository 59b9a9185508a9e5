/- What is taken of the library's variables (GG), and the library's contracts on numbers and texts in one form. -/
import Derived.Test.YtimbefkiledbdaaGreatDoorEMem
import Derived.Test.YtimbefkiledbdaaGreatDoorShelf
import Derived.Test.YtimbefkiledbdaaGreatDoorRURec
import Derived.Lib.AppendIntMem
import Derived.Lib.SmallJoins
namespace Go.Proofs.YtimbefkiledbdaaGreatDoor.R
open Go.RowKit Go.Proofs.YtimbefkiledbdaaGreatDoorW.PrintWords Go.Proofs.YtimbefkiledbdaaGreatDoorW.PrintLast Go.Proofs.YtimbefkiledbdaaGreatDoorW.PrintMore Go.Proofs.YtimbefkiledbdaaGreatDoor.Mem Go.Proofs.YtimbefkiledbdaaGreatDoor.Pure
set_option linter.unusedVariables false
set_option linter.unusedSimpArgs false

/-- The table of the powers of ten; the two tables of UTF-8; the handle of the type error. -/
structure GG (w : World) : Prop where
  tab : Lib.TabIs Tryz.prog w "internal/strconv.uint64pow10" .u64 Lib.pow10Tab
  u8 : Lib.Utf8Tabs 1 2 w
  et : w.var? Tryz.prog "errors.errorType" = some #[.iface 97 (.agg #[.pointer (some ⟨9, 30, none⟩)])]
theorem GG.below {w w' : World} (h : GG w) (hb : Below w.heap.size w w') : GG w' := by
  obtain ⟨h1, h2, h3⟩ := h
  have hv : ∀ {name : String} {cs : Array Value}, w.var? Tryz.prog name = some cs → w'.var? Tryz.prog name = some cs := fun {name cs} hc => by
    unfold World.var? at hc ⊢
    cases hg : Tryz.prog.globalNamed name with
    | none => rw [hg] at hc; simp at hc
    | some g =>
      rw [hg] at hc
      simp only [Option.bind_some] at hc ⊢
      cases hh : w.heap[g]? with
      | none => rw [hh] at hc; simp at hc
      | some ob =>
        have hlt : g < w.heap.size := by
          rcases Nat.lt_or_ge g w.heap.size with h | h
          · exact h
          · simp [Array.getElem?_eq_none h] at hh
        rw [hb.block g hlt]
        exact hc
  exact ⟨hv h1, Utf8Tabs_below h2 hb, hv h3⟩
theorem et_glob : Tryz.prog.globalNamed "errors.errorType" = some 0 := by kernel_rfl
theorem GG.cell {w : World} (h : GG w) : w.cell? ⟨0, 0, none⟩ = some (.iface 97 (.agg #[.pointer (some ⟨9, 30, none⟩)])) := by simpa using World.var?_cell et_glob h.et 0
theorem below_bytes {w w' : World} {t : TypeId} (h : w' = w ∨ ∃ l, w' = Lib.bytesWorld w t l) : Below w.heap.size w w' := by
  rcases h with rfl | ⟨l, rfl⟩
  · exact Below.refl _ _
  · exact Lib.bytesWorld_below _ _ _
theorem itoa_c (n : Int) (h0 : -9223372036854775808 ≤ n) (h1 : n ≤ 9223372036854775807) (w : World) (hG : GG w) :
    Calls Tryz.prog 17 #[.int .i64 n] w fun e w' => e = .returned (.string ⟨(Lib.itoa n).toArray⟩) ∧ Below w.heap.size w w' :=
  (Tryz.strconv_Itoa n h0 h1 w hG.tab).mono (by rintro e w' ⟨rfl, k, os, rfl⟩; exact ⟨rfl, Lib.below_grow _ _ (Nat.le_refl _) _ _⟩)
theorem atoi_c (s : ByteArray) (hs : s.size ≤ 1000000) (v : Int) (h : Lib.atoiAll s.data.toList = .ok v) (w : World) :
    Calls Tryz.prog 39 #[.string s] w fun e w' => e = .returned (.tuple #[.int .i64 v, .nilIface]) ∧ Below w.heap.size w w' :=
  (Tryz.strconv_Atoi_ok s (by omega) v h w).mono (by rintro e w' ⟨rfl, h⟩; exact ⟨rfl, below_bytes h⟩)
/-- strings.Cut at one byte that is there. -/
theorem ba_of {b : ByteArray} {l : List UInt8} (h : b.data.toList = l) : b = ⟨l.toArray⟩ := by
  subst h
  cases b
  simp
theorem piece (s : ByteArray) (a b : Nat) : s.extract a b = ⟨((s.data.toList.take b).drop a).toArray⟩ := by
  apply ba_of
  rw [ByteArray.data_extract, Array.toList_extract]
  simp [List.extract, List.drop_take]
set_option maxRecDepth 100000 in
theorem cut_c (s : ByteArray) (c : UInt8) (a b : List UInt8) (hs : s.data.toList = a ++ c :: b) (hc : c ∉ a) (hz : s.size ≤ 1000000) (w : World) :
    Calls Tryz.prog 23 #[.string s, .string ⟨#[c]⟩] w fun e w' => e = .returned (.tuple #[.string ⟨a.toArray⟩, .string ⟨b.toArray⟩, .bool true]) ∧ Below w.heap.size w w' := by
  have hI : Lib.indexByte s.data.toList c = (a.length : Int) := by rw [← Lib.index_one, hs]; exact index_at a b c hc
  have hlen : s.size = a.length + 1 + b.length := by
    have := congrArg List.length hs
    simp at this
    omega
  have e1 : s.extract 0 a.length = ⟨a.toArray⟩ := by rw [piece, hs]; simp
  have e2 : s.extract (a.length + 1) s.size = ⟨b.toArray⟩ := by
    rw [piece, List.take_of_length_le (by simp), hs, show a ++ c :: b = (a ++ [c]) ++ b by simp, List.drop_left' (by simp)]
  have hcut : ∀ w : World, Calls Tryz.prog 38 #[.string s, .string ⟨#[c]⟩] w fun e w' => e = .returned (.tuple #[.string ⟨a.toArray⟩, .string ⟨b.toArray⟩, .bool true]) ∧ Below w.heap.size w w' := fun w => by
    have h1 := Tryz.stringslite_Index_one s c w
    rw [hI] at h1
    have hx : decide ((0 : Int) ≤ (a.length : Int)) = true := decide_eq_true (by omega)
    have hy : (a.length : Int) ≤ (s.size : Int) := by omega
    have hy2 : ((a.length + 1 : Nat) : Int) ≤ (s.size : Int) := by omega
    clear hs hc hI hlen
    go_enter Tryz.func38, Tryz.ntmps38
    go_wp2_with (go_at_call 50; refine h1.mono ?_; rintro e w' ⟨rfl, rfl⟩)
    repeat (go_quiet (first | (go_at_call 50; refine h1.mono ?_; rintro e w' ⟨rfl, rfl⟩)))
    go_wp2
    go_ret3
    exact ⟨rfl, (Below.refl _ _).trans ⟨rfl, rfl, rfl, Nat.le_refl _, fun _ _ => rfl⟩⟩
  go_enter Tryz.func23, Tryz.ntmps23
  go_wp2_with (go_at_call 38; refine (hcut _).mono ?_; rintro e w' ⟨rfl, hb⟩)
  go_ret3
  exact ⟨rfl, hb⟩
set_option maxRecDepth 100000 in
theorem cut_n (s : ByteArray) (c : UInt8) (hc : c ∉ s.data.toList) (w : World) :
    Calls Tryz.prog 23 #[.string s, .string ⟨#[c]⟩] w fun e w' => e = .returned (.tuple #[.string s, .string ⟨#[]⟩, .bool false]) ∧ Below w.heap.size w w' := by
  have hI : Lib.indexByte s.data.toList c = -1 := by rw [← Lib.index_one]; exact index_no _ _ hc
  have hcut : ∀ w : World, Calls Tryz.prog 38 #[.string s, .string ⟨#[c]⟩] w fun e w' => e = .returned (.tuple #[.string s, .string ⟨#[]⟩, .bool false]) ∧ Below w.heap.size w w' := fun w => by
    have h1 := Tryz.stringslite_Index_one s c w
    rw [hI] at h1
    clear hc hI
    go_enter Tryz.func38, Tryz.ntmps38
    go_wp2_with (go_at_call 50; refine h1.mono ?_; rintro e w' ⟨rfl, rfl⟩)
    repeat (go_quiet (first | (go_at_call 50; refine h1.mono ?_; rintro e w' ⟨rfl, rfl⟩)))
    go_wp2
    go_ret3
    exact ⟨rfl, Below.refl _ _⟩
  go_enter Tryz.func23, Tryz.ntmps23
  go_wp2_with (go_at_call 38; refine (hcut _).mono ?_; rintro e w' ⟨rfl, hb⟩)
  go_ret3
  exact ⟨rfl, hb⟩
end Go.Proofs.YtimbefkiledbdaaGreatDoor.R
