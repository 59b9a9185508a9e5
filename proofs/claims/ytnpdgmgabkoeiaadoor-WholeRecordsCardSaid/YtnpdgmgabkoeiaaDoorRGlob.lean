/- What is taken of the library's variables (GG), and the library's contracts on numbers and texts in one form. -/
import Derived.Test.YtnpdgmgabkoeiaaDoorEMem
import Derived.Test.YtnpdgmgabkoeiaaDoorShelf
import Derived.Test.YtnpdgmgabkoeiaaDoorRURec
import Derived.Lib.AppendIntMem
import Derived.Lib.SmallJoins
import Derived.Lib.AtoiErrMem
namespace Go.Proofs.YtnpdgmgabkoeiaaDoor.R
open Go.RowKit Go.Proofs.YtnpdgmgabkoeiaaDoorW.PrintWords Go.Proofs.YtnpdgmgabkoeiaaDoorW.PrintLast Go.Proofs.YtnpdgmgabkoeiaaDoorW.PrintMore Go.Proofs.YtnpdgmgabkoeiaaDoor.Mem Go.Proofs.YtnpdgmgabkoeiaaDoor.Pure
set_option linter.unusedVariables false
set_option linter.unusedSimpArgs false

/-- The table of the powers of ten; the two errors of strconv. -/
structure GG (w : World) : Prop where
  tab : Lib.TabIs Tryd.prog w "internal/strconv.uint64pow10" .u64 Lib.pow10Tab
  syn : ∃ t p, w.var? Tryd.prog "strconv.ErrSyntax" = some #[.iface t p]
  rng : ∃ t p, w.var? Tryd.prog "strconv.ErrRange" = some #[.iface t p]
theorem GG.below {w w' : World} (h : GG w) (hb : Below w.heap.size w w') : GG w' := by
  obtain ⟨h1, ⟨t, p, h2⟩, ⟨t', p', h3⟩⟩ := h
  have hv : ∀ {name : String} {cs : Array Value}, w.var? Tryd.prog name = some cs → w'.var? Tryd.prog name = some cs := fun {name cs} hc => by
    unfold World.var? at hc ⊢
    cases hg : Tryd.prog.globalNamed name with
    | none => rw [hg] at hc; simp at hc
    | some g =>
      rw [hg] at hc
      simp only [Option.bind_some] at hc ⊢
      cases hh : w.heap[g]? with
      | none => rw [hh] at hc; simp at hc
      | some ob =>
        have hlt : g < w.heap.size := by
          rcases Nat.lt_or_ge g w.heap.size with h | h
          · exact h
          · simp [Array.getElem?_eq_none h] at hh
        rw [hb.block g hlt]
        exact hc
  exact ⟨hv h1, ⟨t, p, hv h2⟩, ⟨t', p', hv h3⟩⟩
theorem below_bytes {w w' : World} {t : TypeId} (h : w' = w ∨ ∃ l, w' = Lib.bytesWorld w t l) : Below w.heap.size w w' := by
  rcases h with rfl | ⟨l, rfl⟩
  · exact Below.refl _ _
  · exact Lib.bytesWorld_below _ _ _
theorem itoa_c (n : Int) (h0 : -9223372036854775808 ≤ n) (h1 : n ≤ 9223372036854775807) (w : World) (hG : GG w) :
    Calls Tryd.prog 13 #[.int .i64 n] w fun e w' => e = .returned (.string ⟨(Lib.itoa n).toArray⟩) ∧ Below w.heap.size w w' :=
  (Tryd.strconv_Itoa n h0 h1 w hG.tab).mono (by rintro e w' ⟨rfl, k, os, rfl⟩; exact ⟨rfl, Lib.below_grow _ _ (Nat.le_refl _) _ _⟩)
theorem fmt_c (n : Int) (h0 : -9223372036854775808 ≤ n) (h1 : n ≤ 9223372036854775807) (w : World) (hG : GG w) :
    Calls Tryd.prog 19 #[.int .i64 n, .int .i64 10] w fun e w' => e = .returned (.string ⟨(Lib.itoa n).toArray⟩) ∧ Below w.heap.size w w' :=
  (Tryd.strconv_FormatInt_10 n h0 h1 w hG.tab).mono (by rintro e w' ⟨rfl, k, os, rfl⟩; exact ⟨rfl, Lib.below_grow _ _ (Nat.le_refl _) _ _⟩)
theorem atoi_c (s : ByteArray) (hs : s.size ≤ 1000000) (v : Int) (h : Lib.atoiAll s.data.toList = .ok v) (w : World) :
    Calls Tryd.prog 24 #[.string s] w fun e w' => e = .returned (.tuple #[.int .i64 v, .nilIface]) ∧ Below w.heap.size w w' :=
  (Tryd.strconv_Atoi_ok s (by omega) v h w).mono (by rintro e w' ⟨rfl, h⟩; exact ⟨rfl, below_bytes h⟩)
theorem pint_ok (s : ByteArray) (hs : s.size ≤ 1000000) (v : Int) (h : Lib.parseIntB 64 s.data.toList = .ok v) (w : World) :
    Calls Tryd.prog 18 #[.string s, .int .i64 10, .int .i64 64] w fun e w' => e = .returned (.tuple #[.int .i64 v, .nilIface]) ∧ Below w.heap.size w w' :=
  (Tryd.strconv_ParseInt_10_at64_ok s (by omega) v h w).mono (by rintro e w' ⟨rfl, h⟩; exact ⟨rfl, below_bytes h⟩)
theorem pint_no (s : ByteArray) (hs : s.size ≤ 1000000) (h : ∀ v, Lib.parseIntB 64 s.data.toList ≠ .ok v) (w : World) (hG : GG w) :
    Calls Tryd.prog 18 #[.string s, .int .i64 10, .int .i64 64] w fun e w' => (∃ z t p, e = .returned (.tuple #[.int .i64 z, .iface t p])) ∧ Below w.heap.size w w' := by
  obtain ⟨_, ⟨t, p, h2⟩, ⟨t', p', h3⟩⟩ := hG
  cases hp : Lib.parseIntB 64 s.data.toList
  · exact absurd hp (h _)
  · refine (Any.strconv_ParseInt_10_at64_syntax_var Tryd.laysC174 s (by omega) hp t p w h2).mono ?_
    rintro e w' ⟨N, rfl, _, _, hb⟩
    exact ⟨⟨_, _, _, rfl⟩, hb⟩
  · refine (Tryd.strconv_ParseInt_10_at64_range_var s (by omega) hp t' p' w h3).mono ?_
    rintro e w' ⟨N, rfl, _, _, hb⟩
    exact ⟨⟨_, _, _, rfl⟩, hb⟩
/-- strings.Cut at one byte that is there. -/
theorem ba_of {b : ByteArray} {l : List UInt8} (h : b.data.toList = l) : b = ⟨l.toArray⟩ := by
  subst h
  cases b
  simp
theorem piece (s : ByteArray) (a b : Nat) : s.extract a b = ⟨((s.data.toList.take b).drop a).toArray⟩ := by
  apply ba_of
  rw [ByteArray.data_extract, Array.toList_extract]
  simp [List.extract, List.drop_take]
set_option maxRecDepth 100000 in
theorem cut_c (s : ByteArray) (c : UInt8) (a b : List UInt8) (hs : s.data.toList = a ++ c :: b) (hc : c ∉ a) (hz : s.size ≤ 1000000) (w : World) :
    Calls Tryd.prog 23 #[.string s, .string ⟨#[c]⟩] w fun e w' => e = .returned (.tuple #[.string ⟨a.toArray⟩, .string ⟨b.toArray⟩, .bool true]) ∧ Below w.heap.size w w' := by
  have hI : Lib.indexByte s.data.toList c = (a.length : Int) := by rw [← Lib.index_one, hs]; exact index_at a b c hc
  have hlen : s.size = a.length + 1 + b.length := by
    have := congrArg List.length hs
    simp at this
    omega
  have e1 : s.extract 0 a.length = ⟨a.toArray⟩ := by rw [piece, hs]; simp
  have e2 : s.extract (a.length + 1) s.size = ⟨b.toArray⟩ := by
    rw [piece, List.take_of_length_le (by simp), hs, show a ++ c :: b = (a ++ [c]) ++ b by simp, List.drop_left' (by simp)]
  have hcut : ∀ w : World, Calls Tryd.prog 33 #[.string s, .string ⟨#[c]⟩] w fun e w' => e = .returned (.tuple #[.string ⟨a.toArray⟩, .string ⟨b.toArray⟩, .bool true]) ∧ Below w.heap.size w w' := fun w => by
    have h1 := Tryd.stringslite_Index_one s c w
    rw [hI] at h1
    have hx : decide ((0 : Int) ≤ (a.length : Int)) = true := decide_eq_true (by omega)
    have hy : (a.length : Int) ≤ (s.size : Int) := by omega
    have hy2 : ((a.length + 1 : Nat) : Int) ≤ (s.size : Int) := by omega
    clear hs hc hI hlen
    go_enter Tryd.func33, Tryd.ntmps33
    go_wp2_with (go_at_call 48; refine h1.mono ?_; rintro e w' ⟨rfl, rfl⟩)
    repeat (go_quiet (first | (go_at_call 48; refine h1.mono ?_; rintro e w' ⟨rfl, rfl⟩)))
    go_wp2
    go_ret3
    exact ⟨rfl, (Below.refl _ _).trans ⟨rfl, rfl, rfl, Nat.le_refl _, fun _ _ => rfl⟩⟩
  go_enter Tryd.func23, Tryd.ntmps23
  go_wp2_with (go_at_call 33; refine (hcut _).mono ?_; rintro e w' ⟨rfl, hb⟩)
  go_ret3
  exact ⟨rfl, hb⟩
end Go.Proofs.YtnpdgmgabkoeiaaDoor.R
