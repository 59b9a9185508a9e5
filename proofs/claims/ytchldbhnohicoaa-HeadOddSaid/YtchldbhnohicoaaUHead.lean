/- Layer 6 in plain words: texts up to a byte 0, what fits, and a header as a row of 512 bytes. -/
import Derived.Test.YtchldbhnohicoaaUFormat
import Derived.Test.YtchldbhnohicoaaESeal
import Derived.Test.YtchldbhnohicoaaEIndex
import Derived.Test.YtchldbhnohicoaaXA6
import Derived.Test.YtchldbhnohicoaaXA8
namespace Go.Proofs.Ytchldbhnohicoaa.Pure
open Go.RowKit Go.Proofs.Ytchldbhnohicoaa.XA Go.Proofs.YtchldbhnohicoaaW.PrintWords Go.Proofs.YtchldbhnohicoaaW.PrintLast Go.Proofs.YtchldbhnohicoaaW.PrintMore
set_option linter.unusedSimpArgs false
set_option linter.unusedVariables false

/-- The bytes up to the first byte 0. -/
def upto0 : List Int → List Int
  | [] => []
  | c :: cs => if c = 0 then [] else c :: upto0 cs
def no0 (l : List Int) : Bool := l.all (fun c => c != 0)
def nums8 (l : List UInt8) : List Int := l.map fun b => (b.toNat : Int)
theorem bl_nums8 (s : ByteArray) : bl s = nums8 s.data.toList := rfl
theorem index_upto : ∀ l : List UInt8, (Lib.indexByte l 0 = -1 ∧ upto0 (nums8 l) = nums8 l ∧ no0 (nums8 l) = true) ∨ (∃ o : Nat, Lib.indexByte l 0 = (o : Int) ∧ o < l.length ∧ upto0 (nums8 l) = (nums8 l).take o ∧ no0 (nums8 l) = false)
  | [] => Or.inl ⟨rfl, rfl, rfl⟩
  | b :: l => by
    by_cases h : b = 0
    · subst h
      exact Or.inr ⟨0, by simp [Lib.indexByte], by simp, by simp [nums8, upto0], by simp [nums8, no0]⟩
    · have hb : (b == 0) = false := by simpa using h
      have hn : ((b.toNat : Nat) : Int) ≠ 0 := by
        intro e
        apply h
        apply UInt8.toNat_inj.1
        have : b.toNat = 0 := by omega
        simpa using this
      rcases index_upto l with ⟨h1, h2, h3⟩ | ⟨o, h1, h2, h3, h4⟩
      · refine Or.inl ⟨by simp [Lib.indexByte, hb, h1], ?_, ?_⟩
        · show upto0 (((b.toNat : Nat) : Int) :: nums8 l) = ((b.toNat : Nat) : Int) :: nums8 l
          rw [upto0, if_neg hn, h2]
        · show no0 (((b.toNat : Nat) : Int) :: nums8 l) = true
          simp only [no0, List.all_cons] at h3 ⊢
          rw [h3]
          simpa using hn
      · refine Or.inr ⟨o + 1, ?_, by simpa using h2, ?_, ?_⟩
        · simp only [Lib.indexByte, hb, h1]
          have : ((o : Int) == -1) = false := by simp
          simp only [this, Bool.false_eq_true, if_false]
          omega
        · show upto0 (((b.toNat : Nat) : Int) :: nums8 l) = (((b.toNat : Nat) : Int) :: nums8 l).take (o + 1)
          rw [upto0, if_neg hn, h3, List.take_succ_cons]
        · show no0 (((b.toNat : Nat) : Int) :: nums8 l) = false
          simp only [no0, List.all_cons] at h4 ⊢
          rw [h4, Bool.and_false]
theorem bl_extract (s : ByteArray) (i j : Nat) : bl (s.extract i j) = ((bl s).take j).drop i := by
  simp only [bl, ByteArray.data_extract, Array.toList_extract, List.extract_eq_take_drop, List.map_take, List.map_drop, List.drop_take]
theorem index_f (s : ByteArray) : stringslite_Index.f s (⟨#[0]⟩ : ByteArray) = some (Lib.indexByte s.data.toList 0) := rfl
theorem cut_text (s : ByteArray) (hs : s.size ≤ 1000000) : ∃ t u ok, strings_Cut.f s (⟨#[0]⟩ : ByteArray) = some (t, u, ok) ∧ bl t = upto0 (bl s) := by
  have hlen : s.data.toList.length = s.size := by rw [Array.length_toList]; rfl
  unfold strings_Cut.f stringslite_Cut.f
  rw [index_f, bl_nums8 s]
  have h1 : ((⟨#[0]⟩ : ByteArray).size : Int) = 1 := rfl
  rcases index_upto s.data.toList with ⟨h, h2, _⟩ | ⟨o, h, h2, h3, _⟩
  · rw [h]
    simp only [Option.bind_some, show ¬ ((-1 : Int) ≥ 0) by omega, if_false]
    exact ⟨_, _, _, rfl, by rw [h2]; rfl⟩
  · rw [h]
    simp only [Option.bind_some, h1, show ((o : Int) ≥ 0) by omega, show (0 : Int) ≤ (o : Int) by omega, show (o : Int) ≤ (s.size : Int) by omega, w64 (x := (o : Int) + 1) (by omega) (by omega), show (0 : Int) ≤ (o : Int) + 1 by omega, show (o : Int) + 1 ≤ (s.size : Int) by omega, if_true, Int.toNat_natCast]
    refine ⟨_, _, _, rfl, ?_⟩
    rw [h3, bl_extract]
    rfl
theorem text_f {l : List Int} (hb : Bytes l) (hl : l.length ≤ 1000000) : ∃ t, head_text.f l = some t ∧ bl t = upto0 l := by
  obtain ⟨t, u, ok, h, ht⟩ := cut_text (strOfNums l) (by rw [strOfNums_size]; exact hl)
  refine ⟨t, ?_, by rw [ht, bl_strOfNums hb]⟩
  unfold head_text.f
  rw [h]
  rfl
theorem contains_f (s : ByteArray) : strings_Contains.f s (⟨#[0]⟩ : ByteArray) = some (!no0 (bl s)) := by
  unfold strings_Contains.f strings_Index.f
  rw [index_f, bl_nums8 s]
  rcases index_upto s.data.toList with ⟨h, _, h2⟩ | ⟨o, h, _, _, h2⟩
  · rw [h, h2]; rfl
  · rw [h, h2]
    simp only [Option.bind_some, show ((o : Int) ≥ 0) by omega, decide_true, Bool.not_false]
theorem headfits_f (s : ByteArray) (n : Int) : head_Fits.f s n = some (decide ((s.size : Int) ≤ n) && no0 (bl s)) := by
  unfold head_Fits.f
  by_cases h : (s.size : Int) ≤ n
  · simp only [h, if_true, contains_f, Option.bind_some, Bool.not_not, decide_true, Bool.true_and]
  · simp only [h, if_false, decide_false, Bool.false_and]
theorem upto0_no0 : ∀ l : List Int, (upto0 l = l ↔ no0 l = true)
  | [] => by simp [upto0, no0]
  | c :: cs => by
    have ih := upto0_no0 cs
    simp only [upto0, no0, List.all_cons] at ih ⊢
    by_cases h : c = 0
    · subst h; simp
    · rw [if_neg h]
      simp only [List.cons.injEq, true_and, Bool.and_eq_true, bne_iff_ne, ne_eq, h, not_false_eq_true]
      exact ih
theorem upto0_append_zero : ∀ (l r : List Int), no0 l = true → upto0 (l ++ 0 :: r) = l
  | [], r, _ => by simp [upto0]
  | c :: cs, r, h => by
    simp only [no0, List.all_cons, Bool.and_eq_true, bne_iff_ne, ne_eq] at h
    rw [List.cons_append, upto0, if_neg h.1, upto0_append_zero cs r h.2]
theorem upto0_zeros {l : List Int} (h : no0 l = true) (n : Nat) : upto0 (l ++ List.replicate n 0) = l := by
  cases n with
  | zero => rw [List.replicate_zero, List.append_nil]; exact (upto0_no0 l).2 h
  | succ n => rw [List.replicate_succ]; exact upto0_append_zero l _ h
end Go.Proofs.Ytchldbhnohicoaa.Pure
