/- HeadSplits: any path as a prefix and a name, or that it can't be, is the document's answer; together they are the path. No conditions. -/
import Derived.Test.YtchldbhnohicoaaUCodes
import Derived.Test.YtchldbhnohicoaaURefDecode
import Derived.Test.YtchldbhnohicoaaXA13
import Derived.Test.YtchldbhnohicoaaXA20
namespace Go.Proofs.Ytchldbhnohicoaa.Pure
open Go.RowKit Go.Proofs.Ytchldbhnohicoaa.XA Go.Proofs.YtchldbhnohicoaaW.PrintWords Go.Proofs.YtchldbhnohicoaaW.PrintLast Go.Proofs.YtchldbhnohicoaaW.PrintMore
set_option linter.unusedSimpArgs false
set_option linter.unusedVariables false

abbrev SR := ByteArray × ByteArray × Bool
def nosplit : SR := (⟨#[]⟩, ⟨#[]⟩, false)
/-- The first place from i on where a path of bytes can be split. -/
def good (s : ByteArray) (i : Nat) : Bool := bt s (i : Int) == 47 && decide (1 ≤ i) && decide (s.size ≤ i + 101) && decide (i + 1 < s.size)
def splitAt (s : ByteArray) : Nat → Nat → SR
  | 0, _ => nosplit
  | d + 1, i => if good s i = true then (if i ≤ 155 then (s.extract 0 i, s.extract (i + 1) s.size, true) else nosplit) else splitAt s d (i + 1)
theorem split_late {s : ByteArray} : ∀ (d i : Nat), 155 < i → splitAt s d i = nosplit
  | 0, _, _ => rfl
  | d + 1, i, h => by
    rw [splitAt]
    split
    · rw [if_neg (by omega)]
    · exact split_late d (i + 1) (by omega)
theorem split_end {s : ByteArray} : ∀ (d i : Nat), s.size ≤ i + 1 → splitAt s d i = nosplit
  | 0, _, _ => rfl
  | d + 1, i, h => by
    rw [splitAt, if_neg]
    · exact split_end d (i + 1) (by omega)
    · simp [good, show ¬ (i + 1 < s.size) by omega]
section
variable {s : ByteArray}
theorem split_j2 (hs : s.size ≤ 1000000) {i : Nat} (hi : i < s.size) {x : Bool} {R : SR} (hno : x = true → Ev (fun k => head_Split.l0 k s (s.size : Int) ((i + 1 : Nat) : Int)) R) (hyes : x = false → R = if i ≤ 155 then (s.extract 0 i, s.extract (i + 1) s.size, true) else nosplit) :
    Ev (fun k => head_Split.j2 k s (i : Int) (s.size : Int) (i : Int) x) R := by
  refine Ev.step (fun k => by rw [head_Split.j2]) ?_
  cases x with
  | true =>
    simp only [if_true, wnext (i := i) (by omega)]
    exact hno rfl
  | false =>
    have := hyes rfl
    simp only [Bool.false_eq_true, if_false]
    by_cases h : i ≤ 155
    · rw [if_pos h] at this
      simp only [show ¬ ((i : Int) > 155) by omega, if_false, show (0 : Int) ≤ (i : Int) by omega, show (i : Int) ≤ (s.size : Int) by omega, wnext (i := i) (by omega), show (0 : Int) ≤ ((i + 1 : Nat) : Int) by omega, show ((i + 1 : Nat) : Int) ≤ (s.size : Int) by omega, if_true, Int.toNat_natCast]
      rw [this]
      exact ev_some _
    · rw [if_neg h] at this
      simp only [show ((i : Int) > 155) by omega, if_true]
      rw [this]
      exact ev_some _
theorem split_l0 (hs : s.size ≤ 1000000) : ∀ (d i : Nat), i + d = s.size → Ev (fun k => head_Split.l0 k s (s.size : Int) (i : Int)) (splitAt s d i)
  | 0, i, h => by
    refine Ev.step (fun k => by rw [head_Split.l0]) ?_
    simp only [show ¬ ((i : Int) < (s.size : Int)) by omega, if_false]
    exact ev_some _
  | d + 1, i, h => by
    refine Ev.step (fun k => by rw [head_Split.l0]) ?_
    simp only [show (i : Int) < (s.size : Int) by omega, show (0 : Int) ≤ (i : Int) by omega, if_true, w64 (x := (s.size : Int) - i) (by omega) (by omega), w64 (x := (s.size : Int) - i - 1) (by omega) (by omega), w64 (x := (s.size : Int) - 1) (by omega) (by omega)]
    have ih := split_l0 hs d (i + 1) (by omega)
    have no : good s i = false → Ev (fun k => head_Split.j2 k s (i : Int) (s.size : Int) (i : Int) true) (splitAt s (d + 1) i) := by
      intro hg
      rw [splitAt, if_neg (by rw [hg]; simp)]
      exact split_j2 hs (by omega) (fun _ => ih) (fun h => by cases h)
    by_cases c1 : bt s (i : Int) = 47
    · simp only [if_pos c1]
      by_cases c2 : (i : Int) = 0
      · simp only [if_pos c2]
        exact no (by simp [good, show ¬ (1 ≤ i) by omega])
      · simp only [if_neg c2]
        by_cases c3 : (s.size : Int) - i - 1 > 100
        · simp only [if_pos c3]
          exact no (by simp [good, show ¬ (s.size ≤ i + 101) by omega])
        · simp only [if_neg c3]
          by_cases c4 : (i : Int) = (s.size : Int) - 1
          · rw [show ((i : Int) == (s.size : Int) - 1) = true from beq_iff_eq.2 c4]
            exact no (by simp [good, show ¬ (i + 1 < s.size) by omega])
          · rw [show ((i : Int) == (s.size : Int) - 1) = false from beq_eq_false_iff_ne.2 c4]
            have hg : good s i = true := by simp [good, c1, show 1 ≤ i by omega, show s.size ≤ i + 101 by omega, show i + 1 < s.size by omega]
            exact split_j2 hs (by omega) (fun h => by cases h) (fun _ => by rw [splitAt, if_pos hg])
    · simp only [if_neg c1]
      exact no (by simp [good, c1])
/-- The document's loop. -/
theorem refsplit_l0 (hs : s.size ≤ 1000000) (h1 : 1 ≤ s.size) : ∀ (d i : Nat), i + d = s.size → 1 ≤ i → Ev (fun k => pannierref06_Split.l0 k s (i : Int)) (splitAt s d i)
  | 0, i, h, hi => by
    refine Ev.step (fun k => by rw [pannierref06_Split.l0]) ?_
    simp only [w64 (x := (s.size : Int) - 1) (by omega) (by omega), show ¬ ((i : Int) < (s.size : Int) - 1) by omega, decide_false]
    have e : Ev (fun k => pannierref06_Split.j2 k s (i : Int) false) nosplit := by
      refine Ev.step (fun k => by rw [pannierref06_Split.j2]) ?_
      simp only [Bool.false_eq_true, if_false]
      exact ev_some _
    split
    · exact e
    · exact e
  | d + 1, i, h, hi => by
    have e : splitAt s (d + 1) i = nosplit → Ev (fun k => pannierref06_Split.j2 k s (i : Int) false) (splitAt s (d + 1) i) := by
      intro hn
      rw [hn]
      refine Ev.step (fun k => by rw [pannierref06_Split.j2]) ?_
      simp only [Bool.false_eq_true, if_false]
      exact ev_some _
    refine Ev.step (fun k => by rw [pannierref06_Split.l0]) ?_
    simp only [w64 (x := (s.size : Int) - 1) (by omega) (by omega)]
    by_cases c1 : (i : Int) ≤ 155
    · simp only [if_pos c1]
      by_cases c2 : (i : Int) < (s.size : Int) - 1
      · simp only [c2, decide_true]
        refine Ev.step (fun k => by rw [pannierref06_Split.j2]) ?_
        simp only [if_true, show (0 : Int) ≤ (i : Int) by omega, show (i : Int) < (s.size : Int) by omega, w64 (x := (s.size : Int) - i) (by omega) (by omega), w64 (x := (s.size : Int) - i - 1) (by omega) (by omega), wnext (i := i) (by omega)]
        have ih := refsplit_l0 hs h1 d (i + 1) (by omega) (by omega)
        have no : good s i = false → Ev (fun k => pannierref06_Split.l0 k s ((i + 1 : Nat) : Int)) (splitAt s (d + 1) i) := by
          intro hg
          rw [splitAt, if_neg (by rw [hg]; simp)]
          exact ih
        by_cases c3 : bt s (i : Int) = 47
        · simp only [if_pos c3]
          by_cases c4 : (s.size : Int) - i - 1 ≤ 100
          · have hg : good s i = true := by simp [good, c3, hi, show s.size ≤ i + 101 by omega, show i + 1 < s.size by omega]
            simp only [if_pos c4, show (i : Int) ≤ (s.size : Int) by omega, show (0 : Int) ≤ ((i + 1 : Nat) : Int) by omega, show ((i + 1 : Nat) : Int) ≤ (s.size : Int) by omega, if_true, Int.toNat_natCast]
            rw [splitAt, if_pos hg, if_pos (by omega)]
            exact ev_some _
          · simp only [if_neg c4]
            exact no (by simp [good, show ¬ (s.size ≤ i + 101) by omega])
        · simp only [if_neg c3]
          exact no (by simp [good, c3])
      · simp only [c2, decide_false]
        exact e (split_end _ _ (by omega))
    · simp only [if_neg c1]
      exact e (split_late _ _ (by omega))
def splitted (s : ByteArray) : SR := if s.size = 0 ∨ no0 (bl s) = false then nosplit else if s.size ≤ 100 then (⟨#[]⟩, s, true) else splitAt s (s.size - 1) 1
theorem empty_iff (s : ByteArray) : s.toList = ([] : List UInt8) ↔ s.size = 0 := by
  rw [toList_data]
  constructor
  · intro h
    rw [← bl_length, bl_nums8, h]
    rfl
  · intro h
    have : s.data.toList.length = 0 := by rw [Array.length_toList]; exact h
    exact List.eq_nil_of_length_eq_zero this
theorem split_first (h : 100 < s.size) : splitAt s s.size 0 = splitAt s (s.size - 1) 1 := by
  obtain ⟨n, hn⟩ : ∃ n, s.size = n + 1 := ⟨s.size - 1, by omega⟩
  conv => lhs; rw [hn]
  rw [splitAt, if_neg (by simp [good]), hn]
  rfl
theorem split_ev (hs : s.size ≤ 1000000) : Ev (fun k => head_Split.f k s) (splitted s) := by
  unfold head_Split.f splitted
  have j0t : Ev (fun k => head_Split.j0 k s true) nosplit := by
    refine Ev.step (fun k => by rw [head_Split.j0]) ?_
    simp only [if_true]
    exact ev_some _
  by_cases h0 : s.size = 0
  · simp only [if_pos ((empty_iff s).2 h0), if_pos (Or.inl h0)]
    exact j0t
  · simp only [if_neg (fun h => h0 ((empty_iff s).1 h)), contains_f, Option.bind_some]
    cases hz : no0 (bl s) with
    | false =>
      rw [if_pos (Or.inr rfl)]
      exact j0t
    | true =>
      rw [if_neg (by simp [h0])]
      refine Ev.step (fun k => by rw [head_Split.j0]) ?_
      simp only [Bool.not_true, Bool.false_eq_true, if_false]
      by_cases h1 : s.size ≤ 100
      · simp only [show (s.size : Int) ≤ 100 by omega, if_true, if_pos h1]
        exact ev_some _
      · simp only [show ¬ (s.size : Int) ≤ 100 by omega, if_false, if_neg h1]
        rw [← split_first (by omega)]
        exact split_l0 hs s.size 0 (by omega)
theorem refsplit_ev (hs : s.size ≤ 1000000) : Ev (fun k => pannierref06_Split.f k s) (splitted s) := by
  unfold pannierref06_Split.f splitted
  have j0t : Ev (fun k => pannierref06_Split.j0 k s true) nosplit := by
    refine Ev.step (fun k => by rw [pannierref06_Split.j0]) ?_
    simp only [if_true]
    exact ev_some _
  by_cases h0 : s.size = 0
  · simp only [if_pos ((empty_iff s).2 h0), if_pos (Or.inl h0)]
    exact j0t
  · simp only [if_neg (fun h => h0 ((empty_iff s).1 h))]
    refine ev_bind (reftext_ev hs) ?_
    have hiff : ((tx (bl s)).toList = s.toList) ↔ no0 (bl s) = true := by
      rw [← upto0_no0]
      constructor
      · intro h
        have h2 : tx (bl s) = s := by
          rw [toList_data, toList_data] at h
          apply bl_inj
          show nums8 (tx (bl s)).data.toList = nums8 s.data.toList
          rw [h]
        have h3 := congrArg bl h2
        rw [tx, bl_strOfNums (upto0_bytes (bl_bytes _))] at h3
        exact h3
      · intro h
        rw [tx, h]
        have : strOfNums (bl s) = s := bl_inj (bl_strOfNums (bl_bytes _))
        rw [this]
    cases hz : no0 (bl s) with
    | false =>
      rw [if_pos (Or.inr rfl)]
      have : ((tx (bl s)).toList != s.toList) = true := by
        rw [bne_iff_ne]
        intro h
        rw [hiff.1 h] at hz
        cases hz
      rw [this]
      exact j0t
    | true =>
      rw [if_neg (by simp [h0])]
      have : ((tx (bl s)).toList != s.toList) = false := by
        rw [bne_eq_false_iff_eq]
        exact hiff.2 hz
      rw [this]
      refine Ev.step (fun k => by rw [pannierref06_Split.j0]) ?_
      simp only [Bool.false_eq_true, if_false]
      by_cases h1 : s.size ≤ 100
      · simp only [show (s.size : Int) ≤ 100 by omega, if_true, if_pos h1]
        exact ev_some _
      · simp only [show ¬ (s.size : Int) ≤ 100 by omega, if_false, if_neg h1]
        exact refsplit_l0 hs (by omega) (s.size - 1) 1 (by omega) (by omega)
theorem splitAt_ok {s : ByteArray} : ∀ (d i : Nat), splitAt s d i = nosplit ∨ ∃ j, good s j = true ∧ j ≤ 155 ∧ splitAt s d i = (s.extract 0 j, s.extract (j + 1) s.size, true)
  | 0, _ => Or.inl rfl
  | d + 1, i => by
    rw [splitAt]
    by_cases hg : good s i = true
    · rw [if_pos hg]
      by_cases h : i ≤ 155
      · rw [if_pos h]
        exact Or.inr ⟨i, hg, h, rfl⟩
      · rw [if_neg h]
        exact Or.inl rfl
    · rw [if_neg hg]
      exact splitAt_ok d (i + 1)
theorem splitted_ok (s : ByteArray) : splitted s = nosplit ∨ (splitted s = (⟨#[]⟩, s, true) ∧ s.size ≤ 100 ∧ no0 (bl s) = true) ∨ ∃ j, good s j = true ∧ j ≤ 155 ∧ no0 (bl s) = true ∧ splitted s = (s.extract 0 j, s.extract (j + 1) s.size, true) := by
  unfold splitted
  by_cases h : s.size = 0 ∨ no0 (bl s) = false
  · rw [if_pos h]
    exact Or.inl rfl
  · rw [if_neg h]
    have hz : no0 (bl s) = true := by
      cases hz : no0 (bl s) with
      | true => rfl
      | false => exact absurd (Or.inr hz) h
    by_cases h1 : s.size ≤ 100
    · rw [if_pos h1]
      exact Or.inr (Or.inl ⟨rfl, h1, hz⟩)
    · rw [if_neg h1]
      rcases splitAt_ok (s := s) (s.size - 1) 1 with e | ⟨j, hg, hj, e⟩
      · exact Or.inl e
      · exact Or.inr (Or.inr ⟨j, hg, hj, hz, e⟩)
theorem no0_sub {l m : List Int} (h : no0 l = true) (hs : ∀ x ∈ m, x ∈ l) : no0 m = true := by
  rw [no0, List.all_eq_true] at h ⊢
  exact fun x hx => h x (hs x hx)
theorem HeadSplits : pannierlaw06_HeadSplits.Pure := by
  intro s hs
  refine Ev.rounds (r := true) ?_
  unfold pannierlaw06_HeadSplits.f
  refine ev_bind reads_ev ?_
  simp only [if_true]
  by_cases h : (s.size : Int) > 2000
  · simp only [h, if_true]
    exact ev_some _
  · simp only [h, if_false]
    refine ev_bind (split_ev (s := s) (by omega)) ?_
    refine ev_bind (refsplit_ev (s := s) (by omega)) ?_
    simp only [if_true, bne_self_eq_false]
    refine Ev.step (fun k => by rw [pannierlaw06_HeadSplits.j0]) ?_
    simp only [Bool.false_eq_true, if_false]
    have ee : (⟨#[]⟩ : ByteArray).toList = ([] : List UInt8) := by rw [toList_data]
    rcases splitted_ok s with e | ⟨e, h1, hz⟩ | ⟨j, hg, hj, hz, e⟩
    · rw [e]
      simp only [nosplit, Bool.false_eq_true, if_false]
      unfold head_Header_Full.f
      simp only [ee, if_true, Option.bind_some]
      exact ev_some _
    · rw [e]
      simp only [if_true]
      unfold head_Header_Full.f
      simp only [ee, if_true, Option.bind_some, headfits_f]
      have f1 : (decide (((⟨#[]⟩ : ByteArray).size : Int) ≤ 155) && no0 (bl (⟨#[]⟩ : ByteArray))) = true := rfl
      simp only [f1, if_true, hz, Bool.and_true]
      refine ev_eq (ev_some _) ?_
      rw [decide_eq_true_eq]
      omega
    · rw [e]
      simp only [good, Bool.and_eq_true, beq_iff_eq, decide_eq_true_eq] at hg
      obtain ⟨⟨⟨g1, g2⟩, g3⟩, g4⟩ := hg
      have z1 : (s.extract 0 j).size = j := by rw [ByteArray.size_extract]; omega
      have z2 : (s.extract (j + 1) s.size).size = s.size - (j + 1) := by rw [ByteArray.size_extract]; omega
      have x3 : (⟨#[47]⟩ : ByteArray).size = 1 := rfl
      have hne : ¬ (s.extract 0 j).toList = ([] : List UInt8) := fun hh => by
        have := (empty_iff (s.extract 0 j)).1 hh
        omega
      simp only [if_true]
      unfold head_Header_Full.f
      simp only [if_neg hne]
      rw [if_pos (show (s.extract 0 j).size + 1 ≤ 9223372036854775807 by omega), if_pos (show (s.extract 0 j ++ (⟨#[47]⟩ : ByteArray)).size + (s.extract (j + 1) s.size).size ≤ 9223372036854775807 by rw [ByteArray.size_append]; omega)]
      have hcat : s.extract 0 j ++ (⟨#[47]⟩ : ByteArray) ++ s.extract (j + 1) s.size = s := by
        apply bl_inj
        rw [bl_append, bl_append, bl_extract, bl_extract, List.drop_zero, ← bl_length s, List.take_length]
        have e47 : bl (⟨#[47]⟩ : ByteArray) = [47] := rfl
        rw [e47]
        have hlt : j < (bl s).length := by rw [bl_length]; omega
        have hb : (bl s)[j] = 47 := by
          rw [bt_bl, rd_nat, List.getD_eq_getElem?_getD, List.getElem?_eq_getElem hlt] at g1
          exact g1
        conv => rhs; rw [← List.take_append_drop j (bl s), List.drop_eq_getElem_cons hlt, hb]
        simp
      simp only [hcat, Option.bind_some, if_true, headfits_f]
      have n1 : no0 (bl (s.extract 0 j)) = true := no0_sub hz (fun x hx => by rw [bl_extract] at hx; exact List.mem_of_mem_take (List.mem_of_mem_drop hx))
      have n2 : no0 (bl (s.extract (j + 1) s.size)) = true := no0_sub hz (fun x hx => by rw [bl_extract] at hx; exact List.mem_of_mem_take (List.mem_of_mem_drop hx))
      simp only [n1, n2, Bool.and_true, show ((s.extract 0 j).size : Int) ≤ 155 by omega, decide_true, if_true, show ((s.extract (j + 1) s.size).size : Int) ≤ 100 by omega]
      exact ev_some _
end
end Go.Proofs.Ytchldbhnohicoaa.Pure
