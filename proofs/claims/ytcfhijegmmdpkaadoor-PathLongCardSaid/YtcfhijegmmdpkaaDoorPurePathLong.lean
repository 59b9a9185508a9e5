/- PathLong: a path of as many bytes as may be is taken, and a part; one byte more, and they aren't. Conditions: the library's two tables of UTF-8 as its text lays them (the card ties them). -/
import Derived.Test.YtcfhijegmmdpkaaDoorUComp
import Derived.Test.YtcfhijegmmdpkaaDoorUBytes
import Derived.Test.YtcfhijegmmdpkaaDoorXA13
namespace Go.Proofs.YtcfhijegmmdpkaaDoor.Pure
open Go.RowKit Go.Proofs.YtcfhijegmmdpkaaDoor.XA Go.Proofs.YtcfhijegmmdpkaaDoorW.PrintWords Go.Proofs.YtcfhijegmmdpkaaDoorW.PrintLast Go.Proofs.YtcfhijegmmdpkaaDoorW.PrintMore
set_option linter.unusedSimpArgs false
set_option linter.unusedVariables false

/-- a/a/a/..: so many bytes. -/
def pat : Nat → List UInt8
  | 0 => []
  | 1 => [97]
  | n + 2 => 97 :: 47 :: pat n
theorem pat_length : ∀ n, (pat n).length = n
  | 0 => rfl
  | 1 => rfl
  | n + 2 => by simp [pat, pat_length n]
theorem pat_at : ∀ n i, i < n → (pat n)[i]? = some (if i % 2 = 1 then 47 else 97)
  | 0, i, h => by omega
  | 1, i, h => by
    obtain rfl : i = 0 := by omega
    rfl
  | n + 2, 0, h => rfl
  | n + 2, 1, h => rfl
  | n + 2, i + 2, h => by
    rw [pat, List.getElem?_cons_succ, List.getElem?_cons_succ, pat_at n i (by omega), show (i + 2) % 2 = i % 2 by omega]
theorem pat_mem : ∀ n, ∀ c ∈ pat n, c = 97 ∨ c = 47
  | 0, c, h => by cases h
  | 1, c, h => .inl (List.mem_singleton.1 h)
  | n + 2, c, h => by
    rw [pat] at h
    rcases List.mem_cons.1 h with h | h
    · exact .inl h
    · rcases List.mem_cons.1 h with h | h
      · exact .inr h
      · exact pat_mem n c h
theorem pat_parts : ∀ n, ∀ p ∈ cutS (pat n), p = [97] ∨ p = []
  | 0, p, h => .inr (List.mem_singleton.1 h)
  | 1, p, h => .inl (List.mem_singleton.1 h)
  | n + 2, p, h => by
    rw [pat, cutS_cons (p := []) (r := cutS (pat n)) (by decide) (cutS_slash _)] at h
    rcases List.mem_cons.1 h with h | h
    · exact .inl h
    · exact pat_parts n p h
theorem ascii_valid {l : List UInt8} (h : ∀ b ∈ l, b.toNat < 128) : Lib.validD l = true := by
  rw [Lib.validD_ascii l.length l (fun b hb => h b (List.mem_of_mem_take hb)), List.drop_length]
  rfl
theorem bad_short : ∀ {ps : List (List UInt8)}, (∀ p ∈ ps, p = [97] ∨ p = []) → bad ps = 0
  | [], _ => rfl
  | p :: r, h => by
    rcases h p (List.mem_cons_self ..) with rfl | rfl
    · rw [bad, if_neg (by decide), if_neg (by decide)]
      exact bad_short fun q hq => h q (List.mem_cons_of_mem _ hq)
    · rw [bad, if_neg (by decide), if_neg (by decide)]
      exact bad_short fun q hq => h q (List.mem_cons_of_mem _ hq)
theorem pat_clean {n : Nat} (h0 : 1 ≤ n) : (cleanS (pat n)).2 = if n ≤ 4000 then 0 else 2 := by
  have hl := pat_length n
  have hne : pat n ≠ [] := fun e => by rw [e] at hl; simp at hl; omega
  by_cases h : n ≤ 4000
  · rw [if_pos h]
    have hs : sound (pat n) = 0 := by
      refine sound_mk hne (by omega) (fun hz => ?_) (ascii_valid fun b hb => ?_) ?_
      · rcases pat_mem n 0 hz with h | h <;> cases h
      · rcases pat_mem n b hb with rfl | rfl <;> decide
      · rw [List.getD_eq_getElem?_getD, pat_at n 0 (by omega)]; decide
    have hb : bad (names (pat n)) = 0 := bad_short fun p hp => pat_parts n p (List.mem_filter.1 hp).1
    unfold cleanS
    rw [if_pos hs, if_pos hb]
  · rw [if_neg h]
    have hs : sound (pat n) = 2 := by
      unfold sound
      rw [if_neg hne, if_pos (by omega)]
    unfold cleanS
    rw [if_neg (by omega), hs]
theorem part_clean {m : Nat} (h0 : 1 ≤ m) (h1 : m ≤ 4000) : (cleanS (List.replicate m 98)).2 = if m ≤ 255 then 0 else 2 := by
  obtain ⟨q, rfl⟩ : ∃ q, m = q + 1 := ⟨m - 1, by omega⟩
  have hm : ∀ b ∈ List.replicate (q + 1) (98 : UInt8), b = 98 := fun b hb => List.eq_of_mem_replicate hb
  have hs : sound (List.replicate (q + 1) 98) = 0 := by
    refine sound_mk (by simp) (by simpa using h1) (fun hz => by cases hm _ hz) (ascii_valid fun b hb => by rw [hm b hb]; decide) ?_
    simp [List.replicate_succ]
  have hn : names (List.replicate (q + 1) 98) = [List.replicate (q + 1) 98] := by
    unfold names
    rw [cutS_plain (fun hz => by cases hm _ hz)]
    simp [keep, List.replicate_succ]
  unfold cleanS
  rw [if_pos hs, hn]
  have hd : ¬ (List.replicate (q + 1) (98 : UInt8) = [46, 46]) := by simp [List.replicate_succ]
  by_cases h : q + 1 ≤ 255
  · have hb : bad [List.replicate (q + 1) (98 : UInt8)] = 0 := by
      rw [bad, if_neg hd, if_neg (by simp; omega), bad]
    rw [if_pos hb, if_pos h]
  · have hb : bad [List.replicate (q + 1) (98 : UInt8)] = 2 := by
      rw [bad, if_neg hd, if_pos (by simp; omega)]
    rw [if_neg (by omega), if_neg h, hb]

def nums8 (l : List UInt8) : List Int := l.map fun b => (b.toNat : Int)
theorem str_nums (l : List UInt8) : strOfNums (nums8 l) = mkS l := by
  apply bl_inj
  rw [bl_strOfNums, bl_mk]
  · rfl
  · intro x hx
    obtain ⟨b, _, rfl⟩ := List.mem_map.1 hx
    have := b.toNat_lt
    omega
/-- A row that is filled from the left. -/
def fill (P : List Int) (i : Nat) : List Int := P.take i ++ List.replicate (P.length - i) 0
theorem fill_len (P : List Int) {i : Nat} (h : i ≤ P.length) : (fill P i).length = P.length := by simp [fill]; omega
theorem fill_set {P : List Int} {i : Nat} {v : Int} (h : i < P.length) (hv : P[i]? = some v) : (fill P i).set i v = fill P (i + 1) := by
  unfold fill
  have hl : (P.take i).length = i := by rw [List.length_take]; omega
  obtain ⟨m, hm⟩ : ∃ m, P.length - i = m + 1 := ⟨P.length - i - 1, by omega⟩
  rw [hm, List.replicate_succ, List.set_append_right _ _ (by omega), hl, Nat.sub_self, List.set_cons_zero, show P.length - (i + 1) = m by omega, List.take_add_one, hv]
  simp
theorem long_l1 {a0 a1 x8 : Int} {m : Nat} (hm : 1 ≤ m) (hm2 : m ≤ 4000) (he : (m : Int) = a1) (hx : x8 = if a0 ≤ 4000 then 0 else 2) : ∀ (d i : Nat), i + d = m →
    Ev (fun k => pannierlaw10_PathLong.l1 k a0 a1 x8 (fill (nums8 (List.replicate m 98)) i) (m : Int) (i : Int)) true
  | 0, i, h => by
    obtain rfl : i = m := by omega
    have hP : (nums8 (List.replicate i 98)).length = i := by simp [nums8]
    have e : fill (nums8 (List.replicate i 98)) i = nums8 (List.replicate i 98) := by
      unfold fill
      rw [hP, Nat.sub_self, List.take_of_length_le (by omega)]
      simp
    refine Ev.step (fun k => by rw [pannierlaw10_PathLong.l1]) ?_
    simp only [Int.lt_irrefl, if_false, e, str_nums]
    refine ev_bind (clean_ev _) ?_
    simp only [mkS_data, encP, part_clean hm hm2]
    have hA : ((x8 == 0) == decide (a0 ≤ 4000)) = true := by
      by_cases h : a0 ≤ 4000
      · rw [hx, if_pos h]; simp [h]
      · rw [hx, if_neg h]; simp [h]
    have hB : ((((if i ≤ 255 then 0 else 2 : Int)) == 0) == decide (a1 ≤ 255)) = true := by
      by_cases h : i ≤ 255
      · rw [if_pos h]; simp; omega
      · rw [if_neg h]; simp; omega
    simp only [hA, hB, if_true]
    have hx2 : x8 = 0 ∨ x8 = 2 := by rw [hx]; split <;> simp
    by_cases h : i ≤ 255
    · rcases hx2 with h2 | h2
      · simp only [h2, h, if_true]; exact ev_some _
      · simp only [h2, h, if_true, show ¬ ((2 : Int) = 0) by omega, if_false]; exact ev_some _
    · rcases hx2 with h2 | h2
      · simp only [h2, h, if_true, if_false, show ¬ ((2 : Int) = 0) by omega]; exact ev_some _
      · simp only [h2, h, if_true, if_false, show ¬ ((2 : Int) = 0) by omega]; exact ev_some _
  | d + 1, i, h => by
    have hP : (nums8 (List.replicate m 98)).length = m := by simp [nums8]
    have hv : (nums8 (List.replicate m 98))[i]? = some 98 := by
      simp [nums8, show i < m by omega]
    refine Ev.step (fun k => by rw [pannierlaw10_PathLong.l1]) ?_
    simp only [show (i : Int) < (m : Int) by omega, show (0 : Int) ≤ (i : Int) by omega, if_true, fill_len _ (show i ≤ (nums8 (List.replicate m 98)).length by omega), hP, Int.toNat_natCast, fill_set (show i < (nums8 (List.replicate m 98)).length by omega) hv, wnext (i := i) (by omega)]
    exact long_l1 hm hm2 he hx d (i + 1) (by omega)
theorem long_l0 {a0 a1 : Int} {n m : Nat} (hn : 1 ≤ n) (hn2 : n ≤ 5000) (hm : 1 ≤ m) (hm2 : m ≤ 4000) (h0 : (n : Int) = a0) (h1 : (m : Int) = a1) : ∀ (d i : Nat), i + d = n →
    Ev (fun k => pannierlaw10_PathLong.l0 k a0 a1 (fill (nums8 (pat n)) i) (n : Int) (i : Int)) true
  | 0, i, h => by
    obtain rfl : i = n := by omega
    have hP : (nums8 (pat i)).length = i := by simp [nums8, pat_length]
    have e : fill (nums8 (pat i)) i = nums8 (pat i) := by
      unfold fill
      rw [hP, Nat.sub_self, List.take_of_length_le (by omega)]
      simp
    refine Ev.step (fun k => by rw [pannierlaw10_PathLong.l0]) ?_
    simp only [Int.lt_irrefl, if_false, e, str_nums]
    refine ev_bind (clean_ev _) ?_
    simp only [mkS_data, encP, pat_clean hn, ← h1, show (0 : Int) ≤ (m : Int) by omega, if_true, Int.toNat_natCast, show m ≤ 281474976710656 by omega, Option.bind_some, List.length_replicate]
    have e2 : List.replicate m (0 : Int) = fill (nums8 (List.replicate m 98)) 0 := by simp [fill, nums8]
    rw [e2]
    refine long_l1 hm hm2 rfl ?_ m 0 (by omega)
    by_cases h : i ≤ 4000
    · rw [if_pos h, if_pos (by omega)]
    · rw [if_neg h, if_neg (by omega)]
  | d + 1, i, h => by
    have hP : (nums8 (pat n)).length = n := by simp [nums8, pat_length]
    have hv := pat_at n i (by omega)
    have hf := fill_len (nums8 (pat n)) (show i ≤ (nums8 (pat n)).length by omega)
    have hi : i < (nums8 (pat n)).length := by omega
    refine Ev.step (fun k => by rw [pannierlaw10_PathLong.l0]) ?_
    simp only [show (i : Int) < (n : Int) by omega, show (0 : Int) ≤ (i : Int) by omega, if_true, hf, hP, Int.toNat_natCast, Option.bind_some, wnext (i := i) (by omega)]
    have et : Int.tmod (i : Int) 2 = ((i % 2 : Nat) : Int) := rfl
    by_cases h2 : i % 2 = 1
    · have ht : Int.tmod (i : Int) 2 = 1 := by rw [et, h2]; rfl
      rw [if_pos h2] at hv
      have hw : (nums8 (pat n))[i]? = some 47 := by simp [nums8, hv]
      simp only [if_pos ht, List.set_set, fill_set hi hw]
      exact long_l0 hn hn2 hm hm2 h0 h1 d (i + 1) (by omega)
    · have ht : ¬ (Int.tmod (i : Int) 2 = 1) := by rw [et]; omega
      rw [if_neg h2] at hv
      have hw : (nums8 (pat n))[i]? = some 97 := by simp [nums8, hv]
      simp only [if_neg ht, fill_set hi hw]
      exact long_l0 hn hn2 hm hm2 h0 h1 d (i + 1) (by omega)
theorem PathLong : pannierlaw10_PathLong.Pure := by
  intro a0 a1 _ _
  refine Ev.rounds (r := true) ?_
  unfold pannierlaw10_PathLong.f
  refine ev_bind cleans_ev ?_
  simp only [if_true]
  have away : Ev (fun k => pannierlaw10_PathLong.j0 k a0 a1 true) true := by
    refine Ev.step (fun k => by rw [pannierlaw10_PathLong.j0]) ?_
    simp only [if_true]
    exact ev_some _
  by_cases h1 : a0 < 3990
  · simp only [h1, if_true]; exact away
  by_cases h2 : a0 > 4010
  · simp only [h1, h2, if_true, if_false]; exact away
  by_cases h3 : a1 < 250
  · simp only [h1, h2, h3, if_true, if_false]; exact away
  by_cases h4 : a1 > 260
  · simp only [h1, h2, h3, h4, if_false, decide_true]; exact away
  simp only [h1, h2, h3, h4, if_false, decide_false]
  obtain ⟨n, rfl⟩ := Int.eq_ofNat_of_zero_le (show 0 ≤ a0 by omega)
  obtain ⟨m, rfl⟩ := Int.eq_ofNat_of_zero_le (show 0 ≤ a1 by omega)
  refine Ev.step (fun k => by rw [pannierlaw10_PathLong.j0]) ?_
  simp only [Bool.false_eq_true, if_false, show (0 : Int) ≤ (n : Int) by omega, if_true, Int.toNat_natCast, show n ≤ 281474976710656 by omega, Option.bind_some, List.length_replicate]
  have e2 : List.replicate n (0 : Int) = fill (nums8 (pat n)) 0 := by simp [fill, nums8, pat_length]
  rw [e2]
  exact long_l0 (by omega) (by omega) (by omega) (by omega) rfl rfl n 0 (by omega)
end Go.Proofs.YtcfhijegmmdpkaaDoor.Pure
