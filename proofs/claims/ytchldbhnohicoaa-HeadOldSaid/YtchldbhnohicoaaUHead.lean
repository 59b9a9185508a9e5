/- joined by merge_u.py: USum, UHead -/
import Derived.Test.YtchldbhnohicoaaUFormat
import Derived.Test.YtchldbhnohicoaaESeal
import Derived.Test.YtchldbhnohicoaaXA5
import Derived.Test.YtchldbhnohicoaaEIndex
import Derived.Test.YtchldbhnohicoaaXA6
import Derived.Test.YtchldbhnohicoaaXA8
/- Layer 5 in plain words: sums of headers, whether a header bears one of them, and what seals it. -/
namespace Go.Proofs.Ytchldbhnohicoaa.Pure
open Go.RowKit Go.Proofs.Ytchldbhnohicoaa.XA Go.Proofs.YtchldbhnohicoaaW.PrintWords Go.Proofs.YtchldbhnohicoaaW.PrintLast Go.Proofs.YtchldbhnohicoaaW.PrintMore
set_option linter.unusedSimpArgs false
set_option linter.unusedVariables false

theorem fair_of {l : List Int} (hb : Bytes l) (hl : l.length ≤ 1000000) : fair l = true := by
  simp only [fair, Bool.and_eq_true, decide_eq_true_eq, List.all_eq_true]
  exact ⟨hl, hb⟩
theorem plain_f {l : List Int} (hb : Bytes l) (hl : l.length ≤ 1000000) : sum_Plain.f l = some (total plainOne 0 l) := by
  unfold sum_Plain.f
  rw [if_pos (fair_of hb hl)]
theorem signed_f {l : List Int} (hb : Bytes l) (hl : l.length ≤ 1000000) : sum_Signed.f l = some (total signedOne 0 l) := by
  unfold sum_Signed.f
  rw [if_pos (fair_of hb hl)]
theorem seal_f {l : List Int} (hb : Bytes l) (hl : l.length = 512) : sum_Seal.f l = some (sealed l, 0) := by
  unfold sum_Seal.f
  rw [if_pos hl, if_pos (fair_of hb (by omega))]
theorem seal_f_no {l : List Int} (hl : ¬ l.length = 512) : sum_Seal.f l = some ([], 1) := by
  unfold sum_Seal.f
  rw [if_neg hl]

/-- The sum's field. -/
def field (l : List Int) : List Int := (l.take 156).drop 148
def rightB (l : List Int) : Bool := decide (l.length = 512) && ((parse (field l)).2 == 0) && ((parse (field l)).1 == total plainOne 0 l || (parse (field l)).1 == total signedOne 0 l)
theorem right_ev {l : List Int} (hb : Bytes l) (hl : l.length ≤ 1000000) : Ev (fun k => sum_Right.f k l) (rightB l) := by
  unfold sum_Right.f
  by_cases h : l.length = 512
  · simp only [show (l.length : Int) = 512 by omega, if_true, show (148 : Int) ≤ 156 by omega, show (156 : Int) ≤ 512 by omega]
    refine ev_bind (parse_ev (field l) ((hb.take _).drop _) (by simp only [field, List.length_drop, List.length_take]; omega)) ?_
    by_cases h2 : (parse (field l)).2 = 0
    · simp only [h2, if_true]
      rw [plain_f hb hl, signed_f hb hl]
      simp only [Option.bind_some]
      by_cases h3 : (parse (field l)).1 = total plainOne 0 l
      · simp only [h3, if_true]
        exact ev_eq (ev_some _) (by simp [rightB, h, h2, h3])
      · simp only [h3, if_false]
        exact ev_eq (ev_some _) (by simp [rightB, h, h2, h3])
    · simp only [h2, if_false]
      exact ev_eq (ev_some _) (by simp [rightB, h2])
  · simp only [show ¬ (l.length : Int) = 512 by omega, if_false]
    exact ev_eq (ev_some _) (by simp [rightB, h])

theorem total_append (one : Int → Int) : ∀ (a : List Int) (i : Nat) (b : List Int), total one i (a ++ b) = total one i a + total one (i + a.length) b
  | [], i, b => by simp [total]
  | x :: a, i, b => by
    simp only [List.cons_append, total, List.length_cons]
    rw [total_append one a (i + 1) b, show i + 1 + a.length = i + (a.length + 1) by omega]
    omega
theorem total_mid (one : Int → Int) : ∀ (m : List Int) (i : Nat), 148 ≤ i → i + m.length ≤ 156 → total one i m = (m.length : Int) * one 32
  | [], i, _, _ => by simp [total]
  | x :: m, i, h1, h2 => by
    simp only [List.length_cons] at h2
    simp only [total, List.length_cons]
    rw [total_mid one m (i + 1) (by omega) (by omega), blankAt, if_pos ⟨h1, by omega⟩, Int.natCast_add, Int.add_mul]
    omega
theorem total_three (one : Int → Int) (a m b : List Int) (ha : a.length = 148) (hm : m.length = 8) : total one 0 (a ++ m ++ b) = total one 0 a + 8 * one 32 + total one 156 b := by
  rw [total_append, total_append, total_mid one m (0 + a.length) (by omega) (by omega), List.length_append, ha, hm]
  rfl
theorem three (l : List Int) (hl : 156 ≤ l.length) : l = l.take 148 ++ field l ++ l.drop 156 := by
  have h1 : field l = (l.drop 148).take 8 := by
    unfold field
    rw [List.drop_take]
  rw [h1, List.append_assoc]
  conv => lhs; rw [← List.take_append_drop 148 l]
  congr 1
  conv => lhs; rw [← List.take_append_drop 8 (l.drop 148)]
  rw [List.drop_drop]
theorem field_length {l : List Int} (hl : 156 ≤ l.length) : (field l).length = 8 := by
  simp only [field, List.length_drop, List.length_take]
  omega
theorem total_swap (one : Int → Int) (l m : List Int) (hl : 156 ≤ l.length) (hm : m.length = 8) : total one 0 (l.take 148 ++ m ++ l.drop 156) = total one 0 l := by
  have h1 : (l.take 148).length = 148 := by rw [List.length_take]; omega
  rw [total_three one _ _ _ h1 hm]
  conv => rhs; rw [three l hl]
  rw [total_three one _ _ _ h1 (field_length hl)]
theorem field_swap (l m : List Int) (hl : 156 ≤ l.length) (hm : m.length = 8) : field (l.take 148 ++ m ++ l.drop 156) = m := by
  have h1 : (l.take 148).length = 148 := by rw [List.length_take]; omega
  unfold field
  rw [List.take_append_of_le_length (by rw [List.length_append]; omega), List.take_of_length_le (by rw [List.length_append]; omega), List.drop_left' h1]
theorem take_swap (l m : List Int) (hl : 156 ≤ l.length) : (l.take 148 ++ m ++ l.drop 156).take 148 = l.take 148 := by
  rw [List.append_assoc, List.take_left' (by rw [List.length_take]; omega)]
theorem drop_swap (l m : List Int) (hl : 156 ≤ l.length) (hm : m.length = 8) : (l.take 148 ++ m ++ l.drop 156).drop 156 = l.drop 156 := by
  rw [List.drop_left' (by rw [List.length_append, List.length_take]; omega)]
theorem length_swap (l m : List Int) (hl : 156 ≤ l.length) (hm : m.length = 8) : (l.take 148 ++ m ++ l.drop 156).length = l.length := by
  simp only [List.length_append, List.length_take, List.length_drop]
  omega
theorem bytes_swap {l m : List Int} (hb : Bytes l) (hm : Bytes m) : Bytes (l.take 148 ++ m ++ l.drop 156) := ((hb.take _).append hm).append (hb.drop _)

/-- Octal digits with blanks and noughts about them. -/
theorem octs_softly {n : Int} : ∀ tl : List Int, (∀ c ∈ tl, c = 0 ∨ c = 32) → octs tl n = (n, 0)
  | [], _ => rfl
  | c :: cs, h => by
    have := h c (by simp)
    simp only [octs]
    rw [if_neg (by omega)]
    simp only [trail]
    rw [if_pos]
    rw [List.all_eq_true]
    intro x hx
    have := h x hx
    simp only [Bool.or_eq_true, beq_iff_eq]
    exact this
theorem blanks_ahead (c : Int) (cs : List Int) (hc : c ≠ 32) : ∀ m : Nat, blanks (List.replicate m 32 ++ c :: cs) = octs (c :: cs) 0
  | 0 => by
    simp only [List.replicate_zero, List.nil_append, blanks]
    rw [if_neg hc]
  | m + 1 => by
    rw [List.replicate_succ, List.cons_append]
    simp only [blanks, if_true]
    exact blanks_ahead c cs hc m
theorem parse_field {n : Int} (h0 : 0 ≤ n) (h1 : n < 262144) (m : Nat) (tl : List Int) (ht : ∀ c ∈ tl, c = 0 ∨ c = 32) : parse (List.replicate m 32 ++ (oct n 6 ++ tl)) = (n, 0) := by
  have e : (8 : Int) ^ 6 = 262144 := by decide
  have key := octs_oct tl 6 n h0 (by omega) (by omega) tl
  rw [octs_softly tl ht] at key
  have hd := oct_dig 6 n
  have hl := oct_length 6 n
  cases ho : oct n 6 with
  | nil => rw [ho] at hl; simp at hl
  | cons c cs =>
    have hc := hd c (by rw [ho]; simp)
    rw [ho, List.cons_append] at key
    rw [List.cons_append]
    cases m with
    | zero =>
      rw [List.replicate_zero, List.nil_append]
      simp only [parse]
      rw [if_neg (by omega)]
      simp only [blanks]
      rw [if_neg (by omega)]
      exact key
    | succ m =>
      have hb := blanks_ahead c (cs ++ tl) (by omega) (m + 1)
      rw [List.replicate_succ, List.cons_append] at hb ⊢
      simp only [parse]
      rw [if_neg (by omega), hb]
      exact key

theorem plain_bound {l : List Int} (hb : Bytes l) (i : Nat) : 0 ≤ total plainOne i l ∧ total plainOne i l ≤ 255 * (l.length : Int) := total_plain_bound l i hb
theorem sealed_eq (l : List Int) : sealed l = l.take 148 ++ (oct (total plainOne 0 l) 6 ++ [0, 32]) ++ l.drop 156 := rfl
theorem tail_length (n : Int) : (oct n 6 ++ [0, 32]).length = 8 := by rw [List.length_append, oct_length]; rfl
theorem tail_bytes (n : Int) : Bytes (oct n 6 ++ [0, 32]) := (oct_bytes 6 n).append (by intro c hc; simp at hc; omega)
theorem sealed_length {l : List Int} (hl : l.length = 512) : (sealed l).length = 512 := by rw [sealed_eq, length_swap _ _ (by omega) (tail_length _)]; exact hl
theorem sealed_bytes {l : List Int} (hb : Bytes l) : Bytes (sealed l) := bytes_swap hb (tail_bytes _)
theorem sealed_total (one : Int → Int) {l : List Int} (hl : l.length = 512) : total one 0 (sealed l) = total one 0 l := total_swap one l _ (by omega) (tail_length _)
theorem sealed_field {l : List Int} (hb : Bytes l) (hl : l.length = 512) : parse (field (sealed l)) = (total plainOne 0 l, 0) := by
  have hp := plain_bound hb 0
  rw [hl] at hp
  rw [sealed_eq, field_swap _ _ (by omega) (tail_length _)]
  have := parse_field (n := total plainOne 0 l) hp.1 (by omega) 0 [0, 32] (by simp)
  rw [List.replicate_zero, List.nil_append] at this
  exact this
theorem sealed_right {l : List Int} (hb : Bytes l) (hl : l.length = 512) : rightB (sealed l) = true := by
  simp only [rightB, sealed_length hl, sealed_field hb hl, sealed_total plainOne hl]
  simp

/-- One byte turned, outside the sum's own. -/
theorem total_set (one : Int → Int) : ∀ (l : List Int) (i j : Nat) (v : Int), j < l.length → ¬ (148 ≤ i + j ∧ i + j < 156) → total one i (l.set j v) = total one i l + one v - one (l.getD j 0)
  | [], i, j, v, h, _ => by simp at h
  | x :: l, i, 0, v, _, ho => by
    simp only [List.set_cons_zero, total, List.getD_cons_zero, blankAt]
    rw [if_neg (by omega), if_neg (by omega)]
    omega
  | x :: l, i, j + 1, v, h, ho => by
    simp only [List.set_cons_succ, total, List.getD_cons_succ]
    rw [total_set one l (i + 1) j v (by simpa using h) (by omega)]
    omega
theorem total_set_in (one : Int → Int) : ∀ (l : List Int) (i j : Nat) (v : Int), 148 ≤ i + j → i + j < 156 → total one i (l.set j v) = total one i l
  | [], i, j, v, _, _ => by simp
  | x :: l, i, 0, v, h1, h2 => by
    simp only [List.set_cons_zero, total, blankAt]
    rw [if_pos (by omega), if_pos (by omega)]
  | x :: l, i, j + 1, v, h1, h2 => by
    simp only [List.set_cons_succ, total]
    rw [total_set_in one l (i + 1) j v (by omega) (by omega)]
theorem field_set {l : List Int} {j : Nat} (v : Int) (ho : ¬ (148 ≤ j ∧ j < 156)) : field (l.set j v) = field l := by
  unfold field
  apply List.ext_getElem?
  intro i
  rw [List.getElem?_drop, List.getElem?_drop, List.getElem?_take, List.getElem?_take]
  by_cases h : 148 + i < 156
  · rw [if_pos h, if_pos h, List.getElem?_set_ne (by omega)]
  · rw [if_neg h, if_neg h]
theorem xor_byte {a b : Int} (ha : 0 ≤ a) (ha2 : a < 256) (hb : 0 ≤ b) (hb2 : b < 256) : Go.bits .xor .u8 a b = ((a.toNat ^^^ b.toNat : Nat) : Int) := by
  obtain ⟨m, rfl⟩ := Int.eq_ofNat_of_zero_le ha
  obtain ⟨n, rfl⟩ := Int.eq_ofNat_of_zero_le hb
  have hm : (BitVec.ofInt 8 (m : Int)).toNat = m := by rw [BitVec.toNat_ofInt]; omega
  have hn : (BitVec.ofInt 8 (n : Int)).toNat = n := by rw [BitVec.toNat_ofInt]; omega
  show IntKind.u8.wrap (((BitVec.ofInt 8 (m : Int)) ^^^ (BitVec.ofInt 8 (n : Int))).toNat : Int) = _
  rw [BitVec.toNat_xor, hm, hn, IntKind.wrap_u8]
  have : m ^^^ n < 2 ^ 8 := Nat.xor_lt_two_pow (by omega) (by omega)
  simp only [Int.toNat_natCast]
  omega
theorem xor_range {a b : Int} (ha : 0 ≤ a) (ha2 : a < 256) (hb : 0 ≤ b) (hb2 : b < 256) : 0 ≤ Go.bits .xor .u8 a b ∧ Go.bits .xor .u8 a b < 256 := by
  rw [xor_byte ha ha2 hb hb2]
  have : a.toNat ^^^ b.toNat < 2 ^ 8 := Nat.xor_lt_two_pow (by omega) (by omega)
  omega
theorem xor_ne {a b : Int} (ha : 0 ≤ a) (ha2 : a < 256) (hb : 0 ≤ b) (hb2 : b < 256) (h : b ≠ 0) : Go.bits .xor .u8 a b ≠ a := by
  rw [xor_byte ha ha2 hb hb2]
  intro e
  have e2 : a.toNat ^^^ b.toNat = a.toNat := by omega
  have e3 : a.toNat ^^^ (a.toNat ^^^ b.toNat) = a.toNat ^^^ a.toNat := by rw [e2]
  rw [← Nat.xor_assoc, Nat.xor_self, Nat.zero_xor] at e3
  omega
theorem bytes_set {l : List Int} (hb : Bytes l) (j : Nat) {v : Int} (h0 : 0 ≤ v) (h1 : v < 256) : Bytes (l.set j v) := by
  intro x hx
  rcases List.mem_or_eq_of_mem_set hx with h | h
  · exact hb x h
  · subst h; exact ⟨h0, h1⟩
theorem rd_byte {l : List Int} (hb : Bytes l) {i : Int} (h0 : 0 ≤ i) (h1 : i < l.length) : 0 ≤ rd l i ∧ rd l i < 256 := by
  unfold rd
  rw [List.getD_eq_getElem?_getD, List.getElem?_eq_getElem (by omega)]
  exact hb _ (List.getElem_mem _)

/-- Each byte above 127 counts 256 less. -/
def highs : Nat → List Int → Int
  | _, [] => 0
  | i, x :: l => (if blankAt i x < 128 then 0 else 1) + highs (i + 1) l
theorem highs_pos : ∀ (l : List Int) (i : Nat), 0 ≤ highs i l
  | [], _ => by simp [highs]
  | x :: l, i => by
    have := highs_pos l (i + 1)
    simp only [highs]
    split <;> omega
theorem signed_plain : ∀ (l : List Int) (i : Nat), total signedOne i l = total plainOne i l - 256 * highs i l
  | [], _ => by simp [total, highs]
  | x :: l, i => by
    have := signed_plain l (i + 1)
    simp only [total, highs, plainOne, signedOne]
    split <;> omega
theorem signed_bound {l : List Int} (hb : Bytes l) (i : Nat) : total signedOne i l ≤ 127 * (l.length : Int) ∧ -128 * (l.length : Int) ≤ total signedOne i l := by
  induction l generalizing i with
  | nil => simp [total]
  | cons x l ih =>
    have h1 := ih hb.tail (i + 1)
    have hx := hb.head
    have h2 : 0 ≤ blankAt i x ∧ blankAt i x < 256 := by unfold blankAt; split <;> omega
    simp only [total, signedOne, List.length_cons]
    split <;> omega

theorem sealed_take {l : List Int} (hl : l.length = 512) : (sealed l).take 148 = l.take 148 := by rw [sealed_eq, take_swap _ _ (by omega)]
theorem sealed_drop {l : List Int} (hl : l.length = 512) : (sealed l).drop 156 = l.drop 156 := by rw [sealed_eq, drop_swap _ _ (by omega) (tail_length _)]
theorem rd_set {l : List Int} {n : Nat} (v : Int) (h : n < l.length) : rd (l.set n v) (n : Int) = v := by
  rw [rd_nat, List.getD_eq_getElem?_getD, List.getElem?_set_self h]
  rfl
theorem set_mid (P J : List Int) (c v : Int) (T : List Int) {n : Nat} (h : n = P.length + J.length) : (P ++ (J ++ [c]) ++ T).set n v = P ++ J ++ (v :: T) := by
  subst h
  rw [show P ++ (J ++ [c]) ++ T = (P ++ J) ++ (c :: T) by simp, List.set_append_right _ _ (by simp)]
  simp
theorem last_of {α : Type} : ∀ (J : List α) (m : Nat), J.length = m + 1 → ∃ K c, J = K ++ [c] ∧ K.length = m := by
  intro J m h
  have hn : J ≠ [] := by intro e; subst e; simp at h
  exact ⟨J.dropLast, J.getLast hn, (List.dropLast_concat_getLast hn).symm, by rw [List.length_dropLast]; omega⟩
end Go.Proofs.Ytchldbhnohicoaa.Pure

/- Layer 6 in plain words: texts up to a byte 0, what fits, and a header as a row of 512 bytes. -/
namespace Go.Proofs.Ytchldbhnohicoaa.Pure
open Go.RowKit Go.Proofs.Ytchldbhnohicoaa.XA Go.Proofs.YtchldbhnohicoaaW.PrintWords Go.Proofs.YtchldbhnohicoaaW.PrintLast Go.Proofs.YtchldbhnohicoaaW.PrintMore
set_option linter.unusedSimpArgs false
set_option linter.unusedVariables false

/-- The bytes up to the first byte 0. -/
def upto0 : List Int → List Int
  | [] => []
  | c :: cs => if c = 0 then [] else c :: upto0 cs
def no0 (l : List Int) : Bool := l.all (fun c => c != 0)
def nums8 (l : List UInt8) : List Int := l.map fun b => (b.toNat : Int)
theorem bl_nums8 (s : ByteArray) : bl s = nums8 s.data.toList := rfl
theorem index_upto : ∀ l : List UInt8, (Lib.indexByte l 0 = -1 ∧ upto0 (nums8 l) = nums8 l ∧ no0 (nums8 l) = true) ∨ (∃ o : Nat, Lib.indexByte l 0 = (o : Int) ∧ o < l.length ∧ upto0 (nums8 l) = (nums8 l).take o ∧ no0 (nums8 l) = false)
  | [] => Or.inl ⟨rfl, rfl, rfl⟩
  | b :: l => by
    by_cases h : b = 0
    · subst h
      exact Or.inr ⟨0, by simp [Lib.indexByte], by simp, by simp [nums8, upto0], by simp [nums8, no0]⟩
    · have hb : (b == 0) = false := by simpa using h
      have hn : ((b.toNat : Nat) : Int) ≠ 0 := by
        intro e
        apply h
        apply UInt8.toNat_inj.1
        have : b.toNat = 0 := by omega
        simpa using this
      rcases index_upto l with ⟨h1, h2, h3⟩ | ⟨o, h1, h2, h3, h4⟩
      · refine Or.inl ⟨by simp [Lib.indexByte, hb, h1], ?_, ?_⟩
        · show upto0 (((b.toNat : Nat) : Int) :: nums8 l) = ((b.toNat : Nat) : Int) :: nums8 l
          rw [upto0, if_neg hn, h2]
        · show no0 (((b.toNat : Nat) : Int) :: nums8 l) = true
          simp only [no0, List.all_cons] at h3 ⊢
          rw [h3]
          simpa using hn
      · refine Or.inr ⟨o + 1, ?_, by simpa using h2, ?_, ?_⟩
        · simp only [Lib.indexByte, hb, h1]
          have : ((o : Int) == -1) = false := by simp
          simp only [this, Bool.false_eq_true, if_false]
          omega
        · show upto0 (((b.toNat : Nat) : Int) :: nums8 l) = (((b.toNat : Nat) : Int) :: nums8 l).take (o + 1)
          rw [upto0, if_neg hn, h3, List.take_succ_cons]
        · show no0 (((b.toNat : Nat) : Int) :: nums8 l) = false
          simp only [no0, List.all_cons] at h4 ⊢
          rw [h4, Bool.and_false]
theorem bl_extract (s : ByteArray) (i j : Nat) : bl (s.extract i j) = ((bl s).take j).drop i := by
  simp only [bl, ByteArray.data_extract, Array.toList_extract, List.extract_eq_take_drop, List.map_take, List.map_drop, List.drop_take]
theorem index_f (s : ByteArray) : stringslite_Index.f s (⟨#[0]⟩ : ByteArray) = some (Lib.indexByte s.data.toList 0) := rfl
theorem cut_text (s : ByteArray) (hs : s.size ≤ 1000000) : ∃ t u ok, strings_Cut.f s (⟨#[0]⟩ : ByteArray) = some (t, u, ok) ∧ bl t = upto0 (bl s) := by
  have hlen : s.data.toList.length = s.size := by rw [Array.length_toList]; rfl
  unfold strings_Cut.f stringslite_Cut.f
  rw [index_f, bl_nums8 s]
  have h1 : ((⟨#[0]⟩ : ByteArray).size : Int) = 1 := rfl
  rcases index_upto s.data.toList with ⟨h, h2, _⟩ | ⟨o, h, h2, h3, _⟩
  · rw [h]
    simp only [Option.bind_some, show ¬ ((-1 : Int) ≥ 0) by omega, if_false]
    exact ⟨_, _, _, rfl, by rw [h2]; rfl⟩
  · rw [h]
    simp only [Option.bind_some, h1, show ((o : Int) ≥ 0) by omega, show (0 : Int) ≤ (o : Int) by omega, show (o : Int) ≤ (s.size : Int) by omega, w64 (x := (o : Int) + 1) (by omega) (by omega), show (0 : Int) ≤ (o : Int) + 1 by omega, show (o : Int) + 1 ≤ (s.size : Int) by omega, if_true, Int.toNat_natCast]
    refine ⟨_, _, _, rfl, ?_⟩
    rw [h3, bl_extract]
    rfl
theorem text_f {l : List Int} (hb : Bytes l) (hl : l.length ≤ 1000000) : ∃ t, head_text.f l = some t ∧ bl t = upto0 l := by
  obtain ⟨t, u, ok, h, ht⟩ := cut_text (strOfNums l) (by rw [strOfNums_size]; exact hl)
  refine ⟨t, ?_, by rw [ht, bl_strOfNums hb]⟩
  unfold head_text.f
  rw [h]
  rfl
theorem contains_f (s : ByteArray) : strings_Contains.f s (⟨#[0]⟩ : ByteArray) = some (!no0 (bl s)) := by
  unfold strings_Contains.f strings_Index.f
  rw [index_f, bl_nums8 s]
  rcases index_upto s.data.toList with ⟨h, _, h2⟩ | ⟨o, h, _, _, h2⟩
  · rw [h, h2]; rfl
  · rw [h, h2]
    simp only [Option.bind_some, show ((o : Int) ≥ 0) by omega, decide_true, Bool.not_false]
theorem headfits_f (s : ByteArray) (n : Int) : head_Fits.f s n = some (decide ((s.size : Int) ≤ n) && no0 (bl s)) := by
  unfold head_Fits.f
  by_cases h : (s.size : Int) ≤ n
  · simp only [h, if_true, contains_f, Option.bind_some, Bool.not_not, decide_true, Bool.true_and]
  · simp only [h, if_false, decide_false, Bool.false_and]
theorem upto0_no0 : ∀ l : List Int, (upto0 l = l ↔ no0 l = true)
  | [] => by simp [upto0, no0]
  | c :: cs => by
    have ih := upto0_no0 cs
    simp only [upto0, no0, List.all_cons] at ih ⊢
    by_cases h : c = 0
    · subst h; simp
    · rw [if_neg h]
      simp only [List.cons.injEq, true_and, Bool.and_eq_true, bne_iff_ne, ne_eq, h, not_false_eq_true]
      exact ih
theorem upto0_append_zero : ∀ (l r : List Int), no0 l = true → upto0 (l ++ 0 :: r) = l
  | [], r, _ => by simp [upto0]
  | c :: cs, r, h => by
    simp only [no0, List.all_cons, Bool.and_eq_true, bne_iff_ne, ne_eq] at h
    rw [List.cons_append, upto0, if_neg h.1, upto0_append_zero cs r h.2]
theorem upto0_zeros {l : List Int} (h : no0 l = true) (n : Nat) : upto0 (l ++ List.replicate n 0) = l := by
  cases n with
  | zero => rw [List.replicate_zero, List.append_nil]; exact (upto0_no0 l).2 h
  | succ n => rw [List.replicate_succ]; exact upto0_append_zero l _ h
end Go.Proofs.Ytchldbhnohicoaa.Pure
