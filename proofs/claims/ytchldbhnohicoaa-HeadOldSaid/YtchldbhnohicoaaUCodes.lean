/- joined by merge_u.py: UReads, UCodes -/
import Derived.Test.YtchldbhnohicoaaUHolds
import Derived.Test.YtchldbhnohicoaaXA7
import Derived.Test.YtchldbhnohicoaaXA9
/- Blank blocks; the law's own example; what a header that is none is told as. -/
namespace Go.Proofs.Ytchldbhnohicoaa.Pure
open Go.RowKit Go.Proofs.Ytchldbhnohicoaa.XA Go.Proofs.YtchldbhnohicoaaW.PrintWords Go.Proofs.YtchldbhnohicoaaW.PrintLast Go.Proofs.YtchldbhnohicoaaW.PrintMore
set_option linter.unusedSimpArgs false
set_option linter.unusedVariables false

def zeroB (l : List Int) : Bool := l.all (fun c => c == 0)
def blankB (l : List Int) : Bool := zeroB l && decide (l.length = 512)
theorem blank_l0 {l : List Int} (hl : l.length ≤ 1000000) : ∀ (rest : List Int) (i : Nat), l.drop i = rest → Ev (fun k => head_Blank.l0 k l l (l.length : Int) (i : Int)) (zeroB rest && decide (l.length = 512))
  | [], i, h => by
    have := drop_ge h
    refine Ev.step (fun k => by rw [head_Blank.l0]) ?_
    simp only [show ¬ ((i : Int) < (l.length : Int)) by omega, if_false]
    refine ev_eq (ev_some _) ?_
    simp only [zeroB, List.all_nil, Bool.true_and]
    by_cases h5 : l.length = 512
    · simp [h5]
    · rw [decide_eq_false h5]
      simp only [beq_eq_false_iff_ne, ne_eq]
      omega
  | c :: cs, i, h => by
    have hlt := drop_lt h
    refine Ev.step (fun k => by rw [head_Blank.l0]) ?_
    simp only [show (i : Int) < (l.length : Int) by omega, show (0 : Int) ≤ (i : Int) by omega, if_true, rd_drop h, wnext (i := i) (by omega)]
    by_cases hc : c = 0
    · simp only [if_pos hc]
      refine ev_eq (blank_l0 hl cs (i + 1) (drop_next h)) ?_
      simp [zeroB, hc]
    · simp only [if_neg hc]
      refine ev_eq (ev_some _) ?_
      simp [zeroB, hc]
theorem blank_ev {l : List Int} (hl : l.length ≤ 1000000) : Ev (fun k => head_Blank.f k l) (blankB l) := by
  unfold head_Blank.f blankB
  exact blank_l0 hl l 0 rfl
theorem zeroB_rd {l : List Int} (h : zeroB l = true) (i : Int) : rd l i = 0 := by
  unfold rd
  rw [List.getD_eq_getElem?_getD]
  cases hx : l[i.toNat]? with
  | none => rfl
  | some x =>
    have hm := List.mem_of_getElem? hx
    rw [zeroB, List.all_eq_true] at h
    have := h x hm
    simp only [beq_iff_eq] at this
    simp [this]
theorem fits_of {n : Int} {w : Nat} (h0 : 0 ≤ n) (hw : 2 ≤ w) (h : n < 8 ^ (w - 1)) : fits n w = true := by
  have := (digs_le (w - 2) n h0).2 (by rw [show w - 2 + 1 = w - 1 by omega]; exact h)
  simp only [fits, decide_eq_true_eq]
  omega
theorem reads_ev : Ev (fun k => pannierlaw06_reads.f k) true := by
  unfold pannierlaw06_reads.f
  have ht : textsFit (⟨#[97]⟩ : ByteArray) (⟨#[]⟩ : ByteArray) (⟨#[]⟩ : ByteArray) (⟨#[]⟩ : ByteArray) (⟨#[]⟩ : ByteArray) = true := by decide
  have hn : numsFit 420 0 0 5 0 = true := by
    have h1 : fits 420 8 = true := fits_of (w := 8) (by omega) (by omega) (by decide)
    have h2 : fits 0 8 = true := fits_of (w := 8) (by omega) (by omega) (by decide)
    have h3 : fits 5 12 = true := fits_of (w := 12) (by omega) (by omega) (by decide)
    have h4 : fits 0 12 = true := fits_of (w := 12) (by omega) (by omega) (by decide)
    simp only [numsFit, h1, h2, h3, h4, Bool.and_self]
  have hs := textsFit_sizes ht
  refine ev_bind (encode_ev (a0 := 0) (a1 := ⟨#[97]⟩) (a2 := ⟨#[]⟩) (a3 := ⟨#[]⟩) (a4 := ⟨#[]⟩) (a5 := ⟨#[]⟩) (a6 := 48) (a7 := 420) (a8 := 0) (a9 := 0) (a10 := 5) (a11 := 0) (by omega) (by omega) (by omega) (by omega) (by omega) (by omega)) ?_
  rw [encoded_yes ht hn]
  have hh := bare_holds (a6 := 48) (a7 := 420) (a8 := 0) (a9 := 0) (a10 := 5) (a11 := 0) hs.1 hs.2.1 hs.2.2.1 hs.2.2.2.1 hs.2.2.2.2 (by omega)
  have hS := hh.sealed
  have hR := sealed_right hh.bytes hh.len
  have hD := dec_holds hS hR ht hn (by omega) (by omega) (by omega) (by omega) (by omega)
  generalize sealed (bareRow (⟨#[97]⟩ : ByteArray) (⟨#[]⟩ : ByteArray) (⟨#[]⟩ : ByteArray) (⟨#[]⟩ : ByteArray) (⟨#[]⟩ : ByteArray) 48 420 0 0 5 0) = L at *
  refine ev_bind (decode_ev hS.bytes (by rw [hS.len]; omega)) ?_
  rw [hD]
  have hf : formOf [117, 115, 116, 97, 114, 0, 48, 48] = 1 := rfl
  have hw : wrap64 (0 + 0) = 0 := w64 (x := 0 + 0) (by omega) (by omega)
  have h97 : (⟨#[97]⟩ : ByteArray).toList = ([97] : List UInt8) := by rw [toList_data]
  simp only [hf, hw, h97, hS.len, if_true, show ((512 : Nat) : Int) = 512 from rfl, show ((1 : Nat) : Int) = 1 from rfl]
  refine ev_bind (blank_ev (l := L) (by rw [hS.len]; omega)) ?_
  have hz : blankB L = false := by
    cases hb : blankB L with
    | false => rfl
    | true =>
      simp only [blankB, Bool.and_eq_true] at hb
      have h1 := zeroB_rd hb.1 257
      have h2 := hS.h_magic
      have h3 := rd_drop (l := L.take 265) (i := 257) h2
      unfold rd at h1 h3
      rw [List.getD_eq_getElem?_getD] at h1 h3
      rw [List.getElem?_take, if_pos (by decide)] at h3
      have h4 : (0 : Int) = 117 := h1.symm.trans h3
      exact absurd h4 (by decide)
  simp only [hz, Bool.false_eq_true, if_false, show (512 : Nat) ≤ 281474976710656 by omega, if_true]
  refine ev_bind (blank_ev (l := List.replicate 512 0) (by rw [List.length_replicate]; omega)) ?_
  refine ev_eq (ev_some _) ?_
  have hz2 : zeroB (List.replicate 512 (0 : Int)) = true := by
    rw [zeroB, List.all_eq_true]
    intro x hx
    rw [List.eq_of_mem_replicate hx]
    rfl
  rw [blankB, List.length_replicate, hz2]
  rfl
end Go.Proofs.Ytchldbhnohicoaa.Pure

/- What a block that is no header is told as. -/
namespace Go.Proofs.Ytchldbhnohicoaa.Pure
open Go.RowKit Go.Proofs.Ytchldbhnohicoaa.XA Go.Proofs.YtchldbhnohicoaaW.PrintWords Go.Proofs.YtchldbhnohicoaaW.PrintLast Go.Proofs.YtchldbhnohicoaaW.PrintMore
set_option linter.unusedSimpArgs false
set_option linter.unusedVariables false

def dcode (r : DR) : Int := r.2.2.2.2.2.2.2.2.2.2.2.2
def C2 (r : Int × Int) : Prop := r.2 = 0 ∨ r.2 = 20
theorem C2_ite {c : Prop} [Decidable c] {a b : Int × Int} (ha : C2 a) (hb : C2 b) : C2 (if c then a else b) := by split <;> assumption
theorem trail_code (l : List Int) (acc : Int) : C2 (trail l acc) := by
  unfold trail
  exact C2_ite (Or.inl rfl) (Or.inr rfl)
theorem octs_code : ∀ (l : List Int) (acc : Int), C2 (octs l acc)
  | [], acc => by simp only [octs]; exact Or.inl rfl
  | c :: cs, acc => by
    simp only [octs]
    repeat' (first | exact octs_code cs _ | exact trail_code _ _ | exact Or.inl rfl | exact Or.inr rfl | refine C2_ite ?_ ?_)
theorem blanks_code : ∀ l : List Int, C2 (blanks l)
  | [] => by simp only [blanks]; exact Or.inl rfl
  | c :: cs => by
    simp only [blanks]
    repeat' (first | exact blanks_code cs | exact octs_code _ _ | exact Or.inl rfl | exact Or.inr rfl | refine C2_ite ?_ ?_)
theorem binf_code : ∀ (n : Int) (l : List Int), C2 (binf n l)
  | n, [] => by simp only [binf]; exact Or.inl rfl
  | n, c :: cs => by
    simp only [binf]
    repeat' (first | exact binf_code _ cs | exact Or.inl rfl | exact Or.inr rfl | refine C2_ite ?_ ?_)
theorem parse_code (l : List Int) : C2 (parse l) := by
  cases l with
  | nil => simp only [parse]; first | exact Or.inl rfl | exact blanks_code _
  | cons c cs =>
    simp only [parse, binp]
    repeat' (first | exact binf_code _ _ | exact blanks_code _ | exact Or.inl rfl | exact Or.inr rfl | refine C2_ite ?_ ?_)
theorem dnums_code (l : List Int) : ∀ n i ns, (dnums l n i ns).2 = 0 ∨ (dnums l n i ns).2 = 20
  | 0, _, _ => Or.inl rfl
  | n + 1, i, ns => by
    rw [dnums]
    split
    · exact dnums_code l n _ _
    · exact parse_code _
theorem dec_code (l : List Int) : (l.length ≠ 512 ∧ dec l = dbad 1) ∨ (l.length = 512 ∧ rightB l = false ∧ dec l = dbad 50) ∨ (l.length = 512 ∧ rightB l = true ∧ (dcode (dec l) = 0 ∨ dcode (dec l) = 20)) := by
  unfold dec
  by_cases h : l.length = 512
  · rw [if_pos h]
    cases hr : rightB l with
    | false => exact Or.inr (Or.inl ⟨h, rfl, by simp⟩)
    | true =>
      refine Or.inr (Or.inr ⟨h, rfl, ?_⟩)
      rw [if_pos rfl, dbody]
      rcases dnums_code l 5 0 [0, 0, 0, 0, 0] with hd | hd
      · rw [if_pos hd]; exact Or.inl rfl
      · rw [if_neg (by rw [hd]; decide), hd]; exact Or.inr rfl
  · rw [if_neg h]
    exact Or.inl ⟨h, rfl⟩
set_option maxRecDepth 100000 in
theorem right_zeros : rightB (List.replicate 512 (0 : Int)) = false := by decide +kernel
theorem blank_right {l : List Int} (h : blankB l = true) : rightB l = false := by
  simp only [blankB, zeroB, Bool.and_eq_true, decide_eq_true_eq, List.all_eq_true, beq_iff_eq] at h
  have : l = List.replicate 512 0 := List.eq_replicate_iff.2 ⟨h.2, h.1⟩
  rw [this]
  exact right_zeros
end Go.Proofs.Ytchldbhnohicoaa.Pure
