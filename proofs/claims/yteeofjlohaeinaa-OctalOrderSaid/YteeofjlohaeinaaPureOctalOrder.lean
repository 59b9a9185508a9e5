/- OctalOrder: of two numbers in fields of one width the greater one stands behind, byte by byte. No conditions. -/
import Derived.Test.YteeofjlohaeinaaUFormat
import Derived.Test.YteeofjlohaeinaaXA7
namespace Go.Proofs.Yteeofjlohaeinaa.Pure
open Go.RowKit Go.Proofs.Yteeofjlohaeinaa.XA Go.Proofs.YteeofjlohaeinaaW.PrintWords Go.Proofs.YteeofjlohaeinaaW.PrintLast Go.Proofs.YteeofjlohaeinaaW.PrintMore

def u8s (l : List Int) : List UInt8 := l.map fun n => UInt8.ofNat n.toNat
theorem less_snoc : ∀ (x y : List UInt8) (a b : UInt8), x.length = y.length → Op.bytesLess (x ++ [a]) (y ++ [b]) = (Op.bytesLess x y || (x == y && decide (a < b)))
  | [], [], a, b, _ => by simp [Op.bytesLess]
  | c :: x, d :: y, a, b, h => by
    have ih := less_snoc x y a b (by simpa using h)
    simp only [List.cons_append, Op.bytesLess, ih]
    rw [List.cons_beq_cons]
    cases decide (c < d) <;> cases (c == d) <;> simp
theorem dig_lt {a b : Int} (ha : 0 ≤ a) (ha7 : a ≤ 7) (hb : 0 ≤ b) (hb7 : b ≤ 7) : (UInt8.ofNat (48 + a).toNat < UInt8.ofNat (48 + b).toNat) ↔ a < b := by
  rw [UInt8.lt_iff_toNat_lt, UInt8.toNat_ofNat_of_lt' (by show _ < 256; omega), UInt8.toNat_ofNat_of_lt' (by show _ < 256; omega)]
  omega
theorem dig_eq {a b : Int} (ha : 0 ≤ a) (ha7 : a ≤ 7) (hb : 0 ≤ b) (hb7 : b ≤ 7) : (UInt8.ofNat (48 + a).toNat = UInt8.ofNat (48 + b).toNat) ↔ a = b := by
  rw [← UInt8.toNat_inj, UInt8.toNat_ofNat_of_lt' (by show _ < 256; omega), UInt8.toNat_ofNat_of_lt' (by show _ < 256; omega)]
  omega
theorem strOfNums_u8s (l : List Int) : (strOfNums l).toList = u8s l := by rw [toList_data]; rfl
theorem u8s_append (x y : List Int) : u8s (x ++ y) = u8s x ++ u8s y := List.map_append ..
theorem oct_order : ∀ (m : Nat) (a b : Int), 0 ≤ a → 0 ≤ b → a < 8 ^ m → b < 8 ^ m → (Op.bytesLess (u8s (oct a m)) (u8s (oct b m)) = decide (a < b)) ∧ (u8s (oct a m) = u8s (oct b m) ↔ a = b)
  | 0, a, b, ha, hb, h1, h2 => by
    have e : (8 : Int) ^ 0 = 1 := by decide
    have : a = 0 := by omega
    have : b = 0 := by omega
    subst a b
    simp [oct, u8s, Op.bytesLess]
  | m + 1, a, b, ha, hb, h1, h2 => by
    have e : (8 : Int) ^ (m + 1) = 8 ^ m * 8 := Int.pow_succ ..
    obtain ⟨i1, i2⟩ := oct_order m (a / 8) (b / 8) (by omega) (by omega) (by omega) (by omega)
    have hl : (u8s (oct (a / 8) m)).length = (u8s (oct (b / 8) m)).length := by simp [u8s, oct_length]
    have d1 := dig_lt (a := a % 8) (b := b % 8) (by omega) (by omega) (by omega) (by omega)
    have d2 := dig_eq (a := a % 8) (b := b % 8) (by omega) (by omega) (by omega) (by omega)
    simp only [oct, u8s_append]
    simp only [u8s, List.map_cons, List.map_nil] at i1 i2 hl ⊢
    constructor
    · rw [less_snoc _ _ _ _ hl, i1, Bool.eq_iff_iff]
      simp only [Bool.or_eq_true, Bool.and_eq_true, decide_eq_true_eq, beq_iff_eq, i2, d1]
      omega
    · constructor
      · intro h
        obtain ⟨h3, h4⟩ := List.append_inj h hl
        have h5 := i2.1 h3
        have h6 := d2.1 (by simpa using h4)
        omega
      · rintro rfl
        rfl
theorem OctalOrder : pannierlaw02_OctalOrder.Pure := by
  intro a b ha hb
  have ha := i64_wf ha
  have hb := i64_wf hb
  refine Ev.rounds (r := true) ?_
  unfold pannierlaw02_OctalOrder.f pannierlaw02_reads.f
  simp only [Option.bind_some, if_true]
  refine ev_bind (format_ev (w := 24) ha.1 ha.2) ?_
  refine ev_bind (format_ev (w := 24) hb.1 hb.2) ?_
  have good : ∀ n : Int, 0 ≤ n → n ≤ 9223372036854775807 → fmt n 24 = (oct n 23 ++ [0], 0) := fun n h0 h1 => by
    have h21 := digs_le21 h0 (by omega)
    rw [fmt, if_neg (by omega), if_pos (by simp only [fits, decide_eq_true_eq]; omega)]
    rfl
  have bad : ∀ n : Int, n < 0 → fmt n 24 = ([], 20) := fun n h0 => by
    rw [fmt, if_neg (by omega), if_neg (by simp only [fits, decide_eq_true_eq]; omega)]
  by_cases ha0 : a < 0
  · rw [bad a ha0]
    simp only [ha0, if_true, show ¬ ((20 : Int) = 0) by omega, if_false]
    exact ev_some _
  · rw [good a (by omega) ha.2]
    by_cases hb0 : b < 0
    · rw [bad b hb0]
      simp only [ha0, hb0, if_true, show ¬ ((20 : Int) = 0) by omega, if_false, decide_true]
      exact ev_some _
    · rw [good b (by omega) hb.2]
      simp only [ha0, hb0, if_true, if_false]
      have e : (8 : Int) ^ 23 = 590295810358705651712 := by decide
      obtain ⟨i1, i2⟩ := oct_order 23 a b (by omega) (by omega) (by omega) (by omega)
      have hl : (u8s (oct a 23)).length = (u8s (oct b 23)).length := by simp [u8s, oct_length]
      have key : Op.bytesLess (strOfNums (oct a 23 ++ [0])).toList (strOfNums (oct b 23 ++ [0])).toList = decide (a < b) := by
        rw [strOfNums_u8s, strOfNums_u8s, u8s_append, u8s_append, show u8s [0] = [0] from rfl, less_snoc _ _ _ _ hl, i1]
        simp
      rw [key]
      exact ev_eq (ev_some _) (by simp)
end Go.Proofs.Yteeofjlohaeinaa.Pure
