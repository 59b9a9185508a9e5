/- What the decoder of UTF-8 makes of a place where a byte below 128 stands, or none; how a rune from 128 on is written. -/
import Derived.Lib.MapLaws
import Derived.Test.YtnpdgmgabkoeiaaDoorEMem
namespace Go.Proofs.YtnpdgmgabkoeiaaDoor.Pure
set_option linter.unusedSimpArgs false
set_option linter.unusedVariables false

theorem dec_low (c : UInt8) (hc : c.toNat < 128) (s : ByteArray) (i : Nat) :
    (s.get! i = c → Utf8.decode s i = (c.toNat, 1)) ∧ (s.get! i ≠ c → (Utf8.decode s i).1 ≠ c.toNat ∧ ∀ j, i ≤ j → j < i + (Utf8.decode s i).2 → s.get! j ≠ c) := by
  have h0 := (s.get! i).toNat_lt
  rw [Lib.decode_at]
  have one : s.get! i ≠ c → ∀ j, i ≤ j → j < i + 1 → s.get! j ≠ c := fun h j h1 h2 => (show i = j by omega) ▸ h
  have nz : ∀ b : UInt8, 128 ≤ b.toNat → b ≠ c := fun b hb e => by rw [e] at hb; omega
  have n0 : s.get! i = c ↔ (s.get! i).toNat = c.toNat := ⟨fun h => by rw [h], fun h => UInt8.toNat_inj.1 h⟩
  rcases Lib.decodeN_shape (s.size - i) (s.get! i).toNat (s.get! (i + 1)).toNat (s.get! (i + 2)).toNat (s.get! (i + 3)).toNat with ⟨c0, e⟩ | ⟨c1, c2, c3, cv, e⟩ | ⟨c1, c2, c3, c4, cv, cs, e⟩ | ⟨c1, c2, c3, c4, c5, cv, cw, e⟩ | e
  · rw [e]
    exact ⟨fun h => by rw [n0.1 h], fun h => ⟨fun h2 => h (n0.2 h2), one h⟩⟩
  · rw [e]
    refine ⟨fun h => by rw [n0.1 h] at c1; omega, fun h => ⟨by simp only; omega, fun j h1 h2 => ?_⟩⟩
    simp only at h2
    obtain rfl | rfl : j = i ∨ j = i + 1 := by omega
    · exact h
    · exact nz _ (by omega)
  · rw [e]
    refine ⟨fun h => by rw [n0.1 h] at c1; omega, fun h => ⟨by simp only; omega, fun j h1 h2 => ?_⟩⟩
    simp only at h2
    obtain rfl | rfl | rfl : j = i ∨ j = i + 1 ∨ j = i + 2 := by omega
    · exact h
    · exact nz _ (by omega)
    · exact nz _ (by omega)
  · rw [e]
    refine ⟨fun h => by rw [n0.1 h] at c1; omega, fun h => ⟨by simp only; omega, fun j h1 h2 => ?_⟩⟩
    simp only at h2
    obtain rfl | rfl | rfl | rfl : j = i ∨ j = i + 1 ∨ j = i + 2 ∨ j = i + 3 := by omega
    · exact h
    · exact nz _ (by omega)
    · exact nz _ (by omega)
    · exact nz _ (by omega)
  · by_cases h128 : (s.get! i).toNat < 128
    · have e2 : Lib.decodeN (s.size - i) (s.get! i).toNat (s.get! (i + 1)).toNat (s.get! (i + 2)).toNat (s.get! (i + 3)).toNat = ((s.get! i).toNat, 1) := by simp [Lib.decodeN, h128]
      rw [e2]
      exact ⟨fun h => by rw [n0.1 h], fun h => ⟨fun h2 => h (n0.2 h2), one h⟩⟩
    · rw [e]
      exact ⟨fun h => by rw [n0.1 h] at h128; omega, fun h => ⟨by simp only; omega, one h⟩⟩
theorem get_data (s : ByteArray) (j : Nat) (h : j < s.size) : s.get! j = s.data.toList[j]'(by simpa using h) := by
  simp [ByteArray.get!, getElem!_pos, h]
/-- A byte of a text is one of three. -/
def sep3 (b : UInt8) : Bool := b == 61 || b == 0 || b == 10
theorem sep3_dec (s : ByteArray) (i : Nat) : (sep3 (s.get! i) = true → Utf8.decode s i = ((s.get! i).toNat, 1)) ∧
    (sep3 (s.get! i) = false → ((Utf8.decode s i).1 ≠ 61 ∧ (Utf8.decode s i).1 ≠ 0 ∧ (Utf8.decode s i).1 ≠ 10) ∧ ∀ j, i ≤ j → j < i + (Utf8.decode s i).2 → sep3 (s.get! j) = false) := by
  have a := dec_low 61 (by decide) s i
  have b := dec_low 0 (by decide) s i
  have c := dec_low 10 (by decide) s i
  constructor
  · intro h
    simp only [sep3, Bool.or_eq_true, beq_iff_eq] at h
    rcases h with (h | h) | h
    · rw [a.1 h, h]
    · rw [b.1 h, h]
    · rw [c.1 h, h]
  · intro h
    simp only [sep3, Bool.or_eq_false_iff, beq_eq_false_iff_ne] at h
    have a2 := a.2 h.1.1
    have b2 := b.2 h.1.2
    have c2 := c.2 h.2
    refine ⟨⟨a2.1, b2.1, c2.1⟩, fun j h1 h2 => ?_⟩
    simp only [sep3, Bool.or_eq_false_iff, beq_eq_false_iff_ne]
    exact ⟨⟨a2.2 j h1 h2, b2.2 j h1 h2⟩, c2.2 j h1 h2⟩
theorem sep3_any (s : ByteArray) : (∃ j, j < s.size ∧ sep3 (s.get! j) = true) ↔ ∃ b ∈ s.data.toList, sep3 b = true := by
  constructor
  · rintro ⟨j, hj, h⟩
    rw [get_data s j hj] at h
    exact ⟨_, List.getElem_mem _, h⟩
  · rintro ⟨b, hb, h⟩
    obtain ⟨j, hj, rfl⟩ := List.getElem_of_mem hb
    have hj' : j < s.size := by simpa using hj
    exact ⟨j, hj', by rw [get_data s j hj']; exact h⟩
/-- A rune from 128 on takes two to four bytes, of which the last is from 128 on. -/
theorem enc_high (r : Int) (h : 128 ≤ r) : (∃ a b : UInt8, Utf8.encode r = ⟨#[a, b]⟩ ∧ 128 ≤ b.toNat) ∨ (∃ a b c : UInt8, Utf8.encode r = ⟨#[a, b, c]⟩ ∧ 128 ≤ c.toNat) ∨ (∃ a b c d : UInt8, Utf8.encode r = ⟨#[a, b, c, d]⟩ ∧ 128 ≤ d.toNat) := by
  have hb : ∀ n : Nat, n < 64 → 128 ≤ (UInt8.ofNat (128 + n)).toNat := fun n hn => by simp [UInt8.toNat_ofNat']; omega
  obtain ⟨c, hc, h128⟩ : ∃ c : Nat, (if Utf8.valid r then r.toNat else Utf8.runeError) = c ∧ 128 ≤ c := by
    refine ⟨_, rfl, ?_⟩
    split
    · omega
    · decide
  unfold Utf8.encode
  simp only [hc]
  rw [if_neg (by omega)]
  split
  · exact .inl ⟨_, _, rfl, hb _ (Nat.mod_lt _ (by omega))⟩
  · split
    · exact .inr (.inl ⟨_, _, _, rfl, hb _ (Nat.mod_lt _ (by omega))⟩)
    · exact .inr (.inr ⟨_, _, _, _, rfl, hb _ (Nat.mod_lt _ (by omega))⟩)
end Go.Proofs.YtnpdgmgabkoeiaaDoor.Pure
