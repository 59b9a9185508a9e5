/- The two sums of a header's bytes: what sum.Plain and sum.Signed answer. -/
import Derived.Test.YtchldbhnohicoaaXA0
import Derived.WalkLawsBesides
namespace Go.Proofs.Ytchldbhnohicoaa.XA
open Go.RowKit Go.Proofs.YtchldbhnohicoaaW.PrintWords Go.Proofs.YtchldbhnohicoaaW.PrintLast Go.Proofs.YtchldbhnohicoaaW.PrintMore
set_option linter.unusedVariables false
set_option linter.unusedSimpArgs false

/-- Bytes in a slice: a list of numbers from 0 to 255, not too long. -/
def fair (l : List Int) : Bool := decide (l.length ≤ 1000000) && l.all (fun x => decide (0 ≤ x) && decide (x < 256))
def blankAt (i : Nat) (c : Int) : Int := if 148 ≤ i ∧ i < 156 then 32 else c
def total (one : Int → Int) : Nat → List Int → Int
  | _, [] => 0
  | i, c :: cs => one (blankAt i c) + total one (i + 1) cs
def plainOne (c : Int) : Int := c
def signedOne (c : Int) : Int := if c < 128 then c else c - 256
def sum_Plain.f (l : List Int) : Option Int := if fair l then some (total plainOne 0 l) else none
def sum_Signed.f (l : List Int) : Option Int := if fair l then some (total signedOne 0 l) else none

theorem fair_get {l : List Int} (h : fair l = true) (i : Nat) (hi : i < l.length) : 0 ≤ l.getD i 0 ∧ l.getD i 0 < 256 := by
  simp only [fair, Bool.and_eq_true, decide_eq_true_eq, List.all_eq_true] at h
  have := h.2 (l.getD i 0) (by rw [List.getD_eq_getElem?_getD, List.getElem?_eq_getElem hi]; exact List.getElem_mem hi)
  exact this
theorem fair_len {l : List Int} (h : fair l = true) : l.length ≤ 1000000 := by
  simp only [fair, Bool.and_eq_true, decide_eq_true_eq] at h
  exact h.1

theorem plainOne_bound (x : Int) (h0 : 0 ≤ x) (h1 : x < 256) : -256 ≤ plainOne x ∧ plainOne x ≤ 256 := by unfold plainOne; omega
theorem signedOne_bound (x : Int) (h0 : 0 ≤ x) (h1 : x < 256) : -256 ≤ signedOne x ∧ signedOne x ≤ 256 := by unfold signedOne; split <;> omega
theorem rd_natCast (l : List Int) (i : Nat) : rd l (i : Int) = l.getD i 0 := by simp [rd]

theorem plainOne_calls (x : Int) (w : World) (h0 : 0 ≤ x) (h1 : x < 256) : Calls Try.prog 43 #[.int .u8 x] w fun e w' => e = .returned (.int .i64 (plainOne x)) ∧ w' = w := by
  go_enter Try.func43, Try.ntmps43
  go_wp2
  go_ret
  exact ⟨rfl, rfl⟩
set_option maxHeartbeats 1000000 in
set_option maxRecDepth 100000 in
theorem each_plainOne (A0 : Option Addr) (c0 : Nat) (l0 : List Int) (w : World) (hr0 : Kd.C (Kd.int .u8) w A0 l0.length l0) (hf : fair l0 = true) :
    Calls Try.prog 42 #[.slice A0 l0.length c0, .func (.func 43) #[] #[]] w fun e w' => e = .returned (.int .i64 (total plainOne 0 l0)) ∧ w' = w := by
  have hlen := fair_len hf
  have HR := Aside0.mk hr0
  have HF := Aside0.mk hf
  clear hr0 hf
  go_enter Try.func42, Try.ntmps42
  go_wp2_with fail
  go_loop [5, 10] (fun n i => ∃ (k : Nat) (s : Int), k ≤ l0.length ∧ i = .int .i64 k ∧ n = .int .i64 s ∧ -256 * (k : Int) ≤ s ∧ s ≤ 256 * (k : Int) ∧ Aside0 (s + total plainOne k (l0.drop k) = total plainOne 0 l0)) (fun _ i => l0.length - (intOf i).toNat)
  case atStart => exact ⟨0, 0, Nat.zero_le _, rfl, rfl, by omega, by omega, ⟨by simp⟩⟩
  case round =>
    obtain ⟨k, s, hk, rfl, rfl, hs0, hs1, HT⟩ := hrel
    by_cases hlt : k < l0.length
    · obtain ⟨hb0, hb1⟩ := fair_get HF.out k hlt
      have hd : l0.drop k = l0.getD k 0 :: l0.drop (k + 1) := by
        rw [List.drop_eq_getElem_cons hlt, List.getD_eq_getElem?_getD, List.getElem?_eq_getElem hlt]
        rfl
      have HT2 : Aside0 (s + (plainOne (blankAt k (l0.getD k 0)) + total plainOne (k + 1) (l0.drop (k + 1))) = total plainOne 0 l0) := ⟨by have := HT.out; rw [hd] at this; exact this⟩
      obtain ⟨ad, e, hx⟩ := Kd.at_int HR.out (k : Int) (by omega) (by omega)
      cases e
      rw [rd_natCast] at hx
      rw [Int.toNat_natCast] at hx
      obtain ⟨x, hxe⟩ : ∃ x, x = l0.getD k 0 := ⟨_, rfl⟩
      rw [← hxe] at hx hb0 hb1 HT2
      have HX := Aside0.mk hxe
      clear hxe HT hd
      by_cases h148 : 148 ≤ k
      · by_cases h156 : k < 156
        · have e1 : blankAt k x = 32 := by unfold blankAt; rw [if_pos ⟨h148, h156⟩]
          have HB := plainOne_bound 32 (by omega) (by omega)
          have HT3 : Aside0 (s + plainOne 32 + total plainOne (k + 1) (l0.drop (k + 1)) = total plainOne 0 l0) := ⟨by have := HT2.out; rw [e1] at this; omega⟩
          clear HT2 e1
          go_wp2_with (first | (go_at_call 43; refine (plainOne_calls 32 _ (by omega) (by omega)).mono ?_; rintro e w' ⟨rfl, rfl⟩))
          all_goals
            go_round
            case rel => exact ⟨k + 1, s + plainOne 32, by omega, by go_num, by go_num, by omega, by omega, HT3⟩
            case measure => simp [intOf]; omega
        · have e1 : blankAt k x = x := by unfold blankAt; rw [if_neg (by omega)]
          have HB := plainOne_bound x hb0 hb1
          have HT3 : Aside0 (s + plainOne x + total plainOne (k + 1) (l0.drop (k + 1)) = total plainOne 0 l0) := ⟨by have := HT2.out; rw [e1] at this; omega⟩
          clear HT2 e1
          go_wp2_with (first | (go_at_call 43; refine (plainOne_calls x _ hb0 hb1).mono ?_; rintro e w' ⟨rfl, rfl⟩))
          all_goals
            go_round
            case rel => exact ⟨k + 1, s + plainOne x, by omega, by go_num, by go_num, by omega, by omega, HT3⟩
            case measure => simp [intOf]; omega
      · have e1 : blankAt k x = x := by unfold blankAt; rw [if_neg (by omega)]
        have HB := plainOne_bound x hb0 hb1
        have HT3 : Aside0 (s + plainOne x + total plainOne (k + 1) (l0.drop (k + 1)) = total plainOne 0 l0) := ⟨by have := HT2.out; rw [e1] at this; omega⟩
        clear HT2 e1
        go_wp2_with (first | (go_at_call 43; refine (plainOne_calls x _ hb0 hb1).mono ?_; rintro e w' ⟨rfl, rfl⟩))
        all_goals
          go_round
          case rel => exact ⟨k + 1, s + plainOne x, by omega, by go_num, by go_num, by omega, by omega, HT3⟩
          case measure => simp [intOf]; omega
    · obtain rfl : k = l0.length := by omega
      have hs : s = total plainOne 0 l0 := by
        have := HT.out
        rw [List.drop_length] at this
        simp only [total] at this
        omega
      go_wp2
      go_ret
      exact ⟨by rw [← hs]; rfl, rfl⟩
theorem sum_Plain.calls (A0 : Option Addr) (c0 : Nat) (l0 : List Int) (r : Int) (w : World) (hr0 : Kd.C (Kd.int .u8) w A0 l0.length l0) (hc0 : l0.length ≤ c0) (h : sum_Plain.f l0 = some r) :
    Calls Try.prog 32 #[.slice A0 l0.length c0] w fun e w' => e = .returned (.int .i64 r) ∧ Drawn0 w w' := by
  have hf : fair l0 = true := by
    unfold sum_Plain.f at h
    split at h
    · assumption
    · cases h
  have hr : r = total plainOne 0 l0 := by
    unfold sum_Plain.f at h
    rw [if_pos hf] at h
    exact (Option.some.inj h).symm
  have HH := Aside0.mk hr
  clear h hr
  go_enter Try.func32, Try.ntmps32
  go_wp2_with fail
  refine (each_plainOne A0 c0 l0 w hr0 hf).mono ?_
  rintro e w' ⟨rfl, rfl⟩
  go_wp2
  go_ret
  exact ⟨by rw [HH.out]; rfl, Drawn0.refl _⟩

theorem signedOne_calls (x : Int) (w : World) (h0 : 0 ≤ x) (h1 : x < 256) : Calls Try.prog 45 #[.int .u8 x] w fun e w' => e = .returned (.int .i64 (signedOne x)) ∧ w' = w := by
  by_cases h : x < 128
  · have e : signedOne x = x := by unfold signedOne; rw [if_pos h]
    have HE := Aside0.mk e
    clear e
    go_enter Try.func45, Try.ntmps45
    go_wp2
    go_ret
    refine ⟨?_, rfl⟩
    rw [HE.out]
    show Ending.returned (.int .i64 _) = _
    first | rfl | (congr 2; simp only [IntKind.wrap, IntKind.bits, IntKind.signed]; first | (simp; done) | (simp; omega) | (simp; unfold wrap64; split <;> omega))
  · have e : signedOne x = x - 256 := by unfold signedOne; rw [if_neg h]
    have HE := Aside0.mk e
    clear e
    go_enter Try.func45, Try.ntmps45
    go_wp2
    go_ret
    refine ⟨?_, rfl⟩
    rw [HE.out]
    show Ending.returned (.int .i64 _) = _
    first | rfl | (congr 2; simp only [IntKind.wrap, IntKind.bits, IntKind.signed]; first | (simp; done) | (simp; omega) | (simp; unfold wrap64; split <;> omega))
set_option maxHeartbeats 1000000 in
set_option maxRecDepth 100000 in
theorem each_signedOne (A0 : Option Addr) (c0 : Nat) (l0 : List Int) (w : World) (hr0 : Kd.C (Kd.int .u8) w A0 l0.length l0) (hf : fair l0 = true) :
    Calls Try.prog 42 #[.slice A0 l0.length c0, .func (.func 45) #[] #[]] w fun e w' => e = .returned (.int .i64 (total signedOne 0 l0)) ∧ w' = w := by
  have hlen := fair_len hf
  have HR := Aside0.mk hr0
  have HF := Aside0.mk hf
  clear hr0 hf
  go_enter Try.func42, Try.ntmps42
  go_wp2_with fail
  go_loop [5, 10] (fun n i => ∃ (k : Nat) (s : Int), k ≤ l0.length ∧ i = .int .i64 k ∧ n = .int .i64 s ∧ -256 * (k : Int) ≤ s ∧ s ≤ 256 * (k : Int) ∧ Aside0 (s + total signedOne k (l0.drop k) = total signedOne 0 l0)) (fun _ i => l0.length - (intOf i).toNat)
  case atStart => exact ⟨0, 0, Nat.zero_le _, rfl, rfl, by omega, by omega, ⟨by simp⟩⟩
  case round =>
    obtain ⟨k, s, hk, rfl, rfl, hs0, hs1, HT⟩ := hrel
    by_cases hlt : k < l0.length
    · obtain ⟨hb0, hb1⟩ := fair_get HF.out k hlt
      have hd : l0.drop k = l0.getD k 0 :: l0.drop (k + 1) := by
        rw [List.drop_eq_getElem_cons hlt, List.getD_eq_getElem?_getD, List.getElem?_eq_getElem hlt]
        rfl
      have HT2 : Aside0 (s + (signedOne (blankAt k (l0.getD k 0)) + total signedOne (k + 1) (l0.drop (k + 1))) = total signedOne 0 l0) := ⟨by have := HT.out; rw [hd] at this; exact this⟩
      obtain ⟨ad, e, hx⟩ := Kd.at_int HR.out (k : Int) (by omega) (by omega)
      cases e
      rw [rd_natCast] at hx
      rw [Int.toNat_natCast] at hx
      obtain ⟨x, hxe⟩ : ∃ x, x = l0.getD k 0 := ⟨_, rfl⟩
      rw [← hxe] at hx hb0 hb1 HT2
      have HX := Aside0.mk hxe
      clear hxe HT hd
      by_cases h148 : 148 ≤ k
      · by_cases h156 : k < 156
        · have e1 : blankAt k x = 32 := by unfold blankAt; rw [if_pos ⟨h148, h156⟩]
          have HB := signedOne_bound 32 (by omega) (by omega)
          have HT3 : Aside0 (s + signedOne 32 + total signedOne (k + 1) (l0.drop (k + 1)) = total signedOne 0 l0) := ⟨by have := HT2.out; rw [e1] at this; omega⟩
          clear HT2 e1
          go_wp2_with (first | (go_at_call 45; refine (signedOne_calls 32 _ (by omega) (by omega)).mono ?_; rintro e w' ⟨rfl, rfl⟩))
          all_goals
            go_round
            case rel => exact ⟨k + 1, s + signedOne 32, by omega, by go_num, by go_num, by omega, by omega, HT3⟩
            case measure => simp [intOf]; omega
        · have e1 : blankAt k x = x := by unfold blankAt; rw [if_neg (by omega)]
          have HB := signedOne_bound x hb0 hb1
          have HT3 : Aside0 (s + signedOne x + total signedOne (k + 1) (l0.drop (k + 1)) = total signedOne 0 l0) := ⟨by have := HT2.out; rw [e1] at this; omega⟩
          clear HT2 e1
          go_wp2_with (first | (go_at_call 45; refine (signedOne_calls x _ hb0 hb1).mono ?_; rintro e w' ⟨rfl, rfl⟩))
          all_goals
            go_round
            case rel => exact ⟨k + 1, s + signedOne x, by omega, by go_num, by go_num, by omega, by omega, HT3⟩
            case measure => simp [intOf]; omega
      · have e1 : blankAt k x = x := by unfold blankAt; rw [if_neg (by omega)]
        have HB := signedOne_bound x hb0 hb1
        have HT3 : Aside0 (s + signedOne x + total signedOne (k + 1) (l0.drop (k + 1)) = total signedOne 0 l0) := ⟨by have := HT2.out; rw [e1] at this; omega⟩
        clear HT2 e1
        go_wp2_with (first | (go_at_call 45; refine (signedOne_calls x _ hb0 hb1).mono ?_; rintro e w' ⟨rfl, rfl⟩))
        all_goals
          go_round
          case rel => exact ⟨k + 1, s + signedOne x, by omega, by go_num, by go_num, by omega, by omega, HT3⟩
          case measure => simp [intOf]; omega
    · obtain rfl : k = l0.length := by omega
      have hs : s = total signedOne 0 l0 := by
        have := HT.out
        rw [List.drop_length] at this
        simp only [total] at this
        omega
      go_wp2
      go_ret
      exact ⟨by rw [← hs]; rfl, rfl⟩
theorem sum_Signed.calls (A0 : Option Addr) (c0 : Nat) (l0 : List Int) (r : Int) (w : World) (hr0 : Kd.C (Kd.int .u8) w A0 l0.length l0) (hc0 : l0.length ≤ c0) (h : sum_Signed.f l0 = some r) :
    Calls Try.prog 34 #[.slice A0 l0.length c0] w fun e w' => e = .returned (.int .i64 r) ∧ Drawn0 w w' := by
  have hf : fair l0 = true := by
    unfold sum_Signed.f at h
    split at h
    · assumption
    · cases h
  have hr : r = total signedOne 0 l0 := by
    unfold sum_Signed.f at h
    rw [if_pos hf] at h
    exact (Option.some.inj h).symm
  have HH := Aside0.mk hr
  clear h hr
  go_enter Try.func34, Try.ntmps34
  go_wp2_with fail
  refine (each_signedOne A0 c0 l0 w hr0 hf).mono ?_
  rintro e w' ⟨rfl, rfl⟩
  go_wp2
  go_ret
  exact ⟨by rw [HH.out]; rfl, Drawn0.refl _⟩
end Go.Proofs.Ytchldbhnohicoaa.XA
