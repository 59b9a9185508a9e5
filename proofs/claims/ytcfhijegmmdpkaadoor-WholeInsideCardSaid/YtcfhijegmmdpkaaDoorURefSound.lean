/- The document's answer for layer 10: whether a text is sound; its UTF-8, sign by sign. -/
import Derived.Test.YtcfhijegmmdpkaaDoorUBytes
import Derived.Test.YtcfhijegmmdpkaaDoorXA4
import Derived.Test.YtcfhijegmmdpkaaDoorXA5
namespace Go.Proofs.YtcfhijegmmdpkaaDoor.Pure
open Go.RowKit Go.Proofs.YtcfhijegmmdpkaaDoor.XA Go.Proofs.YtcfhijegmmdpkaaDoorW.PrintWords Go.Proofs.YtcfhijegmmdpkaaDoorW.PrintLast Go.Proofs.YtcfhijegmmdpkaaDoorW.PrintMore
set_option linter.unusedSimpArgs false
set_option linter.unusedVariables false

theorem sign_done {l : List UInt8} {i : Int} (n : Nat) (lo hi : Int) : Ev (fun k => pannierref10_sign.l0 k (mkS l) i (n : Int) lo hi (n : Int)) (n : Int) := by
  refine Ev.step (fun k => by rw [pannierref10_sign.l0]) ?_
  simp only [Int.lt_irrefl, if_false]
  exact ev_some _
theorem sign_step {l r : List UInt8} {b : UInt8} {i n j lo hi : Nat} {R : Int} (hl : l.length ≤ 1000000) (hn : n ≤ 4) (hj : j < n) (h : l.drop (i + j) = b :: r)
    (hR : Ev (fun k => pannierref10_sign.l0 k (mkS l) (i : Int) (n : Int) 128 191 ((j + 1 : Nat) : Int)) R) :
    Ev (fun k => pannierref10_sign.l0 k (mkS l) (i : Int) (n : Int) (lo : Int) (hi : Int) (j : Int)) (if b.toNat < lo ∨ hi < b.toNat then 0 else R) := by
  have hlt := drop_lt h
  have hb := b.toNat_lt
  have ew : wrap64 ((i : Int) + (j : Int)) = ((i + j : Nat) : Int) := by rw [w64 (by omega) (by omega)]; omega
  refine Ev.step (fun k => by rw [pannierref10_sign.l0]) ?_
  simp only [show (j : Int) < (n : Int) by omega, if_true, ew, show (0 : Int) ≤ ((i + j : Nat) : Int) by omega, mk_size, show ((i + j : Nat) : Int) < (l.length : Int) by omega, bt_mk h, w64 (x := (b.toNat : Int)) (by omega) (by omega), wnext (i := j) (by omega)]
  by_cases h1 : b.toNat < lo
  · simp only [show (b.toNat : Int) < (lo : Int) by omega, if_true, h1, true_or]
    exact ev_some _
  simp only [show ¬ ((b.toNat : Int) < (lo : Int)) by omega, if_false, h1, false_or]
  by_cases h2 : hi < b.toNat
  · simp only [show (b.toNat : Int) > (hi : Int) by omega, if_true, h2]
    exact ev_some _
  simp only [show ¬ ((b.toNat : Int) > (hi : Int)) by omega, if_false, h2]
  exact hR
def optN : Option Nat → Int
  | none => 0
  | some k => (k : Int)
theorem drop_more {l r : List UInt8} {c : UInt8} {i : Nat} (h : l.drop i = c :: r) (j : Nat) : l.drop (i + (j + 1)) = r.drop j := by
  rw [← List.drop_drop, h, List.drop_succ_cons]
theorem sign_j3 {l r : List UInt8} {c : UInt8} {i n lo hi : Nat} (hl : l.length ≤ 1000000) (hn : n = 2 ∨ n = 3 ∨ n = 4) (h : l.drop i = c :: r) :
    Ev (fun k => pannierref10_sign.j3 k (mkS l) (i : Int) (n : Int) (lo : Int) (hi : Int)) (optN (Lib.checkN (c :: r).length ((c :: r).getD 1 0).toNat ((c :: r).getD 2 0).toNat ((c :: r).getD 3 0).toNat n lo hi)) := by
  have hlt := drop_lt h
  have hlen : l.length = i + 1 + r.length := by
    have := congrArg List.length h
    rw [List.length_drop, List.length_cons] at this
    omega
  have ew : wrap64 ((i : Int) + (n : Int)) = ((i + n : Nat) : Int) := by rw [w64 (by omega) (by omega)]; omega
  refine Ev.step (fun k => by rw [pannierref10_sign.j3]) ?_
  simp only [show ¬ ((n : Int) = 0) by omega, if_false, ew, mk_size]
  refine Ev.step (fun k => by rw [pannierref10_sign.j4]) ?_
  by_cases hs : l.length < i + n
  · simp only [show ((i + n : Nat) : Int) > (l.length : Int) by omega, decide_true, if_true]
    refine ev_eq (ev_some _) ?_
    have hr : (c :: r).length < n := by simp; omega
    unfold Lib.checkN
    rcases hn with rfl | rfl | rfl
    · rw [if_pos rfl, if_pos (.inl hr)]; rfl
    · rw [if_neg (show ¬ ((3 : Nat) = 2) by omega), if_pos rfl, if_pos (.inl hr)]; rfl
    · rw [if_neg (show ¬ ((4 : Nat) = 2) by omega), if_neg (show ¬ ((4 : Nat) = 3) by omega), if_pos rfl, if_pos (.inl hr)]; rfl
  · simp only [show ¬ (((i + n : Nat) : Int) > (l.length : Int)) by omega, decide_false, Bool.false_eq_true, if_false]
    have hr : ¬ ((c :: r).length < n) := by simp; omega
    have d := drop_more h
    rcases hn with rfl | rfl | rfl
    · obtain ⟨b1, r1, rfl⟩ : ∃ b1 r1, r = b1 :: r1 := by
        cases r with
        | nil => simp at hlen; omega
        | cons b1 r1 => exact ⟨b1, r1, rfl⟩
      refine ev_eq (sign_step (j := 1) (n := 2) hl (by omega) (by omega) (d 0) (sign_done 2 128 191)) ?_
      unfold Lib.checkN
      rw [if_pos rfl]
      simp only [hr, false_or, List.getD_cons_succ, List.getD_cons_zero]
      split <;> rfl
    · obtain ⟨b1, b2, r2, rfl⟩ : ∃ b1 b2 r2, r = b1 :: b2 :: r2 := by
        match r, hlen with
        | [], hlen => simp at hlen; omega
        | [_], hlen => simp at hlen; omega
        | b1 :: b2 :: r2, _ => exact ⟨b1, b2, r2, rfl⟩
      refine ev_eq (sign_step (j := 1) (n := 3) hl (by omega) (by omega) (d 0) (sign_step (j := 2) (lo := 128) (hi := 191) hl (by omega) (by omega) (d 1) (sign_done 3 128 191))) ?_
      unfold Lib.checkN
      rw [if_neg (show ¬ ((3 : Nat) = 2) by omega), if_pos (rfl : (3 : Nat) = 3)]
      simp only [hr, false_or, List.getD_cons_succ, List.getD_cons_zero]
      by_cases q1 : b1.toNat < lo ∨ hi < b1.toNat
      · rw [if_pos q1, if_pos (by rcases q1 with q | q; exact .inl q; exact .inr (.inl q))]; rfl
      · rw [if_neg q1]
        by_cases q2 : b2.toNat < 128 ∨ 191 < b2.toNat
        · rw [if_pos q2, if_pos (by rcases q2 with q | q; exact .inr (.inr (.inl q)); exact .inr (.inr (.inr q)))]; rfl
        · rw [if_neg q2, if_neg (by omega)]; rfl
    · obtain ⟨b1, b2, b3, r3, rfl⟩ : ∃ b1 b2 b3 r3, r = b1 :: b2 :: b3 :: r3 := by
        match r, hlen with
        | [], hlen => simp at hlen; omega
        | [_], hlen => simp at hlen; omega
        | [_, _], hlen => simp at hlen; omega
        | b1 :: b2 :: b3 :: r3, _ => exact ⟨b1, b2, b3, r3, rfl⟩
      refine ev_eq (sign_step (j := 1) (n := 4) hl (by omega) (by omega) (d 0) (sign_step (j := 2) (lo := 128) (hi := 191) hl (by omega) (by omega) (d 1) (sign_step (j := 3) (lo := 128) (hi := 191) hl (by omega) (by omega) (d 2) (sign_done 4 128 191)))) ?_
      unfold Lib.checkN
      rw [if_neg (show ¬ ((4 : Nat) = 2) by omega), if_neg (show ¬ ((4 : Nat) = 3) by omega), if_pos (rfl : (4 : Nat) = 4)]
      simp only [hr, false_or, List.getD_cons_succ, List.getD_cons_zero]
      by_cases q1 : b1.toNat < lo ∨ hi < b1.toNat
      · rw [if_pos q1, if_pos (by omega)]; rfl
      · rw [if_neg q1]
        by_cases q2 : b2.toNat < 128 ∨ 191 < b2.toNat
        · rw [if_pos q2, if_pos (by omega)]; rfl
        · rw [if_neg q2]
          by_cases q3 : b3.toNat < 128 ∨ 191 < b3.toNat
          · rw [if_pos q3, if_pos (by omega)]; rfl
          · rw [if_neg q3, if_neg (by omega)]; rfl
theorem sign_none {l : List UInt8} {i : Int} : Ev (fun k => pannierref10_sign.j3 k (mkS l) i 0 128 191) 0 := by
  refine Ev.step (fun k => by rw [pannierref10_sign.j3]) ?_
  simp only [if_true]
  refine Ev.step (fun k => by rw [pannierref10_sign.j4]) ?_
  simp only [if_true]
  exact ev_some _
/-- How many bytes the sign at a text's begin has, or 0: it is none. -/
def sgn : List UInt8 → Int
  | [] => 0
  | c :: r => if c.toNat < 128 then 1 else optN (chk (c :: r))
theorem chk_as (c : UInt8) (r : List UInt8) {sz lo hi : Nat} (h1 : Lib.firstT c.toNat % 8 = sz) (h2 : Lib.accLo (Lib.firstT c.toNat / 16) = lo) (h3 : Lib.accHi (Lib.firstT c.toNat / 16) = hi) :
    chk (c :: r) = Lib.checkN (c :: r).length ((c :: r).getD 1 0).toNat ((c :: r).getD 2 0).toNat ((c :: r).getD 3 0).toNat sz lo hi := by
  rw [← h1, ← h2, ← h3]; rfl
theorem sign_ev {l r : List UInt8} {c : UInt8} {i : Nat} (hl : l.length ≤ 1000000) (h : l.drop i = c :: r) : Ev (fun k => pannierref10_sign.f k (mkS l) (i : Int)) (sgn (c :: r)) := by
  have hlt := drop_lt h
  have hb := c.toNat_lt
  unfold pannierref10_sign.f
  simp only [show (0 : Int) ≤ (i : Int) by omega, if_true, mk_size, show (i : Int) < (l.length : Int) by omega, bt_mk h]
  rw [sgn]
  by_cases c0 : c.toNat < 128
  · simp only [show (c.toNat : Int) < 128 by omega, c0, if_true]
    exact ev_some _
  simp only [show ¬ ((c.toNat : Int) < 128) by omega, c0, if_false]
  have bad : ∀ (x : Lib.firstT c.toNat = 241), optN (chk (c :: r)) = 0 := by
    intro x
    rw [chk_as c r (sz := 1) (lo := 0) (hi := 0) (by rw [x]) (by rw [x]; decide) (by rw [x]; decide)]
    rfl
  by_cases c1 : c.toNat < 194
  · have e : Lib.firstT c.toNat = 241 := by unfold Lib.firstT; rw [if_neg c0, if_pos c1]
    rw [bad e]
    simp only [show ¬ ((c.toNat : Int) ≥ 194) by omega, if_false]
    refine Ev.step (fun k => by rw [pannierref10_sign.j0]) ?_
    simp only [Bool.false_eq_true, if_false, show ¬ ((c.toNat : Int) ≥ 224) by omega]
    refine Ev.step (fun k => by rw [pannierref10_sign.j1]) ?_
    simp only [Bool.false_eq_true, if_false, show ¬ ((c.toNat : Int) ≥ 240) by omega]
    refine Ev.step (fun k => by rw [pannierref10_sign.j2]) ?_
    simp only [Bool.false_eq_true, if_false]
    exact sign_none
  simp only [show (c.toNat : Int) ≥ 194 by omega, if_true]
  refine Ev.step (fun k => by rw [pannierref10_sign.j0]) ?_
  by_cases c2 : c.toNat < 224
  · have e : Lib.firstT c.toNat = 2 := by unfold Lib.firstT; rw [if_neg c0, if_neg c1, if_pos c2]
    rw [chk_as c r (sz := 2) (lo := 128) (hi := 191) (by rw [e]) (by rw [e]; decide) (by rw [e]; decide)]
    simp only [show (c.toNat : Int) ≤ 223 by omega, decide_true, if_true]
    exact sign_j3 (n := 2) (lo := 128) (hi := 191) hl (by omega) h
  simp only [show ¬ ((c.toNat : Int) ≤ 223) by omega, decide_false, Bool.false_eq_true, if_false, show (c.toNat : Int) ≥ 224 by omega, if_true]
  refine Ev.step (fun k => by rw [pannierref10_sign.j1]) ?_
  by_cases c3 : c.toNat < 240
  · simp only [show (c.toNat : Int) ≤ 239 by omega, decide_true, if_true]
    by_cases e0 : c.toNat = 224
    · have e : Lib.firstT c.toNat = 19 := by rw [e0]; decide
      rw [chk_as c r (sz := 3) (lo := 160) (hi := 191) (by rw [e]) (by rw [e]; decide) (by rw [e]; decide)]
      simp only [show (c.toNat : Int) = 224 by omega, if_true, show ¬ ((224 : Int) = 237) by omega, if_false]
      exact sign_j3 (n := 3) (lo := 160) (hi := 191) hl (by omega) h
    simp only [show ¬ ((c.toNat : Int) = 224) by omega, if_false]
    by_cases e1 : c.toNat = 237
    · have e : Lib.firstT c.toNat = 35 := by rw [e1]; decide
      rw [chk_as c r (sz := 3) (lo := 128) (hi := 159) (by rw [e]) (by rw [e]; decide) (by rw [e]; decide)]
      simp only [show (c.toNat : Int) = 237 by omega, if_true]
      exact sign_j3 (n := 3) (lo := 128) (hi := 159) hl (by omega) h
    simp only [show ¬ ((c.toNat : Int) = 237) by omega, if_false]
    have e : Lib.firstT c.toNat = 3 := by
      unfold Lib.firstT
      rw [if_neg c0, if_neg c1, if_neg c2, if_neg e0]
      by_cases q : c.toNat < 237
      · rw [if_pos q]
      · rw [if_neg q, if_neg e1, if_pos c3]
    rw [chk_as c r (sz := 3) (lo := 128) (hi := 191) (by rw [e]) (by rw [e]; decide) (by rw [e]; decide)]
    exact sign_j3 (n := 3) (lo := 128) (hi := 191) hl (by omega) h
  simp only [show ¬ ((c.toNat : Int) ≤ 239) by omega, decide_false, Bool.false_eq_true, if_false, show (c.toNat : Int) ≥ 240 by omega, if_true]
  refine Ev.step (fun k => by rw [pannierref10_sign.j2]) ?_
  by_cases c4 : c.toNat < 245
  · simp only [show (c.toNat : Int) ≤ 244 by omega, decide_true, if_true]
    by_cases e0 : c.toNat = 240
    · have e : Lib.firstT c.toNat = 52 := by rw [e0]; decide
      rw [chk_as c r (sz := 4) (lo := 144) (hi := 191) (by rw [e]) (by rw [e]; decide) (by rw [e]; decide)]
      simp only [show (c.toNat : Int) = 240 by omega, if_true, show ¬ ((240 : Int) = 244) by omega, if_false]
      exact sign_j3 (n := 4) (lo := 144) (hi := 191) hl (by omega) h
    simp only [show ¬ ((c.toNat : Int) = 240) by omega, if_false]
    by_cases e1 : c.toNat = 244
    · have e : Lib.firstT c.toNat = 68 := by rw [e1]; decide
      rw [chk_as c r (sz := 4) (lo := 128) (hi := 143) (by rw [e]) (by rw [e]; decide) (by rw [e]; decide)]
      simp only [show (c.toNat : Int) = 244 by omega, if_true]
      exact sign_j3 (n := 4) (lo := 128) (hi := 143) hl (by omega) h
    simp only [show ¬ ((c.toNat : Int) = 244) by omega, if_false]
    have e : Lib.firstT c.toNat = 4 := by
      unfold Lib.firstT
      rw [if_neg c0, if_neg c1, if_neg c2, if_neg (by omega), if_neg (by omega), if_neg (by omega), if_neg c3, if_neg e0, if_pos (by omega)]
    rw [chk_as c r (sz := 4) (lo := 128) (hi := 191) (by rw [e]) (by rw [e]; decide) (by rw [e]; decide)]
    exact sign_j3 (n := 4) (lo := 128) (hi := 191) hl (by omega) h
  · have e : Lib.firstT c.toNat = 241 := by
      unfold Lib.firstT
      rw [if_neg c0, if_neg c1, if_neg c2, if_neg (by omega), if_neg (by omega), if_neg (by omega), if_neg c3, if_neg (by omega), if_neg (by omega), if_neg (by omega)]
    rw [bad e]
    simp only [show ¬ ((c.toNat : Int) ≤ 244) by omega, decide_false, Bool.false_eq_true, if_false]
    exact sign_none

theorem chk_two {l : List UInt8} {k : Nat} (h : chk l = some k) : 2 ≤ k := by
  unfold chk Lib.checkN at h
  split at h
  · split at h
    · cases h
    · have := Option.some.inj h; omega
  · split at h
    · split at h
      · cases h
      · have := Option.some.inj h; omega
    · split at h
      · split at h
        · cases h
        · have := Option.some.inj h; omega
      · cases h
theorem chk_four {l : List UInt8} {k : Nat} (h : chk l = some k) : k ≤ 4 := by
  unfold chk Lib.checkN at h
  split at h
  · split at h
    · cases h
    · have := Option.some.inj h; omega
  · split at h
    · split at h
      · cases h
      · have := Option.some.inj h; omega
    · split at h
      · split at h
        · cases h
        · have := Option.some.inj h; omega
      · cases h
theorem utf8_l0 {l : List UInt8} (hl : l.length ≤ 1000000) : ∀ (d i : Nat), l.length ≤ i + d → i ≤ l.length + 4 → Ev (fun k => pannierref10_Utf8.l0 k (mkS l) (i : Int)) (Lib.validD (l.drop i))
  | d, i, h, h4 => by
    rcases hr : l.drop i with _ | ⟨c, r⟩
    · have hge := drop_ge hr
      refine Ev.step (fun k => by rw [pannierref10_Utf8.l0]) ?_
      simp only [mk_size, show ¬ ((i : Int) < (l.length : Int)) by omega, if_false]
      exact ev_some _
    · have hlt := drop_lt hr
      obtain ⟨d, rfl⟩ : ∃ q, d = q + 1 := ⟨d - 1, by omega⟩
      refine Ev.step (fun k => by rw [pannierref10_Utf8.l0]) ?_
      simp only [mk_size, show (i : Int) < (l.length : Int) by omega, if_true]
      refine ev_bind (sign_ev hl hr) ?_
      rw [sgn]
      by_cases c0 : c.toNat < 128
      · simp only [c0, if_true, show ¬ ((1 : Int) = 0) by omega, if_false, wnext (i := i) (by omega)]
        refine ev_eq (utf8_l0 hl d (i + 1) (by omega) (by omega)) ?_
        rw [drop_next hr, Lib.validD_cons c r c0]
      · simp only [c0, if_false]
        rw [valid_lead (c :: r) (by simp) (by simp; omega)]
        cases hk : chk (c :: r) with
        | none =>
          simp only [optN, if_true]
          exact ev_some _
        | some k =>
          have h2 := chk_two hk
          have h5 := chk_four hk
          simp only [optN, show ¬ ((k : Int) = 0) by omega, if_false, show wrap64 ((i : Int) + (k : Int)) = ((i + k : Nat) : Int) by rw [w64 (by omega) (by omega)]; omega]
          refine ev_eq (utf8_l0 hl d (i + k) (by omega) (by omega)) ?_
          rw [← List.drop_drop, hr]
theorem utf8_ev {l : List UInt8} (hl : l.length ≤ 1000000) : Ev (fun k => pannierref10_Utf8.f k (mkS l)) (Lib.validD l) := by
  unfold pannierref10_Utf8.f
  exact utf8_l0 hl l.length 0 (by omega) (by omega)
theorem refsound_l0 {l : List UInt8} (hne : l ≠ []) (hl : l.length ≤ 4000) : ∀ (r : List UInt8) (i : Nat), l.drop i = r → (0 : UInt8) ∉ l.take i → Ev (fun k => pannierref10_Sound.l0 k (mkS l) (i : Int)) (sound l)
  | [], i, h, h0 => by
    have hge := drop_ge h
    rw [List.take_of_length_le hge] at h0
    obtain ⟨c, t, rfl⟩ : ∃ c t, l = c :: t := by
      cases l with
      | nil => exact absurd rfl hne
      | cons c t => exact ⟨c, t, rfl⟩
    refine Ev.step (fun k => by rw [pannierref10_Sound.l0]) ?_
    simp only [mk_size, show ¬ ((i : Int) < ((c :: t).length : Int)) by omega, if_false]
    refine ev_bind (utf8_ev (by omega)) ?_
    unfold sound
    rw [if_neg hne, if_neg (show ¬ 4000 < (c :: t).length by omega), if_neg h0]
    have hb : bt (mkS (c :: t)) 0 = (c.toNat : Int) := bt_mk (j := 0) (p := c :: t) (r := t) rfl
    cases hv : Lib.validD (c :: t) with
    | false =>
      simp only [Bool.false_eq_true, if_false, if_true]
      exact ev_some _
    | true =>
      simp only [if_true, Bool.true_eq_false, if_false, show (0 : Int) < ((c :: t).length : Int) by simp, hb, is47, List.getD_cons_zero]
      by_cases h47 : c = 47
      · simp only [h47, if_true]; exact ev_some _
      · simp only [h47, if_false]; exact ev_some _
  | c :: r, i, h, h0 => by
    have hlt := drop_lt h
    refine Ev.step (fun k => by rw [pannierref10_Sound.l0]) ?_
    simp only [mk_size, show (i : Int) < (l.length : Int) by omega, if_true, show (0 : Int) ≤ (i : Int) by omega, bt_mk h, is0, wnext (i := i) (by omega)]
    by_cases hc : c = 0
    · simp only [hc, if_true]
      refine ev_eq (ev_some _) ?_
      unfold sound
      rw [if_neg hne, if_neg (show ¬ 4000 < l.length by omega), if_pos (List.mem_of_mem_drop (i := i) (by rw [h, hc]; exact List.mem_cons_self ..))]
    · simp only [hc, if_false]
      refine refsound_l0 hne hl r (i + 1) (drop_next h) ?_
      have hg : l[i]? = some c := by
        have h2 : (l.drop i)[0]? = some c := by rw [h]; rfl
        simpa [List.getElem?_drop] using h2
      rw [List.take_add_one, hg]
      simp only [Option.toList_some, List.mem_append, List.mem_singleton, not_or]
      exact ⟨h0, fun e => hc e.symm⟩
theorem refsound_ev (l : List UInt8) : Ev (fun k => pannierref10_Sound.f k (mkS l)) (sound l) := by
  unfold pannierref10_Sound.f
  simp only [mk_toList, mk_size]
  by_cases h0 : l = []
  · simp only [if_pos h0]
    refine ev_eq (ev_some _) ?_
    unfold sound
    rw [if_pos h0]
  simp only [if_neg h0]
  by_cases h1 : 4000 < l.length
  · simp only [show (l.length : Int) > 4000 by omega, if_true]
    refine ev_eq (ev_some _) ?_
    unfold sound
    rw [if_neg h0, if_pos h1]
  simp only [show ¬ ((l.length : Int) > 4000) by omega, if_false]
  exact refsound_l0 h0 (by omega) l 0 rfl (by simp)
end Go.Proofs.YtcfhijegmmdpkaaDoor.Pure
