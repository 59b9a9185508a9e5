/- Layer 2 in plain words: what the printed functions of package octal come to. -/
import Derived.Test.YtchldbhnohicoaaUBase
import Derived.Test.YtchldbhnohicoaaXA4
import Derived.Test.YtchldbhnohicoaaXA7
import Derived.Test.YtchldbhnohicoaaXA7
namespace Go.Proofs.Ytchldbhnohicoaa.Pure
open Go.RowKit Go.Proofs.Ytchldbhnohicoaa.XA Go.Proofs.YtchldbhnohicoaaW.PrintWords Go.Proofs.YtchldbhnohicoaaW.PrintLast Go.Proofs.YtchldbhnohicoaaW.PrintMore
set_option linter.unusedSimpArgs false

def trail (l : List Int) (acc : Int) : Int × Int := if l.all (fun c => c == 0 || c == 32) then (acc, 0) else (0, 20)
def octs : List Int → Int → Int × Int
  | [], acc => (acc, 0)
  | c :: cs, acc => if 48 ≤ c ∧ c ≤ 55 then (if 1152921504606846976 ≤ acc then (0, 20) else octs cs (8 * acc + (c - 48))) else trail (c :: cs) acc
def blanks : List Int → Int × Int
  | [] => (0, 0)
  | c :: cs => if c = 32 then blanks cs else octs (c :: cs) 0
def binf : Int → List Int → Int × Int
  | n, [] => (n, 0)
  | n, b :: bs => if 36028797018963968 ≤ n ∨ n < -36028797018963968 then (0, 20) else binf (256 * n + b) bs
def binp (c : Int) (cs : List Int) : Int × Int := if c = 128 then binf 0 cs else if c = 255 then binf (-1) cs else (0, 20)
def parse : List Int → Int × Int
  | [] => (0, 0)
  | c :: cs => if 128 ≤ c then binp c cs else blanks (c :: cs)

theorem parse_l2 {l : List Int} (hl : l.length ≤ 140737488355328) (acc : Int) : ∀ (rest : List Int) (i : Nat), l.drop i = rest → Ev (fun k => octal_Parse.l2 k l (i : Int) acc) (trail rest acc)
  | [], i, h => by
    have := drop_ge h
    refine Ev.step (fun k => by rw [octal_Parse.l2]) ?_
    simp only [show ¬ ((i : Int) < (l.length : Int)) by omega, if_false]
    exact ev_some _
  | c :: cs, i, h => by
    have hlt := drop_lt h
    have hr := rd_drop h
    have ih := parse_l2 hl acc cs (i + 1) (drop_next h)
    refine Ev.step (fun k => by rw [octal_Parse.l2]) ?_
    simp only [show ((i : Int) < (l.length : Int)) by omega, show (0 : Int) ≤ (i : Int) by omega, if_true, hr, wnext (i := i) (by omega)]
    by_cases h0 : c = 0
    · simp only [h0, if_true]
      exact ev_eq ih (by simp [trail, h0])
    · by_cases h1 : c = 32
      · simp only [h0, h1, if_true, if_false, show ¬ ((32 : Int) = 0) by omega]
        exact ev_eq ih (by simp [trail, h1])
      · simp only [h0, h1, if_false]
        exact ev_eq (ev_some _) (by simp [trail, h0, h1])

theorem parse_l1 {l : List Int} (hb : Bytes l) (hl : l.length ≤ 140737488355328) : ∀ (rest : List Int) (i : Nat) (acc : Int), 0 ≤ acc → acc < 9223372036854775808 → l.drop i = rest → Ev (fun k => octal_Parse.l1 k l (i : Int) acc) (octs rest acc)
  | [], i, acc, h0, h1, h => by
    have := drop_ge h
    refine Ev.step (fun k => by rw [octal_Parse.l1]) ?_
    simp only [show ¬ ((i : Int) < (l.length : Int)) by omega, if_false]
    refine Ev.step (fun k => by rw [octal_Parse.j4]) ?_
    simp only [Bool.false_eq_true, if_false]
    exact ev_eq (parse_l2 hl acc [] i h) (by simp [octs, trail])
  | c :: cs, i, acc, h0, h1, h => by
    have hlt := drop_lt h
    have hr := rd_drop h
    have hc : 0 ≤ c ∧ c < 256 := hb c (List.mem_of_mem_drop (i := i) (by rw [h]; exact List.mem_cons_self ..))
    refine Ev.step (fun k => by rw [octal_Parse.l1]) ?_
    simp only [show ((i : Int) < (l.length : Int)) by omega, show (0 : Int) ≤ (i : Int) by omega, if_true, hr]
    by_cases hd : 48 ≤ c ∧ c ≤ 55
    · simp only [show c ≥ 48 from hd.1, hd.2, decide_true, if_true]
      refine Ev.step (fun k => by rw [octal_Parse.j4]) ?_
      simp only [if_true]
      by_cases hov : acc ≥ 1152921504606846976
      · simp only [hov, if_true]
        exact ev_eq (ev_some _) (by simp only [octs]; rw [if_pos hd, if_pos hov])
      · simp only [hov, if_false, show ((i : Int) < (l.length : Int)) by omega, show (0 : Int) ≤ (i : Int) by omega, if_true, hr, wnext (i := i) (by omega), show (c - 48) % 256 = c - 48 by omega, w64 (x := 8 * acc) (by omega) (by omega), w64 (x := 8 * acc + (c - 48)) (by omega) (by omega)]
        exact ev_eq (parse_l1 hb hl cs (i + 1) (8 * acc + (c - 48)) (by omega) (by omega) (drop_next h)) (by simp only [octs]; rw [if_pos hd, if_neg (by omega)])
    · have e : Ev (fun k => octal_Parse.j4 k l (i : Int) acc false) (octs (c :: cs) acc) := by
        refine Ev.step (fun k => by rw [octal_Parse.j4]) ?_
        simp only [Bool.false_eq_true, if_false]
        exact ev_eq (parse_l2 hl acc (c :: cs) i h) (by simp only [octs]; rw [if_neg hd])
      by_cases h48 : c ≥ 48
      · simp only [h48, show ¬ (c ≤ 55) by omega, decide_false, if_true]
        exact e
      · simp only [h48, if_false]
        exact e

theorem parse_l0 {l : List Int} (hb : Bytes l) (hl : l.length ≤ 140737488355328) : ∀ (rest : List Int) (i : Nat), l.drop i = rest → Ev (fun k => octal_Parse.l0 k l (i : Int)) (blanks rest)
  | [], i, h => by
    have := drop_ge h
    refine Ev.step (fun k => by rw [octal_Parse.l0]) ?_
    simp only [show ¬ ((i : Int) < (l.length : Int)) by omega, if_false]
    refine Ev.step (fun k => by rw [octal_Parse.j2]) ?_
    exact ev_eq (parse_l1 hb hl [] i 0 (by omega) (by omega) h) (by simp [octs, blanks])
  | c :: cs, i, h => by
    have hlt := drop_lt h
    have hr := rd_drop h
    refine Ev.step (fun k => by rw [octal_Parse.l0]) ?_
    simp only [show ((i : Int) < (l.length : Int)) by omega, show (0 : Int) ≤ (i : Int) by omega, if_true, hr, wnext (i := i) (by omega)]
    by_cases h0 : c = 32
    · simp only [h0, if_true]
      exact ev_eq (parse_l0 hb hl cs (i + 1) (drop_next h)) (by simp [blanks, h0])
    · simp only [h0, if_false]
      refine Ev.step (fun k => by rw [octal_Parse.j2]) ?_
      exact ev_eq (parse_l1 hb hl (c :: cs) i 0 (by omega) (by omega) h) (by simp only [blanks]; rw [if_neg h0])

/-- A number shifted by a byte, and the byte. -/
theorem or_byte (n b : Int) (h1 : -36028797018963968 ≤ n) (h2 : n < 36028797018963968) (hb0 : 0 ≤ b) (hb : b < 256) : Go.bits .or .i64 (n * 256) b = 256 * n + b := by
  obtain ⟨m, rfl⟩ := Int.eq_ofNat_of_zero_le hb0
  have hx : ∃ q : Nat, q < 2 ^ 56 ∧ (BitVec.ofInt 64 (n * 256)).toNat = 2 ^ 8 * q ∧ (256 * (q : Int) = n * 256 ∨ 256 * (q : Int) = n * 256 + 18446744073709551616) := by
    refine ⟨(n % 72057594037927936).toNat, by omega, ?_, by omega⟩
    rw [BitVec.toNat_ofInt]
    omega
  obtain ⟨q, hq, hqt, hqn⟩ := hx
  have hm : (BitVec.ofInt 64 (m : Int)).toNat = m := by rw [BitVec.toNat_ofInt]; omega
  show IntKind.i64.wrap (((BitVec.ofInt 64 (n * 256)) ||| (BitVec.ofInt 64 (m : Int))).toNat : Int) = _
  rw [BitVec.toNat_or, hqt, hm, ← Nat.two_pow_add_eq_or_of_lt (by omega) q, IntKind.wrap_i64]
  omega

theorem binary_l0 {l : List Int} (hb : Bytes l) (hl : l.length ≤ 140737488355328) : ∀ (rest : List Int) (i : Nat) (n : Int), l.drop i = rest → Ev (fun k => octal_binary.l0 k n l (l.length : Int) (i : Int)) (binf n rest)
  | [], i, n, h => by
    have := drop_ge h
    refine Ev.step (fun k => by rw [octal_binary.l0]) ?_
    simp only [show ¬ ((i : Int) < (l.length : Int)) by omega, if_false]
    exact ev_some _
  | c :: cs, i, n, h => by
    have hlt := drop_lt h
    have hr := rd_drop h
    have hc : 0 ≤ c ∧ c < 256 := hb c (List.mem_of_mem_drop (i := i) (by rw [h]; exact List.mem_cons_self ..))
    refine Ev.step (fun k => by rw [octal_binary.l0]) ?_
    simp only [show ((i : Int) < (l.length : Int)) by omega, show (0 : Int) ≤ (i : Int) by omega, if_true, hr, wnext (i := i) (by omega)]
    by_cases h1 : n ≥ 36028797018963968
    · simp only [h1, if_true]
      exact ev_eq (ev_some _) (by simp only [binf]; rw [if_pos (Or.inl h1)])
    · by_cases h2 : n < -36028797018963968
      · simp only [h1, h2, if_true, if_false]
        exact ev_eq (ev_some _) (by simp only [binf]; rw [if_pos (Or.inr h2)])
      · simp only [h1, h2, if_false, w64 (x := n * 256) (by omega) (by omega), w64 (x := c) (by omega) (by omega), or_byte n c (by omega) (by omega) hc.1 hc.2]
        exact ev_eq (binary_l0 hb hl cs (i + 1) (256 * n + c) (drop_next h)) (by simp only [binf]; rw [if_neg (by omega)])

theorem binary_ev (c : Int) (cs : List Int) (hb : Bytes (c :: cs)) (hl : (c :: cs).length ≤ 140737488355328) : Ev (fun k => octal_binary.f k (c :: cs)) (binp c cs) := by
  have hr : rd (c :: cs) 0 = c := rfl
  have hlen : 0 < (((c :: cs).length : Nat) : Int) := by simp only [List.length_cons]; omega
  have go : ∀ n : Int, Ev (fun k => octal_binary.j1 k (c :: cs) n) (binf n cs) := fun n => by
    refine Ev.step (fun k => by rw [octal_binary.j1]) ?_
    simp only [show 1 ≤ (((c :: cs).length : Nat) : Int) by omega, if_true, Option.bind_some, List.drop_one, List.tail_cons]
    exact binary_l0 hb.tail (by simp only [List.length_cons] at hl; omega) cs 0 n rfl
  have j0f : Ev (fun k => octal_binary.j0 k (c :: cs) false) (if c = 255 then binf (-1) cs else binf 0 cs) := by
    refine Ev.step (fun k => by rw [octal_binary.j0]) ?_
    simp only [Bool.false_eq_true, if_false, hlen, if_true, hr]
    by_cases h : c = 255
    · simp only [h, if_true]
      have := go (-1)
      rw [h] at this
      exact this
    · simp only [h, if_false]
      exact go 0
  unfold octal_binary.f binp
  simp only [hlen, if_true, hr]
  by_cases h1 : c = 128
  · simp only [h1, if_true]
    rw [h1] at j0f
    exact j0f
  · by_cases h2 : c = 255
    · simp only [h1, h2, if_true, if_false, show ((255 : Int) != 255) = false from rfl, show ¬ ((255 : Int) = 128) by omega]
      rw [h2] at j0f
      exact j0f
    · simp only [h1, h2, if_false, show (c != 255) = true from bne_iff_ne.2 h2]
      refine Ev.step (fun k => by rw [octal_binary.j0]) ?_
      simp only [if_true]
      exact ev_some _

theorem parse_ev (l : List Int) (hb : Bytes l) (hl : l.length ≤ 140737488355328) : Ev (fun k => octal_Parse.f k l) (parse l) := by
  have j0f : Ev (fun k => octal_Parse.j0 k l false) (blanks l) := by
    refine Ev.step (fun k => by rw [octal_Parse.j0]) ?_
    simp only [Bool.false_eq_true, if_false]
    exact parse_l0 hb hl l 0 rfl
  unfold octal_Parse.f
  cases l with
  | nil => exact j0f
  | cons c cs =>
    have hr : rd (c :: cs) 0 = c := rfl
    have hlen : 0 < (((c :: cs).length : Nat) : Int) := by simp only [List.length_cons]; omega
    simp only [gt_iff_lt, hlen, if_true, hr]
    by_cases h : c ≥ 128
    · simp only [h, decide_true]
      refine Ev.step (fun k => by rw [octal_Parse.j0]) ?_
      simp only [if_true]
      refine ev_bind (binary_ev c cs hb hl) ?_
      exact ev_eq (ev_some _) (by simp only [parse]; rw [if_pos h])
    · simp only [h, decide_false]
      exact ev_eq j0f (by simp only [parse]; rw [if_neg (by omega)])
end Go.Proofs.Ytchldbhnohicoaa.Pure
