/- OctalBlank: blanks ahead and behind, and noughts behind, turn nothing; something else among them is told. No conditions. -/
import Derived.Test.YteeofjlohaeinaaURefFormat
import Derived.Test.YteeofjlohaeinaaXA8
namespace Go.Proofs.Yteeofjlohaeinaa.Pure
open Go.RowKit Go.Proofs.Yteeofjlohaeinaa.XA Go.Proofs.YteeofjlohaeinaaW.PrintWords Go.Proofs.YteeofjlohaeinaaW.PrintLast Go.Proofs.YteeofjlohaeinaaW.PrintMore

theorem bytesOf_bl (s : ByteArray) : bytesOf s = bl s := rfl
def soft (l : List Int) : Prop := ∀ c ∈ l, c = 0 ∨ c = 32
theorem blanks_front (l : List Int) (c : Int) (cs : List Int) (hl : l = c :: cs) (hc : c ≠ 32) : ∀ m : Nat, blanks (List.replicate m 32 ++ l) = octs l 0
  | 0 => by
    subst hl
    simp only [List.replicate_zero, List.nil_append, blanks]
    rw [if_neg hc]
  | m + 1 => by
    rw [List.replicate_succ, List.cons_append]
    simp only [blanks, if_true]
    exact blanks_front l c cs hl hc m
theorem parse_front {n : Int} (h0 : 0 ≤ n) (h1 : n ≤ 9223372036854775807) (m : Nat) (tl : List Int) : parse (List.replicate m 32 ++ (oct n (digs n) ++ tl)) = octs tl n := by
  have hp := digs_pos n
  have hlt : n < 8 ^ (digs n) := by
    have := (digs_le (digs n - 1) n h0).1 (by omega)
    rwa [show digs n - 1 + 1 = digs n by omega] at this
  have key := octs_oct tl (digs n) n h0 (by omega) hlt tl
  obtain ⟨c, cs, hc⟩ : ∃ c cs, oct n (digs n) ++ tl = c :: cs := by
    cases h : oct n (digs n) ++ tl with
    | nil =>
      have := congrArg List.length h
      rw [List.length_append, oct_length] at this
      simp at this
      omega
    | cons c cs => exact ⟨c, cs, rfl⟩
  have hcd : 48 ≤ c ∧ c ≤ 55 := by
    refine oct_dig (digs n) n c ?_
    have hl := oct_length (digs n) n
    cases ho : oct n (digs n) with
    | nil => rw [ho] at hl; simp at hl; omega
    | cons d ds => rw [ho] at hc; simp at hc; rw [hc.1]; simp
  have hb := blanks_front _ c cs hc (by omega) m
  rw [← key, ← hb]
  cases m with
  | zero =>
    rw [List.replicate_zero, List.nil_append, hc]
    simp only [parse]
    rw [if_neg (by omega)]
  | succ m =>
    rw [List.replicate_succ, List.cons_append]
    simp only [parse]
    rw [if_neg (by omega)]
theorem octs_soft {n : Int} : ∀ tl : List Int, soft tl → octs tl n = (n, 0)
  | [], _ => rfl
  | c :: cs, h => by
    have := h c (by simp)
    simp only [octs]
    rw [if_neg (by omega)]
    simp only [trail]
    rw [if_pos]
    rw [List.all_eq_true]
    intro x hx
    have := h x hx
    simp only [Bool.or_eq_true, beq_iff_eq]
    exact this
theorem octs_odd {n odd : Int} (tl : List Int) (h : soft tl) : octs (tl ++ [32, odd]) n = if odd = 0 ∨ odd = 32 then (n, 0) else (0, 20) := by
  by_cases ho : odd = 0 ∨ odd = 32
  · rw [if_pos ho]
    refine octs_soft _ ?_
    intro c hc
    rcases List.mem_append.1 hc with hc | hc
    · exact h c hc
    · simp at hc
      omega
  · rw [if_neg ho]
    have ht : trail (tl ++ [32, odd]) n = (0, 20) := by
      simp only [trail]
      rw [if_neg]
      rw [List.all_eq_true]
      intro hh
      have := hh odd (by simp)
      simp only [Bool.or_eq_true, beq_iff_eq] at this
      exact ho this
    cases tl with
    | nil =>
      simp only [List.nil_append, octs] at ht ⊢
      rw [if_neg (by omega)]
      exact ht
    | cons c cs =>
      have := h c (by simp)
      simp only [List.cons_append, octs] at ht ⊢
      rw [if_neg (by omega)]
      exact ht

section
variable {n odd b1 b0 : Int} (h0 : 0 ≤ n) (h1 : n ≤ 9223372036854775807) (ho0 : 0 ≤ odd) (ho1 : odd ≤ 255) (hb1 : b1 ≤ 30) {m : Nat} (hm : m ≤ 30)
include h0 h1 ho0 ho1 hb1 hm
theorem blank_l1 : ∀ (d i : Nat) (tl : List Int), soft tl → tl.length = i → (i : Int) + d = b1 →
    Ev (fun k => pannierlaw02_OctalBlank.l1 k n odd (List.replicate m 32 ++ (oct n (digs n) ++ tl)) b1 (i : Int)) true
  | 0, i, tl, hs, hl, hi => by
    have hd := digs_le21 h0 (by omega)
    have hsb : Bytes tl := fun c hc => by have := hs c hc; omega
    have hrb : Bytes (List.replicate m (32 : Int)) := fun c hc => by have := List.eq_of_mem_replicate hc; omega
    have hbytes : Bytes (List.replicate m 32 ++ (oct n (digs n) ++ tl)) := hrb.append ((oct_bytes _ n).append hsb)
    have hlen : (List.replicate m (32 : Int) ++ (oct n (digs n) ++ tl)).length ≤ 100 := by simp [oct_length, hl]; omega
    have hodd : Bytes [32, odd] := fun c hc => by simp at hc; omega
    refine Ev.step (fun k => by rw [pannierlaw02_OctalBlank.l1]) ?_
    simp only [show ¬ ((i : Int) < b1) by omega, if_false]
    refine ev_bind (parse_ev _ hbytes (by omega)) ?_
    rw [parse_front h0 h1, octs_soft tl hs]
    simp only [Option.bind_some, List.nil_append, List.length_nil, List.length_cons, show 0 + (List.replicate m (32 : Int) ++ (oct n (digs n) ++ tl)).length < 140737488355328 by omega, show (List.replicate m (32 : Int) ++ (oct n (digs n) ++ tl)).length + (0 + 1 + 1) < 140737488355328 by omega, if_true]
    refine ev_bind (parse_ev _ (hbytes.append hodd) (by rw [List.length_append]; simp only [List.length_cons, List.length_nil]; omega)) ?_
    rw [List.append_assoc, List.append_assoc, parse_front h0 h1, octs_odd tl hs]
    by_cases e0 : odd = 0
    · simp only [e0, if_true, true_or]
      exact ev_eq (ev_some _) (by simp)
    · by_cases e1 : odd = 32
      · simp only [e1, if_true, or_true, if_false, show ¬ ((32 : Int) = 0) by omega]
        exact ev_eq (ev_some _) (by simp)
      · simp only [e0, e1, or_self, if_false]
        exact ev_eq (ev_some _) (by simp [e1])
  | d + 1, i, tl, hs, hl, hi => by
    have hd := digs_le21 h0 (by omega)
    have hlen : (List.replicate m (32 : Int) ++ (oct n (digs n) ++ tl)).length < 140737488355328 := by simp [oct_length, hl]; omega
    refine Ev.step (fun k => by rw [pannierlaw02_OctalBlank.l1]) ?_
    simp only [show (i : Int) < b1 by omega, if_true, hlen, wnext (i := i) (by omega), Int.tmod_eq_emod_of_nonneg (show (0 : Int) ≤ (i : Int) by omega), w64 (x := (i : Int) % 2 * 32) (by omega) (by omega), List.append_assoc]
    refine blank_l1 d (i + 1) (tl ++ [(i : Int) % 2 * 32 % 256]) ?_ (by simp [hl]) (by omega)
    intro c hc
    rcases List.mem_append.1 hc with hc | hc
    · exact hs c hc
    · simp at hc
      omega
end
theorem blank_l0 {n odd b1 b0 : Int} (h0 : 0 ≤ n) (h1 : n ≤ 9223372036854775807) (ho0 : 0 ≤ odd) (ho1 : odd ≤ 255) (hb0 : b0 ≤ 30) (hb10 : 0 ≤ b1) (hb1 : b1 ≤ 30) : ∀ (d i : Nat), (i : Int) + d = b0 →
    Ev (fun k => pannierlaw02_OctalBlank.l0 k n odd (List.replicate i 32) b0 (i : Int) b0 b1) true
  | 0, i, hi => by
    obtain ⟨t, ht, hb⟩ := ref_octal_ev h0 h1
    have hd := digs_le21 h0 (by omega)
    have hsz : t.size = digs n := by rw [← bl_length, hb, oct_length]
    refine Ev.step (fun k => by rw [pannierlaw02_OctalBlank.l0]) ?_
    simp only [show ¬ ((i : Int) < b0) by omega, if_false]
    refine ev_bind ht ?_
    simp only [List.length_replicate, hsz, show i + digs n < 140737488355328 by omega, if_true, bytesOf_bl, hb]
    have := blank_l1 (odd := odd) (b1 := b1) h0 h1 ho0 ho1 hb1 (m := i) (by omega) b1.toNat 0 [] (by intro c hc; cases hc) rfl (by omega)
    rw [List.append_nil] at this
    exact this
  | d + 1, i, hi => by
    refine Ev.step (fun k => by rw [pannierlaw02_OctalBlank.l0]) ?_
    simp only [show (i : Int) < b0 by omega, if_true, List.length_replicate, show i < 140737488355328 by omega, wnext (i := i) (by omega)]
    rw [← List.replicate_succ']
    exact blank_l0 h0 h1 ho0 ho1 hb0 hb10 hb1 d (i + 1) (by omega)
theorem OctalBlank : pannierlaw02_OctalBlank.Pure := by
  intro n b0 b1 odd hn hb0 hb1 hodd
  have hn := i64_wf hn
  have hb0 := i64_wf hb0
  have hb1 := i64_wf hb1
  have hodd := u8_wf hodd
  refine Ev.rounds (r := true) ?_
  unfold pannierlaw02_OctalBlank.f pannierlaw02_reads.f
  simp only [Option.bind_some, if_true]
  have bad : Ev (fun k => pannierlaw02_OctalBlank.j0 k n odd true b0 b1) true := by
    refine Ev.step (fun k => by rw [pannierlaw02_OctalBlank.j0]) ?_
    simp only [if_true]
    exact ev_some _
  by_cases c1 : n < 0
  · simp only [c1, if_true]
    exact bad
  · by_cases c2 : b0 < 0
    · simp only [c1, c2, if_true, if_false]
      exact bad
    · by_cases c3 : b0 > 30
      · simp only [c1, c2, c3, if_true, if_false]
        exact bad
      · by_cases c4 : b1 < 0
        · simp only [c1, c2, c3, c4, if_true, if_false]
          exact bad
        · by_cases c5 : b1 > 30
          · simp only [c1, c2, c3, c4, c5, if_false, decide_true]
            exact bad
          · simp only [c1, c2, c3, c4, c5, if_false, decide_false]
            refine Ev.step (fun k => by rw [pannierlaw02_OctalBlank.j0]) ?_
            simp only [Bool.false_eq_true, if_false]
            exact blank_l0 (by omega) hn.2 hodd.1 hodd.2 (by omega) (by omega) (by omega) b0.toNat 0 (by omega)
end Go.Proofs.Yteeofjlohaeinaa.Pure
