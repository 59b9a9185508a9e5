/- OctalBinary: a number of eight bytes to the base 256, with the sign's byte ahead, is read as it is, however many bytes of its sign stand between. No conditions. -/
import Derived.Test.YteeofjlohaeinaaUOctal
import Derived.Test.YteeofjlohaeinaaXA7
namespace Go.Proofs.Yteeofjlohaeinaa.Pure
open Go.RowKit Go.Proofs.Yteeofjlohaeinaa.XA Go.Proofs.YteeofjlohaeinaaW.PrintWords Go.Proofs.YteeofjlohaeinaaW.PrintLast Go.Proofs.YteeofjlohaeinaaW.PrintMore

def eight (n : Int) : List Int := [n / 72057594037927936 % 256, n / 281474976710656 % 256, n / 1099511627776 % 256, n / 4294967296 % 256, n / 16777216 % 256, n / 65536 % 256, n / 256 % 256, n % 256]
theorem eight_bytes (n : Int) : Bytes (eight n) := by
  intro x hx
  simp only [eight, List.mem_cons, List.not_mem_nil, or_false] at hx
  omega
def sg (n : Int) : Int := if n < 0 then 255 else 0
def bs (n : Int) : Int := if n < 0 then -1 else 0
def fst (n : Int) : Int := if n < 0 then 255 else 128
theorem binf_signs (n : Int) (l : List Int) : ∀ m : Nat, binf (bs n) (List.replicate m (sg n) ++ l) = binf (bs n) l
  | 0 => rfl
  | m + 1 => by
    rw [List.replicate_succ, List.cons_append]
    have := binf_signs n l m
    by_cases h : n < 0
    · simp only [bs, sg, h, if_true, binf] at this ⊢
      rw [if_neg (by omega)]
      exact this
    · simp only [bs, sg, h, if_false, binf] at this ⊢
      rw [if_neg (by omega)]
      exact this
theorem binf_eight (n : Int) (h1 : -9223372036854775808 ≤ n) (h2 : n ≤ 9223372036854775807) : binf (bs n) (eight n) = (n, 0) := by
  by_cases h : n < 0
  · simp only [bs, eight, h, if_true, binf]
    iterate 8 rw [if_neg (by omega)]
    congr 1
    omega
  · simp only [bs, eight, h, if_false, binf]
    iterate 8 rw [if_neg (by omega)]
    congr 1
    omega
theorem parse_binary (n : Int) (m : Nat) (h1 : -9223372036854775808 ≤ n) (h2 : n ≤ 9223372036854775807) : parse (fst n :: (List.replicate m (sg n) ++ eight n)) = (n, 0) := by
  have := binf_eight n h1 h2
  rw [← binf_signs n (eight n) m] at this
  by_cases h : n < 0
  · simp only [fst, h, if_true, parse, binp]
    simp only [bs, h, if_true] at this
    simp [this]
  · simp only [fst, h, if_false, parse, binp]
    simp only [bs, h, if_false] at this
    simp [this]
theorem parse_other (n : Int) (l : List Int) : parse (Go.bits .xor .u8 (fst n) 1 :: l) = (0, 20) := by
  by_cases h : n < 0
  · simp only [fst, h, if_true, show Go.bits .xor .u8 255 1 = 254 by decide +kernel, parse, binp]
    simp
  · simp only [fst, h, if_false, show Go.bits .xor .u8 128 1 = 129 by decide +kernel, parse, binp]
    simp
theorem binary_law_l0 {n : Int} {more : Int} {r : Bool} (hm : more ≤ 20) (e : Ev (fun k => pannierlaw02_OctalBinary.l1 k n (fst n :: List.replicate more.toNat (sg n)) 56) r) :
    ∀ (d i : Nat), (i : Int) + d = more → Ev (fun k => pannierlaw02_OctalBinary.l0 k n (sg n) (fst n :: List.replicate i (sg n)) more (i : Int)) r
  | 0, i, hi => by
    refine Ev.step (fun k => by rw [pannierlaw02_OctalBinary.l0]) ?_
    simp only [show ¬ ((i : Int) < more) by omega, if_false]
    rw [show more.toNat = i by omega] at e
    exact e
  | d + 1, i, hi => by
    refine Ev.step (fun k => by rw [pannierlaw02_OctalBinary.l0]) ?_
    have hl : (fst n :: List.replicate i (sg n)).length < 140737488355328 := by simp; omega
    have ha : fst n :: List.replicate i (sg n) ++ [sg n] = fst n :: List.replicate (i + 1) (sg n) := by rw [List.replicate_succ', List.cons_append]
    simp only [show ((i : Int) < more) by omega, hl, if_true, wnext (i := i) (by omega)]
    rw [ha]
    exact binary_law_l0 hm e d (i + 1) (by omega)
theorem binary_law_step {n : Int} {l : List Int} {r : Bool} {k : Int} (q : Int) (hk : 0 ≤ k) (hk2 : k ≤ 56) (hq : (2 : Int) ^ k.toNat = q) (hl : l.length ≤ 1000)
    (e : Ev (fun j => pannierlaw02_OctalBinary.l1 j n (l ++ [n / q % 256]) (k - 8)) r) : Ev (fun j => pannierlaw02_OctalBinary.l1 j n l k) r := by
  have hs : shr .i64 n k = n / q := by
    unfold shr
    rw [Nat.min_eq_left (by show k.toNat ≤ 64; omega), hq]
  refine Ev.step (fun j => by rw [pannierlaw02_OctalBinary.l1]) ?_
  simp only [show k ≥ 0 from hk, if_true, show l.length < 140737488355328 by omega, hs, w64 (x := k - 8) (by omega) (by omega)]
  exact e

theorem OctalBinary : pannierlaw02_OctalBinary.Pure := by
  intro n more hn hm
  have hn := i64_wf hn
  have hm := i64_wf hm
  refine Ev.rounds (r := true) ?_
  unfold pannierlaw02_OctalBinary.f pannierlaw02_reads.f
  simp only [Option.bind_some, if_true]
  have bad : Ev (fun k => pannierlaw02_OctalBinary.j0 k n more true) true := by
    refine Ev.step (fun k => by rw [pannierlaw02_OctalBinary.j0]) ?_
    simp only [if_true]
    exact ev_some _
  by_cases h0 : more < 0
  · simp only [h0, if_true]
    exact bad
  · by_cases h20 : more > 20
    · simp only [h0, h20, if_false, decide_true]
      exact bad
    · simp only [h0, h20, if_false, decide_false]
      refine Ev.step (fun k => by rw [pannierlaw02_OctalBinary.j0]) ?_
      simp only [Bool.false_eq_true, if_false]
      have whole : Ev (fun k => pannierlaw02_OctalBinary.j1 k n more (fst n) (sg n)) true := by
        refine Ev.step (fun k => by rw [pannierlaw02_OctalBinary.j1]) ?_
        refine binary_law_l0 (more := more) (by omega) ?_ more.toNat 0 (by omega)
        have hlen : (fst n :: List.replicate more.toNat (sg n)).length ≤ 100 := by simp; omega
        generalize hL : fst n :: List.replicate more.toNat (sg n) = L at hlen
        refine binary_law_step 72057594037927936 (by omega) (by omega) (by decide) (by omega) ?_
        refine binary_law_step 281474976710656 (by omega) (by omega) (by decide) (by simp; omega) ?_
        refine binary_law_step 1099511627776 (by omega) (by omega) (by decide) (by simp; omega) ?_
        refine binary_law_step 4294967296 (by omega) (by omega) (by decide) (by simp; omega) ?_
        refine binary_law_step 16777216 (by omega) (by omega) (by decide) (by simp; omega) ?_
        refine binary_law_step 65536 (by omega) (by omega) (by decide) (by simp; omega) ?_
        refine binary_law_step 256 (by omega) (by omega) (by decide) (by simp; omega) ?_
        refine binary_law_step 1 (by omega) (by omega) (by decide) (by simp; omega) ?_
        refine Ev.step (fun j => by rw [pannierlaw02_OctalBinary.l1]) ?_
        have hl : L ++ [n / 72057594037927936 % 256] ++ [n / 281474976710656 % 256] ++ [n / 1099511627776 % 256] ++ [n / 4294967296 % 256] ++ [n / 16777216 % 256] ++ [n / 65536 % 256] ++ [n / 256 % 256] ++ [n / 1 % 256] = fst n :: (List.replicate more.toNat (sg n) ++ eight n) := by
          rw [← hL]
          simp [eight]
        rw [hl]
        have hfb : 0 ≤ fst n ∧ fst n < 256 := by unfold fst; split <;> omega
        have hrb : Bytes (List.replicate more.toNat (sg n) ++ eight n) := by
          refine Bytes.append ?_ (eight_bytes n)
          intro x hx
          have := List.eq_of_mem_replicate hx
          subst this
          unfold sg
          split <;> omega
        have hb : Bytes (fst n :: (List.replicate more.toNat (sg n) ++ eight n)) := by
          intro x hx
          rcases List.mem_cons.1 hx with h | h
          · subst h; exact hfb
          · exact hrb x h
        have hxb : 0 ≤ Go.bits .xor .u8 (fst n) 1 ∧ Go.bits .xor .u8 (fst n) 1 < 256 := by
          unfold fst
          split <;> decide +kernel
        have hb2 : Bytes (Go.bits .xor .u8 (fst n) 1 :: (List.replicate more.toNat (sg n) ++ eight n)) := by
          intro x hx
          rcases List.mem_cons.1 hx with h | h
          · subst h; exact hxb
          · exact hrb x h
        have hlen2 : (fst n :: (List.replicate more.toNat (sg n) ++ eight n)).length ≤ 200 := by simp [eight]; omega
        have hlen3 : (Go.bits .xor .u8 (fst n) 1 :: (List.replicate more.toNat (sg n) ++ eight n)).length ≤ 200 := by simp [eight]; omega
        have hpos : 0 < (((fst n :: (List.replicate more.toNat (sg n) ++ eight n)).length : Nat) : Int) := by simp only [List.length_cons]; omega
        simp only [show ¬ ((56 : Int) - 8 - 8 - 8 - 8 - 8 - 8 - 8 - 8 ≥ 0) by omega, if_false]
        refine ev_bind (parse_ev _ hb (by omega)) ?_
        simp only [hpos, if_true]
        have hset : (fst n :: (List.replicate more.toNat (sg n) ++ eight n)).set (0 : Int).toNat (Go.bits .xor .u8 (rd (fst n :: (List.replicate more.toNat (sg n) ++ eight n)) 0) 1) = Go.bits .xor .u8 (fst n) 1 :: (List.replicate more.toNat (sg n) ++ eight n) := rfl
        rw [hset]
        refine ev_bind (parse_ev _ hb2 (by omega)) ?_
        rw [parse_binary n more.toNat hn.1 hn.2, parse_other]
        simp only [if_true, beq_self_eq_true]
        exact ev_some _
      by_cases hneg : n < 0
      · simp only [hneg, if_true]
        rw [show fst n = 255 by unfold fst; rw [if_pos hneg], show sg n = 255 by unfold sg; rw [if_pos hneg]] at whole
        exact whole
      · simp only [hneg, if_false]
        rw [show fst n = 128 by unfold fst; rw [if_neg hneg], show sg n = 0 by unfold sg; rw [if_neg hneg]] at whole
        exact whole
end Go.Proofs.Yteeofjlohaeinaa.Pure
