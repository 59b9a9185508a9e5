/- joined by merge_u.py: UBase, UOctal, UFormat -/
import Derived.Test.YtchldbhnohicoaaXA0
import Derived.Test.YtchldbhnohicoaaXA4
import Derived.Test.YtchldbhnohicoaaXA7
/- Small words for the plain laws: rounds, wraps, bytes and lists. -/
namespace Go.Proofs.Ytchldbhnohicoaa.Pure
set_option linter.unusedSimpArgs false
open Go.RowKit Go.Proofs.YtchldbhnohicoaaW.PrintWords Go.Proofs.YtchldbhnohicoaaW.PrintLast Go.Proofs.YtchldbhnohicoaaW.PrintMore

theorem w64 {x : Int} (h1 : -9223372036854775808 ≤ x) (h2 : x ≤ 9223372036854775807) : wrap64 x = x := by unfold wrap64; omega

theorem ev_some {α : Type} (r : α) : Ev (fun _ => some r) r := ⟨0, fun _ _ => rfl⟩
theorem ev_eq {α : Type} {g : Nat → Option α} {r s : α} (h : Ev g r) (e : r = s) : Ev g s := e ▸ h
/-- Two callees, one behind the other. -/
theorem ev_bind {α β : Type} {g : Nat → Option α} {f : Nat → α → Option β} {a : α} {r : β} (h : Ev g a) (k : Ev (fun n => f n a) r) : Ev (fun n => (g n).bind (f n)) r := Ev.bind h k
theorem ev_now {α β : Type} {f : Nat → α → Option β} {a : α} {r : β} (k : Ev (fun n => f n a) r) : Ev (fun n => (some a).bind (f n)) r := k

/-- Bytes as numbers. -/
def Bytes (l : List Int) : Prop := ∀ x ∈ l, 0 ≤ x ∧ x < 256
theorem bytes_wf {l : List Int} (h : ∀ x ∈ l, (Lit.int .u8 x).wf = true) : Bytes l := by
  intro x hx
  have := h x hx
  simp only [Lit.wf, IntKind.min, IntKind.max, IntKind.signed, IntKind.bits, Bool.and_eq_true] at this
  simp at this
  omega
theorem i64_wf {x : Int} (h : (Lit.int .i64 x).wf = true) : -9223372036854775808 ≤ x ∧ x ≤ 9223372036854775807 := by
  simp only [Lit.wf, IntKind.min, IntKind.max, IntKind.signed, IntKind.bits, Bool.and_eq_true, decide_eq_true_eq] at h
  simp at h
  omega
theorem u8_wf {x : Int} (h : (Lit.int .u8 x).wf = true) : 0 ≤ x ∧ x ≤ 255 := by
  simp only [Lit.wf, IntKind.min, IntKind.max, IntKind.signed, IntKind.bits, Bool.and_eq_true, decide_eq_true_eq] at h
  simp at h
  omega
theorem Bytes.tail {c : Int} {l : List Int} (h : Bytes (c :: l)) : Bytes l := fun x hx => h x (List.mem_cons_of_mem _ hx)
theorem Bytes.head {c : Int} {l : List Int} (h : Bytes (c :: l)) : 0 ≤ c ∧ c < 256 := h c (List.mem_cons_self ..)
theorem Bytes.drop {l : List Int} (h : Bytes l) (n : Nat) : Bytes (l.drop n) := fun x hx => h x (List.mem_of_mem_drop hx)
theorem Bytes.take {l : List Int} (h : Bytes l) (n : Nat) : Bytes (l.take n) := fun x hx => h x (List.mem_of_mem_take hx)
theorem Bytes.append {l m : List Int} (h : Bytes l) (k : Bytes m) : Bytes (l ++ m) := fun x hx => (List.mem_append.1 hx).elim (h x) (k x)

theorem rd_nat (l : List Int) (i : Nat) : rd l (i : Int) = l.getD i 0 := by simp [rd]
theorem rd_drop {l : List Int} {i : Nat} {c : Int} {cs : List Int} (h : l.drop i = c :: cs) : rd l (i : Int) = c := by
  rw [rd_nat, List.getD_eq_getElem?_getD]
  have : l[i]? = some c := by
    have h2 : (l.drop i)[0]? = some c := by rw [h]; rfl
    simpa [List.getElem?_drop] using h2
  rw [this]; rfl
theorem drop_next {α : Type} {l : List α} {i : Nat} {c : α} {cs : List α} (h : l.drop i = c :: cs) : l.drop (i + 1) = cs := by
  rw [← List.tail_drop, h]; rfl
theorem drop_lt {α : Type} {l : List α} {i : Nat} {c : α} {cs : List α} (h : l.drop i = c :: cs) : i < l.length := by
  rcases Nat.lt_or_ge i l.length with g | g
  · exact g
  · rw [List.drop_eq_nil_of_le g] at h; cases h
theorem drop_ge {α : Type} {l : List α} {i : Nat} (h : l.drop i = []) : l.length ≤ i := List.drop_eq_nil_iff.1 h
theorem wnext {i : Nat} (h : i ≤ 9223372036854775806) : wrap64 ((i : Int) + 1) = ((i + 1 : Nat) : Int) := by rw [w64 (by omega) (by omega)]; omega
theorem cast_succ (i : Nat) : ((i : Int) + 1) = ((i + 1 : Nat) : Int) := by omega

/-- A string's bytes as numbers. -/
def bl (s : ByteArray) : List Int := s.data.toList.map fun b => (b.toNat : Int)
theorem bl_length (s : ByteArray) : (bl s).length = s.size := by
  show (s.data.toList.map _).length = s.data.size
  rw [List.length_map, Array.length_toList]
theorem bl_bytes (s : ByteArray) : Bytes (bl s) := by
  intro x hx
  simp only [bl, List.mem_map] at hx
  obtain ⟨b, _, rfl⟩ := hx
  have := b.toNat_lt
  omega
theorem bt_bl (s : ByteArray) (i : Int) : bt s i = rd (bl s) i := by
  unfold bt rd
  rw [List.getD_eq_getElem?_getD]
  by_cases h : i.toNat < s.size
  · rw [dif_pos h, List.getElem?_eq_getElem (by rw [bl_length]; exact h)]
    simp [bl, ByteArray.getElem_eq_getElem_data]
  · rw [dif_neg h, List.getElem?_eq_none (by rw [bl_length]; omega)]
    rfl
theorem bl_strOfNums {l : List Int} (h : Bytes l) : bl (strOfNums l) = l := by
  simp only [bl, strOfNums, List.map_map]
  conv => rhs; rw [← List.map_id l]
  refine List.map_congr_left fun x hx => ?_
  have := h x hx
  simp only [Function.comp, id]
  rw [UInt8.toNat_ofNat_of_lt' (by show x.toNat < 256; omega)]
  omega
theorem bl_append (s t : ByteArray) : bl (s ++ t) = bl s ++ bl t := by simp [bl]
theorem bl_lit (a : Array UInt8) : bl ⟨a⟩ = a.toList.map fun b => (b.toNat : Int) := rfl
theorem bl_inj {s t : ByteArray} (h : bl s = bl t) : s = t := by
  have e : s.data.toList = t.data.toList := by
    have hi : Function.Injective (fun b : UInt8 => (b.toNat : Int)) := fun a b hab => UInt8.toNat_inj.1 (Int.ofNat_inj.1 hab)
    exact (List.map_inj_right (fun a b hab => hi hab)).1 h
  cases s; cases t
  simp only [ByteArray.mk.injEq]
  exact Array.toList_inj.1 e
theorem toList_data (s : ByteArray) : s.toList = s.data.toList := by
  rw [ByteArray.toList_eq]
end Go.Proofs.Ytchldbhnohicoaa.Pure

/- Layer 2 in plain words: what the printed functions of package octal come to. -/
namespace Go.Proofs.Ytchldbhnohicoaa.Pure
open Go.RowKit Go.Proofs.Ytchldbhnohicoaa.XA Go.Proofs.YtchldbhnohicoaaW.PrintWords Go.Proofs.YtchldbhnohicoaaW.PrintLast Go.Proofs.YtchldbhnohicoaaW.PrintMore
set_option linter.unusedSimpArgs false

def trail (l : List Int) (acc : Int) : Int × Int := if l.all (fun c => c == 0 || c == 32) then (acc, 0) else (0, 20)
def octs : List Int → Int → Int × Int
  | [], acc => (acc, 0)
  | c :: cs, acc => if 48 ≤ c ∧ c ≤ 55 then (if 1152921504606846976 ≤ acc then (0, 20) else octs cs (8 * acc + (c - 48))) else trail (c :: cs) acc
def blanks : List Int → Int × Int
  | [] => (0, 0)
  | c :: cs => if c = 32 then blanks cs else octs (c :: cs) 0
def binf : Int → List Int → Int × Int
  | n, [] => (n, 0)
  | n, b :: bs => if 36028797018963968 ≤ n ∨ n < -36028797018963968 then (0, 20) else binf (256 * n + b) bs
def binp (c : Int) (cs : List Int) : Int × Int := if c = 128 then binf 0 cs else if c = 255 then binf (-1) cs else (0, 20)
def parse : List Int → Int × Int
  | [] => (0, 0)
  | c :: cs => if 128 ≤ c then binp c cs else blanks (c :: cs)

theorem parse_l2 {l : List Int} (hl : l.length ≤ 140737488355328) (acc : Int) : ∀ (rest : List Int) (i : Nat), l.drop i = rest → Ev (fun k => octal_Parse.l2 k l (i : Int) acc) (trail rest acc)
  | [], i, h => by
    have := drop_ge h
    refine Ev.step (fun k => by rw [octal_Parse.l2]) ?_
    simp only [show ¬ ((i : Int) < (l.length : Int)) by omega, if_false]
    exact ev_some _
  | c :: cs, i, h => by
    have hlt := drop_lt h
    have hr := rd_drop h
    have ih := parse_l2 hl acc cs (i + 1) (drop_next h)
    refine Ev.step (fun k => by rw [octal_Parse.l2]) ?_
    simp only [show ((i : Int) < (l.length : Int)) by omega, show (0 : Int) ≤ (i : Int) by omega, if_true, hr, wnext (i := i) (by omega)]
    by_cases h0 : c = 0
    · simp only [h0, if_true]
      exact ev_eq ih (by simp [trail, h0])
    · by_cases h1 : c = 32
      · simp only [h0, h1, if_true, if_false, show ¬ ((32 : Int) = 0) by omega]
        exact ev_eq ih (by simp [trail, h1])
      · simp only [h0, h1, if_false]
        exact ev_eq (ev_some _) (by simp [trail, h0, h1])

theorem parse_l1 {l : List Int} (hb : Bytes l) (hl : l.length ≤ 140737488355328) : ∀ (rest : List Int) (i : Nat) (acc : Int), 0 ≤ acc → acc < 9223372036854775808 → l.drop i = rest → Ev (fun k => octal_Parse.l1 k l (i : Int) acc) (octs rest acc)
  | [], i, acc, h0, h1, h => by
    have := drop_ge h
    refine Ev.step (fun k => by rw [octal_Parse.l1]) ?_
    simp only [show ¬ ((i : Int) < (l.length : Int)) by omega, if_false]
    refine Ev.step (fun k => by rw [octal_Parse.j4]) ?_
    simp only [Bool.false_eq_true, if_false]
    exact ev_eq (parse_l2 hl acc [] i h) (by simp [octs, trail])
  | c :: cs, i, acc, h0, h1, h => by
    have hlt := drop_lt h
    have hr := rd_drop h
    have hc : 0 ≤ c ∧ c < 256 := hb c (List.mem_of_mem_drop (i := i) (by rw [h]; exact List.mem_cons_self ..))
    refine Ev.step (fun k => by rw [octal_Parse.l1]) ?_
    simp only [show ((i : Int) < (l.length : Int)) by omega, show (0 : Int) ≤ (i : Int) by omega, if_true, hr]
    by_cases hd : 48 ≤ c ∧ c ≤ 55
    · simp only [show c ≥ 48 from hd.1, hd.2, decide_true, if_true]
      refine Ev.step (fun k => by rw [octal_Parse.j4]) ?_
      simp only [if_true]
      by_cases hov : acc ≥ 1152921504606846976
      · simp only [hov, if_true]
        exact ev_eq (ev_some _) (by simp only [octs]; rw [if_pos hd, if_pos hov])
      · simp only [hov, if_false, show ((i : Int) < (l.length : Int)) by omega, show (0 : Int) ≤ (i : Int) by omega, if_true, hr, wnext (i := i) (by omega), show (c - 48) % 256 = c - 48 by omega, w64 (x := 8 * acc) (by omega) (by omega), w64 (x := 8 * acc + (c - 48)) (by omega) (by omega)]
        exact ev_eq (parse_l1 hb hl cs (i + 1) (8 * acc + (c - 48)) (by omega) (by omega) (drop_next h)) (by simp only [octs]; rw [if_pos hd, if_neg (by omega)])
    · have e : Ev (fun k => octal_Parse.j4 k l (i : Int) acc false) (octs (c :: cs) acc) := by
        refine Ev.step (fun k => by rw [octal_Parse.j4]) ?_
        simp only [Bool.false_eq_true, if_false]
        exact ev_eq (parse_l2 hl acc (c :: cs) i h) (by simp only [octs]; rw [if_neg hd])
      by_cases h48 : c ≥ 48
      · simp only [h48, show ¬ (c ≤ 55) by omega, decide_false, if_true]
        exact e
      · simp only [h48, if_false]
        exact e

theorem parse_l0 {l : List Int} (hb : Bytes l) (hl : l.length ≤ 140737488355328) : ∀ (rest : List Int) (i : Nat), l.drop i = rest → Ev (fun k => octal_Parse.l0 k l (i : Int)) (blanks rest)
  | [], i, h => by
    have := drop_ge h
    refine Ev.step (fun k => by rw [octal_Parse.l0]) ?_
    simp only [show ¬ ((i : Int) < (l.length : Int)) by omega, if_false]
    refine Ev.step (fun k => by rw [octal_Parse.j2]) ?_
    exact ev_eq (parse_l1 hb hl [] i 0 (by omega) (by omega) h) (by simp [octs, blanks])
  | c :: cs, i, h => by
    have hlt := drop_lt h
    have hr := rd_drop h
    refine Ev.step (fun k => by rw [octal_Parse.l0]) ?_
    simp only [show ((i : Int) < (l.length : Int)) by omega, show (0 : Int) ≤ (i : Int) by omega, if_true, hr, wnext (i := i) (by omega)]
    by_cases h0 : c = 32
    · simp only [h0, if_true]
      exact ev_eq (parse_l0 hb hl cs (i + 1) (drop_next h)) (by simp [blanks, h0])
    · simp only [h0, if_false]
      refine Ev.step (fun k => by rw [octal_Parse.j2]) ?_
      exact ev_eq (parse_l1 hb hl (c :: cs) i 0 (by omega) (by omega) h) (by simp only [blanks]; rw [if_neg h0])

/-- A number shifted by a byte, and the byte. -/
theorem or_byte (n b : Int) (h1 : -36028797018963968 ≤ n) (h2 : n < 36028797018963968) (hb0 : 0 ≤ b) (hb : b < 256) : Go.bits .or .i64 (n * 256) b = 256 * n + b := by
  obtain ⟨m, rfl⟩ := Int.eq_ofNat_of_zero_le hb0
  have hx : ∃ q : Nat, q < 2 ^ 56 ∧ (BitVec.ofInt 64 (n * 256)).toNat = 2 ^ 8 * q ∧ (256 * (q : Int) = n * 256 ∨ 256 * (q : Int) = n * 256 + 18446744073709551616) := by
    refine ⟨(n % 72057594037927936).toNat, by omega, ?_, by omega⟩
    rw [BitVec.toNat_ofInt]
    omega
  obtain ⟨q, hq, hqt, hqn⟩ := hx
  have hm : (BitVec.ofInt 64 (m : Int)).toNat = m := by rw [BitVec.toNat_ofInt]; omega
  show IntKind.i64.wrap (((BitVec.ofInt 64 (n * 256)) ||| (BitVec.ofInt 64 (m : Int))).toNat : Int) = _
  rw [BitVec.toNat_or, hqt, hm, ← Nat.two_pow_add_eq_or_of_lt (by omega) q, IntKind.wrap_i64]
  omega

theorem binary_l0 {l : List Int} (hb : Bytes l) (hl : l.length ≤ 140737488355328) : ∀ (rest : List Int) (i : Nat) (n : Int), l.drop i = rest → Ev (fun k => octal_binary.l0 k n l (l.length : Int) (i : Int)) (binf n rest)
  | [], i, n, h => by
    have := drop_ge h
    refine Ev.step (fun k => by rw [octal_binary.l0]) ?_
    simp only [show ¬ ((i : Int) < (l.length : Int)) by omega, if_false]
    exact ev_some _
  | c :: cs, i, n, h => by
    have hlt := drop_lt h
    have hr := rd_drop h
    have hc : 0 ≤ c ∧ c < 256 := hb c (List.mem_of_mem_drop (i := i) (by rw [h]; exact List.mem_cons_self ..))
    refine Ev.step (fun k => by rw [octal_binary.l0]) ?_
    simp only [show ((i : Int) < (l.length : Int)) by omega, show (0 : Int) ≤ (i : Int) by omega, if_true, hr, wnext (i := i) (by omega)]
    by_cases h1 : n ≥ 36028797018963968
    · simp only [h1, if_true]
      exact ev_eq (ev_some _) (by simp only [binf]; rw [if_pos (Or.inl h1)])
    · by_cases h2 : n < -36028797018963968
      · simp only [h1, h2, if_true, if_false]
        exact ev_eq (ev_some _) (by simp only [binf]; rw [if_pos (Or.inr h2)])
      · simp only [h1, h2, if_false, w64 (x := n * 256) (by omega) (by omega), w64 (x := c) (by omega) (by omega), or_byte n c (by omega) (by omega) hc.1 hc.2]
        exact ev_eq (binary_l0 hb hl cs (i + 1) (256 * n + c) (drop_next h)) (by simp only [binf]; rw [if_neg (by omega)])

theorem binary_ev (c : Int) (cs : List Int) (hb : Bytes (c :: cs)) (hl : (c :: cs).length ≤ 140737488355328) : Ev (fun k => octal_binary.f k (c :: cs)) (binp c cs) := by
  have hr : rd (c :: cs) 0 = c := rfl
  have hlen : 0 < (((c :: cs).length : Nat) : Int) := by simp only [List.length_cons]; omega
  have go : ∀ n : Int, Ev (fun k => octal_binary.j1 k (c :: cs) n) (binf n cs) := fun n => by
    refine Ev.step (fun k => by rw [octal_binary.j1]) ?_
    simp only [show 1 ≤ (((c :: cs).length : Nat) : Int) by omega, if_true, Option.bind_some, List.drop_one, List.tail_cons]
    exact binary_l0 hb.tail (by simp only [List.length_cons] at hl; omega) cs 0 n rfl
  have j0f : Ev (fun k => octal_binary.j0 k (c :: cs) false) (if c = 255 then binf (-1) cs else binf 0 cs) := by
    refine Ev.step (fun k => by rw [octal_binary.j0]) ?_
    simp only [Bool.false_eq_true, if_false, hlen, if_true, hr]
    by_cases h : c = 255
    · simp only [h, if_true]
      have := go (-1)
      rw [h] at this
      exact this
    · simp only [h, if_false]
      exact go 0
  unfold octal_binary.f binp
  simp only [hlen, if_true, hr]
  by_cases h1 : c = 128
  · simp only [h1, if_true]
    rw [h1] at j0f
    exact j0f
  · by_cases h2 : c = 255
    · simp only [h1, h2, if_true, if_false, show ((255 : Int) != 255) = false from rfl, show ¬ ((255 : Int) = 128) by omega]
      rw [h2] at j0f
      exact j0f
    · simp only [h1, h2, if_false, show (c != 255) = true from bne_iff_ne.2 h2]
      refine Ev.step (fun k => by rw [octal_binary.j0]) ?_
      simp only [if_true]
      exact ev_some _

theorem parse_ev (l : List Int) (hb : Bytes l) (hl : l.length ≤ 140737488355328) : Ev (fun k => octal_Parse.f k l) (parse l) := by
  have j0f : Ev (fun k => octal_Parse.j0 k l false) (blanks l) := by
    refine Ev.step (fun k => by rw [octal_Parse.j0]) ?_
    simp only [Bool.false_eq_true, if_false]
    exact parse_l0 hb hl l 0 rfl
  unfold octal_Parse.f
  cases l with
  | nil => exact j0f
  | cons c cs =>
    have hr : rd (c :: cs) 0 = c := rfl
    have hlen : 0 < (((c :: cs).length : Nat) : Int) := by simp only [List.length_cons]; omega
    simp only [gt_iff_lt, hlen, if_true, hr]
    by_cases h : c ≥ 128
    · simp only [h, decide_true]
      refine Ev.step (fun k => by rw [octal_Parse.j0]) ?_
      simp only [if_true]
      refine ev_bind (binary_ev c cs hb hl) ?_
      exact ev_eq (ev_some _) (by simp only [parse]; rw [if_pos h])
    · simp only [h, decide_false]
      exact ev_eq j0f (by simp only [parse]; rw [if_neg (by omega)])
end Go.Proofs.Ytchldbhnohicoaa.Pure

/- Layer 2 in plain words: numbers written as fields. -/
namespace Go.Proofs.Ytchldbhnohicoaa.Pure
open Go.RowKit Go.Proofs.Ytchldbhnohicoaa.XA Go.Proofs.YtchldbhnohicoaaW.PrintWords Go.Proofs.YtchldbhnohicoaaW.PrintLast Go.Proofs.YtchldbhnohicoaaW.PrintMore
set_option linter.unusedSimpArgs false

/-- The last m octal digits of a number. -/
def oct (n : Int) : Nat → List Int
  | 0 => []
  | m + 1 => oct (n / 8) m ++ [48 + n % 8]
theorem oct_length (m : Nat) : ∀ n, (oct n m).length = m := by
  induction m with
  | zero => intro n; rfl
  | succ m ih => intro n; simp [oct, ih]
/-- How many octal digits a number has. -/
def digs (n : Int) : Nat := if h : 8 ≤ n then digs (n / 8) + 1 else 1
termination_by n.toNat
decreasing_by omega
theorem digs_pos (n : Int) : 1 ≤ digs n := by rw [digs]; split <;> omega
theorem digs_small {n : Int} (h : n < 8) : digs n = 1 := by rw [digs, dif_neg (by omega)]
theorem digs_big {n : Int} (h : 8 ≤ n) : digs n = digs (n / 8) + 1 := by rw [digs, dif_pos h]
theorem digs_le : ∀ (m : Nat) (n : Int), 0 ≤ n → (digs n ≤ m + 1 ↔ n < 8 ^ (m + 1))
  | 0, n, h0 => by
    by_cases h : 8 ≤ n
    · rw [digs_big h]
      have := digs_pos (n / 8)
      have e : (8 : Int) ^ (0 + 1) = 8 := by decide
      omega
    · rw [digs_small (by omega)]
      have e : (8 : Int) ^ (0 + 1) = 8 := by decide
      omega
  | m + 1, n, h0 => by
    have e : (8 : Int) ^ (m + 1 + 1) = 8 ^ (m + 1) * 8 := Int.pow_succ ..
    have hp : 0 < (8 : Int) ^ (m + 1) := Int.pow_pos (by omega)
    by_cases h : 8 ≤ n
    · rw [digs_big h]
      have := digs_le m (n / 8) (by omega)
      omega
    · rw [digs_small (by omega)]
      omega
theorem digs_le21 {n : Int} (h0 : 0 ≤ n) (h : n < 9223372036854775808) : digs n ≤ 21 := by
  have := (digs_le 20 n h0).2
  have e : (8 : Int) ^ (20 + 1) = 9223372036854775808 := by decide
  omega

theorem digits_l0 : ∀ (d : Nat) (n : Int) (k : Nat), 0 ≤ n → n ≤ 9223372036854775807 → digs n = d + 1 → k + d ≤ 1000 → Ev (fun r => octal_digits.l0 r n (k : Int)) ((k + d : Nat) : Int)
  | 0, n, k, h0, h1, hd, hk => by
    have hn : ¬ n ≥ 8 := by
      intro h
      rw [digs_big h] at hd
      have := digs_pos (n / 8)
      omega
    refine Ev.step (fun r => by rw [octal_digits.l0]) ?_
    simp only [hn, if_false]
    exact ev_some _
  | d + 1, n, k, h0, h1, hd, hk => by
    have hn : n ≥ 8 := by
      rcases Int.lt_or_le n 8 with h | h
      · rw [digs_small h] at hd; omega
      · exact h
    refine Ev.step (fun r => by rw [octal_digits.l0]) ?_
    simp only [hn, if_true, Int.tdiv_eq_ediv_of_nonneg h0, w64 (x := n / 8) (by omega) (by omega), wnext (i := k) (by omega)]
    have := digits_l0 d (n / 8) (k + 1) (by omega) (by omega) (by rw [digs_big hn] at hd; omega) (by omega)
    exact ev_eq this (by omega)
theorem digits_ev {n : Int} (h0 : 0 ≤ n) (h1 : n ≤ 9223372036854775807) : Ev (fun r => octal_digits.f r n) (digs n : Int) := by
  have hp := digs_pos n
  have hb := digs_le21 h0 (by omega)
  have := digits_l0 (digs n - 1) n 1 h0 h1 (by omega) (by omega)
  unfold octal_digits.f
  exact ev_eq this (by omega)
def fits (n w : Int) : Bool := decide (0 ≤ n ∧ 2 ≤ w ∧ (digs n : Int) < w)
theorem fits_ev {n w : Int} (h : -9223372036854775808 ≤ n) (h1 : n ≤ 9223372036854775807) : Ev (fun r => octal_Fits.f r n w) (fits n w) := by
  unfold octal_Fits.f
  by_cases h0 : n ≥ 0
  · by_cases h2 : w ≥ 2
    · simp only [h0, h2, if_true]
      refine ev_bind (digits_ev h0 h1) ?_
      exact ev_eq (ev_some _) (by simp [fits, show 0 ≤ n from h0, show 2 ≤ w from h2])
    · simp only [h0, h2, if_true, if_false]
      exact ev_eq (ev_some _) (by simp [fits]; omega)
  · simp only [h0, if_false]
    exact ev_eq (ev_some _) (by simp [fits]; omega)

theorem format_l0 : ∀ (m : Nat) (n : Int) (tl : List Int), 0 ≤ n → n ≤ 9223372036854775807 → m + tl.length ≤ 1000 →
    Ev (fun r => octal_Format.l0 r n (List.replicate m 0 ++ tl) ((m : Int) - 1)) (oct n m ++ tl, 0)
  | 0, n, tl, h0, h1, hm => by
    refine Ev.step (fun r => by rw [octal_Format.l0]) ?_
    simp only [show ¬ (((0 : Nat) : Int) - 1 ≥ 0) by omega, if_false]
    exact ev_some _
  | m + 1, n, tl, h0, h1, hm => by
    have hlen : ((List.replicate (m + 1) (0 : Int) ++ tl).length : Int) = ((m + 1 + tl.length : Nat) : Int) := by simp
    refine Ev.step (fun r => by rw [octal_Format.l0]) ?_
    rw [hlen]
    simp only [show ((m + 1 : Nat) : Int) - 1 = (m : Int) by omega, show ((m : Int) ≥ 0) by omega, show (0 : Int) ≤ (m : Int) by omega, show (m : Int) < ((m + 1 + tl.length : Nat) : Int) by omega, if_true, Int.toNat_natCast, Int.tdiv_eq_ediv_of_nonneg h0, Int.tmod_eq_emod_of_nonneg h0,
      w64 (x := n / 8) (by omega) (by omega), w64 (x := 48 + n % 8) (by omega) (by omega), show (48 + n % 8) % 256 = 48 + n % 8 by omega, w64 (x := (m : Int) - 1) (by omega) (by omega)]
    have hset : (List.replicate (m + 1) (0 : Int) ++ tl).set m (48 + n % 8) = List.replicate m 0 ++ ((48 + n % 8) :: tl) := by
      rw [List.replicate_succ', List.append_assoc, List.set_append_right _ _ (by simp)]
      simp
    rw [hset]
    refine ev_eq (format_l0 m (n / 8) ((48 + n % 8) :: tl) (by omega) (by omega) (by simp only [List.length_cons] at hm ⊢; omega)) ?_
    simp [oct]

/-- What Format answers. -/
def fmt (n w : Int) : List Int × Int := if w < 2 ∨ 24 < w then ([], 1) else if fits n w then (oct n (w.toNat - 1) ++ [0], 0) else ([], 20)
theorem format_ev {n w : Int} (h : -9223372036854775808 ≤ n) (h1 : n ≤ 9223372036854775807) : Ev (fun r => octal_Format.f r n w) (fmt n w) := by
  have bad : (w < 2 ∨ 24 < w) → Ev (fun r => octal_Format.j0 r n w true) (fmt n w) := fun hw => by
    refine Ev.step (fun r => by rw [octal_Format.j0]) ?_
    simp only [if_true]
    exact ev_eq (ev_some _) (by rw [fmt, if_pos hw])
  unfold octal_Format.f
  by_cases h2 : w < 2
  · simp only [h2, if_true]
    exact bad (Or.inl h2)
  · by_cases h3 : w > 24
    · simp only [h2, h3, if_false, decide_true]
      exact bad (Or.inr h3)
    · simp only [h2, h3, if_false, decide_false]
      have hw : ¬ (w < 2 ∨ 24 < w) := by omega
      refine Ev.step (fun r => by rw [octal_Format.j0]) ?_
      simp only [Bool.false_eq_true, if_false]
      refine ev_bind (fits_ev h h1) ?_
      by_cases hf : fits n w = true
      · have h0 : 0 ≤ n := by simp [fits] at hf; omega
        simp only [hf, if_true, show 0 ≤ w by omega, show w.toNat ≤ 281474976710656 by omega, w64 (x := w - 2) (by omega) (by omega)]
        have := format_l0 (w.toNat - 1) n [0] h0 h1 (by simp; omega)
        have e1 : List.replicate (w.toNat - 1) (0 : Int) ++ [0] = List.replicate w.toNat 0 := by
          rw [← List.replicate_succ', show w.toNat - 1 + 1 = w.toNat by omega]
        rw [e1, show ((w.toNat - 1 : Nat) : Int) - 1 = w - 2 by omega] at this
        exact ev_eq this (by rw [fmt, if_neg hw, if_pos hf])
      · simp only [hf]
        exact ev_eq (ev_some _) (by rw [fmt, if_neg hw, if_neg hf])

theorem oct_dig (m : Nat) : ∀ (n : Int) (c : Int), c ∈ oct n m → 48 ≤ c ∧ c ≤ 55 := by
  induction m with
  | zero => intro n c hc; cases hc
  | succ m ih =>
    intro n c hc
    rcases List.mem_append.1 hc with h | h
    · exact ih _ c h
    · simp at h; omega
theorem oct_bytes (m : Nat) (n : Int) : Bytes (oct n m) := fun c hc => by have := oct_dig m n c hc; omega
/-- Digits are read as their number. -/
theorem octs_oct (tl : List Int) : ∀ (m : Nat) (n : Int), 0 ≤ n → n < 9223372036854775808 → n < 8 ^ m → ∀ (more : List Int), octs (oct n m ++ more) 0 = octs more n
  | 0, n, h0, h1, hn, more => by
    have e : (8 : Int) ^ 0 = 1 := by decide
    have : n = 0 := by omega
    subst this
    rfl
  | m + 1, n, h0, h1, hn, more => by
    have e : (8 : Int) ^ (m + 1) = 8 ^ m * 8 := Int.pow_succ ..
    simp only [oct, List.append_assoc, List.singleton_append]
    rw [octs_oct tl m (n / 8) (by omega) (by omega) (by omega)]
    simp only [octs]
    rw [if_pos (by omega), if_neg (by omega)]
    congr 1
    omega
theorem fits_pow {n : Int} {w : Nat} (h : fits n w = true) : 0 ≤ n ∧ n < 8 ^ (w - 1) := by
  simp only [fits, decide_eq_true_eq] at h
  refine ⟨h.1, ?_⟩
  have := (digs_le (w - 2) n h.1).1 (by omega)
  rw [show w - 2 + 1 = w - 1 by omega] at this
  exact this
/-- What is written is read as it was. -/
theorem parse_fmt {n : Int} {w : Nat} (hw : 2 ≤ w) (h1 : n ≤ 9223372036854775807) (h : fits n w = true) : parse (oct n (w - 1) ++ [0]) = (n, 0) := by
  obtain ⟨h0, hn⟩ := fits_pow h
  have key : octs (oct n (w - 1) ++ [0]) 0 = (n, 0) := by
    rw [octs_oct [] (w - 1) n h0 (by omega) hn]
    simp [octs, trail]
  obtain ⟨c, cs, hc⟩ : ∃ c cs, oct n (w - 1) ++ [0] = c :: cs := by
    cases hh : oct n (w - 1) ++ [0] with
    | nil => simp at hh
    | cons c cs => exact ⟨c, cs, rfl⟩
  have hcd : 48 ≤ c ∧ c ≤ 55 := by
    refine oct_dig (w - 1) n c ?_
    have hl := oct_length (w - 1) n
    cases ho : oct n (w - 1) with
    | nil => rw [ho] at hl; simp at hl; omega
    | cons d ds => rw [ho] at hc; simp at hc; rw [hc.1]; simp
  rw [hc] at key ⊢
  simp only [parse]
  rw [if_neg (by omega)]
  simp only [blanks]
  rw [if_neg (by omega)]
  exact key
end Go.Proofs.Ytchldbhnohicoaa.Pure
