/- The document's header of a block, as the walk tells it. -/
import Derived.Test.YtchldbhnohicoaaXA10
import Derived.Test.YtchldbhnohicoaaXA11
import Derived.Laws.CopyOwn
namespace Go.Proofs.Ytchldbhnohicoaa.XA
open Go.RowKit Go.Proofs.YtchldbhnohicoaaW.PrintWords Go.Proofs.YtchldbhnohicoaaW.PrintLast Go.Proofs.YtchldbhnohicoaaW.PrintMore
set_option linter.unusedVariables false
set_option linter.unusedSimpArgs false

abbrev pannierref06_Decode.R := Int × Int × ByteArray × ByteArray × ByteArray × ByteArray × ByteArray × Int × Int × Int × Int × Int × Int
def pannierref06_Decode.fr (i : Nat) : Nat := [100, 108, 116, 124, 136, 148].getD i 0
def pannierref06_Decode.bad (e : Int) : Int × Int × ByteArray × ByteArray × ByteArray × ByteArray × ByteArray × Int × Int × Int × Int × Int × Int := (0, 0, ⟨#[]⟩, ⟨#[]⟩, ⟨#[]⟩, ⟨#[]⟩, ⟨#[]⟩, 0, 0, 0, 0, 0, e)
def pannierref06_Decode.nums (k : Nat) (a : ByteArray) : Nat → Nat → List Int → Option (List Int × Int)
  | 0, _, ns => some (ns, 0)
  | n + 1, i, ns => (pannierref02_Parse.f k (a.extract (pannierref06_Decode.fr i) (pannierref06_Decode.fr (i + 1)))).bind fun t => if t.2 = 0 then pannierref06_Decode.nums k a n (i + 1) (ns.set i t.1) else some (ns, t.2)
def pannierref06_Decode.ends (k : Nat) (a : ByteArray) (form : Int) (nm lk pf : ByteArray) (ty : Int) (ns : List Int) : Option (Int × Int × ByteArray × ByteArray × ByteArray × ByteArray × ByteArray × Int × Int × Int × Int × Int × Int) :=
  (pannierref06_text.f k (a.extract 265 297)).bind fun u => (pannierref06_text.f k (a.extract 297 329)).bind fun g => some (form, ty, nm, lk, pf, u, g, ns.getD 0 0, ns.getD 1 0, ns.getD 2 0, ns.getD 3 0, ns.getD 4 0, 0)
def pannierref06_Decode.tail (k : Nat) (a : ByteArray) (nm lk : ByteArray) (ty : Int) (ns : List Int) : Option (Int × Int × ByteArray × ByteArray × ByteArray × ByteArray × ByteArray × Int × Int × Int × Int × Int × Int) :=
  if (a.extract 257 265).toList = ([117, 115, 116, 97, 114, 0, 48, 48] : List UInt8) then
    (pannierref06_text.f k (a.extract 345 500)).bind fun p => pannierref06_Decode.ends k a 1 nm lk p ty ns
  else if (a.extract 257 265).toList = ([117, 115, 116, 97, 114, 32, 32, 0] : List UInt8) then pannierref06_Decode.ends k a 2 nm lk ⟨#[]⟩ ty ns
  else some (0, ty, nm, lk, ⟨#[]⟩, ⟨#[]⟩, ⟨#[]⟩, ns.getD 0 0, ns.getD 1 0, ns.getD 2 0, ns.getD 3 0, ns.getD 4 0, 0)
def pannierref06_Decode.after (k : Nat) (a : ByteArray) (nm lk : ByteArray) (ty : Int) (i : Nat) (ns : List Int) : Option (Int × Int × ByteArray × ByteArray × ByteArray × ByteArray × ByteArray × Int × Int × Int × Int × Int × Int) :=
  (pannierref06_Decode.nums k a (5 - i) i ns).bind fun t => if t.2 = 0 then pannierref06_Decode.tail k a nm lk ty t.1 else some (pannierref06_Decode.bad t.2)
def pannierref06_Decode.f (k : Nat) (a : ByteArray) : Option (Int × Int × ByteArray × ByteArray × ByteArray × ByteArray × ByteArray × Int × Int × Int × Int × Int × Int) :=
  if (a.size : Int) = 512 then (pannierref05_Right.f k a).bind fun t => if t = true then
      (pannierref06_text.f k (a.extract 0 100)).bind fun nm => (pannierref06_text.f k (a.extract 157 257)).bind fun lk => pannierref06_Decode.after k a nm lk (bt a 156) 0 [0, 0, 0, 0, 0]
    else some (pannierref06_Decode.bad 50)
  else some (pannierref06_Decode.bad 1)
theorem pannierref06_Decode.mono_nums (a : ByteArray) (k : Nat) : ∀ n i ns, LeO (pannierref06_Decode.nums k a n i ns) (pannierref06_Decode.nums (k + 1) a n i ns)
  | 0, i, ns => LeO.refl _
  | n + 1, i, ns => LeO.bind (pannierref02_Parse.mono _ _) (fun _ => LeO.ite (pannierref06_Decode.mono_nums a k n _ _) (LeO.refl _))
theorem pannierref06_Decode.mono_ends (k : Nat) (a : ByteArray) (form : Int) (nm lk pf : ByteArray) (ty : Int) (ns : List Int) : LeO (pannierref06_Decode.ends k a form nm lk pf ty ns) (pannierref06_Decode.ends (k + 1) a form nm lk pf ty ns) :=
  LeO.bind (pannierref06_text.mono _ _) (fun _ => LeO.bind (pannierref06_text.mono _ _) (fun _ => LeO.refl _))
theorem pannierref06_Decode.mono_tail (k : Nat) (a : ByteArray) (nm lk : ByteArray) (ty : Int) (ns : List Int) : LeO (pannierref06_Decode.tail k a nm lk ty ns) (pannierref06_Decode.tail (k + 1) a nm lk ty ns) :=
  LeO.ite (LeO.bind (pannierref06_text.mono _ _) (fun _ => pannierref06_Decode.mono_ends k a _ _ _ _ _ _)) (LeO.ite (pannierref06_Decode.mono_ends k a _ _ _ _ _ _) (LeO.refl _))
theorem pannierref06_Decode.mono : ∀ a0 k, LeO (pannierref06_Decode.f k a0) (pannierref06_Decode.f (k + 1) a0) := by
  intro a0 k
  unfold pannierref06_Decode.f pannierref06_Decode.after
  exact LeO.ite (LeO.bind (pannierref05_Right.mono _ _) (fun _ => LeO.ite (LeO.bind (pannierref06_text.mono _ _) (fun _ => LeO.bind (pannierref06_text.mono _ _) (fun _ => LeO.bind (pannierref06_Decode.mono_nums _ _ _ _ _) (fun _ => LeO.ite (pannierref06_Decode.mono_tail _ _ _ _ _ _) (LeO.refl _))))) (LeO.refl _))) (LeO.refl _)

def pannierref06_Decode.hr (form : Int) (ty : Int) (nm lk pf us gr : ByteArray) (ns : List Int) : Array Value :=
  #[.int .i64 form, .int .u8 ty, .string nm, .string lk, .string pf, .string us, .string gr, .int .i64 (ns.getD 0 0), .int .i64 (ns.getD 1 0), .int .i64 (ns.getD 2 0), .int .i64 (ns.getD 3 0), .int .i64 (ns.getD 4 0)]
def pannierref06_Decode.lits : Array Value := #[.int .i64 100, .int .i64 108, .int .i64 116, .int .i64 124, .int .i64 136, .int .i64 148]
theorem pannierref06_Decode.five {j : Nat} (h : j < 5) : j = 0 ∨ j = 1 ∨ j = 2 ∨ j = 3 ∨ j = 4 := by omega
theorem pannierref06_Decode.lits0 {i : Nat} (h : i < 5) : pannierref06_Decode.lits[i]? = some (.int .i64 (pannierref06_Decode.fr i)) := by rcases pannierref06_Decode.five h with rfl | rfl | rfl | rfl | rfl <;> rfl
theorem pannierref06_Decode.lits1 {i : Nat} (h : i < 5) : pannierref06_Decode.lits[i + 1]? = some (.int .i64 (pannierref06_Decode.fr (i + 1))) := by rcases pannierref06_Decode.five h with rfl | rfl | rfl | rfl | rfl <;> rfl
theorem pannierref06_Decode.hr_set {form : Int} {nm lk pf us gr : ByteArray} {ty : Int} {ns : List Int} {i : Nat} (h : i < 5) (hl : ns.length = 5) (v : Int) :
    (pannierref06_Decode.hr form ty nm lk pf us gr ns).setIfInBounds (7 + i) (.int .i64 v) = pannierref06_Decode.hr form ty nm lk pf us gr (ns.set i v) := by
  match ns, hl with
  | [n0, n1, n2, n3, n4], _ => rcases pannierref06_Decode.five h with rfl | rfl | rfl | rfl | rfl <;> rfl
theorem pannierref06_Decode.hr_get {form : Int} {nm lk pf us gr : ByteArray} {ty : Int} {ns : List Int} {i : Nat} (h : i < 5) : (pannierref06_Decode.hr form ty nm lk pf us gr ns)[7 + i]? = some (.int .i64 (ns.getD i 0)) := by
  rcases pannierref06_Decode.five h with rfl | rfl | rfl | rfl | rfl <;> rfl
theorem pannierref06_Decode.fr_le {j : Nat} (h : j < 5) : pannierref06_Decode.fr j ≤ pannierref06_Decode.fr (j + 1) ∧ pannierref06_Decode.fr (j + 1) ≤ 148 := by
  rcases pannierref06_Decode.five h with rfl | rfl | rfl | rfl | rfl <;> decide
abbrev pannierref06_Decode.Z : Array Value := #[.int .i64 0, .int .u8 0, .string ⟨#[]⟩, .string ⟨#[]⟩, .string ⟨#[]⟩, .string ⟨#[]⟩, .string ⟨#[]⟩, .int .i64 0, .int .i64 0, .int .i64 0, .int .i64 0, .int .i64 0]
theorem pannierref06_Decode.size32 : (Try.prog.info? 32).map (·.size) = some 12 := by kernel_rfl
theorem pannierref06_Decode.size32Z : (Try.prog.info? 32).map (·.size) = some pannierref06_Decode.Z.size := pannierref06_Decode.size32
theorem pannierref06_Decode.allZ : pannierref06_Decode.Z.all (·.oneCell') = true := by simp [pannierref06_Decode.Z, Value.oneCell']
theorem pannierref06_Decode.size32h (form ty : Int) (nm lk pf us gr : ByteArray) (ns : List Int) : (Try.prog.info? 32).map (·.size) = some (pannierref06_Decode.hr form ty nm lk pf us gr ns).size := pannierref06_Decode.size32
theorem pannierref06_Decode.sizeh (form ty : Int) (nm lk pf us gr : ByteArray) (ns : List Int) : pannierref06_Decode.Z.size = (pannierref06_Decode.hr form ty nm lk pf us gr ns).size := rfl
theorem pannierref06_Decode.allh (form ty : Int) (nm lk pf us gr : ByteArray) (ns : List Int) : (pannierref06_Decode.hr form ty nm lk pf us gr ns).all (·.oneCell') = true := by simp [pannierref06_Decode.hr, Value.oneCell']
structure pannierref06_Decode.Mem (w wr : World) (g4 : Nat) (cs : Array Value) : Prop where
  z : wr.heap[w.heap.size]? = some (.cells pannierref06_Decode.Z 32 (0, 0))
  h : wr.heap[g4]? = some (.cells cs 32 (0, 0))
  b : Below w.heap.size w wr
  lt : w.heap.size < g4
theorem pannierref06_Decode.Mem.below {w wr w1 : World} {g4 : Nat} {cs : Array Value} (h : pannierref06_Decode.Mem w wr g4 cs) (hb : Below wr.heap.size wr w1) : pannierref06_Decode.Mem w w1 g4 cs :=
  ⟨blk_below h.z hb, blk_below h.h hb, below_step h.b hb, h.lt⟩
theorem pannierref06_Decode.Mem.drewN {w wr : World} {g4 : Nat} {cs : Array Value} (h : pannierref06_Decode.Mem w wr g4 cs) (n : Nat) : pannierref06_Decode.Mem w (wr.drewN n) g4 cs :=
  ⟨blk_drewN h.z n, blk_drewN h.h n, pw_below_drewN h.b n, h.lt⟩
theorem pannierref06_Decode.Mem.put {w wr : World} {g4 : Nat} {cs cs' : Array Value} (h : pannierref06_Decode.Mem w wr g4 cs) (i : Nat) (v : Value) (e : cs.setIfInBounds i v = cs') : pannierref06_Decode.Mem w (wr.setCell ⟨g4, i, none⟩ v) g4 cs' :=
  ⟨blk_far h.z (by have := h.lt; simp only; omega) v, blk_put h.h i v e, below_set h.b (by have := h.lt; omega), h.lt⟩
theorem pannierref06_Decode.Mem.new {w w1 : World} (hb : Below (w.alloc (.cells pannierref06_Decode.Z 32)).heap.size (w.alloc (.cells pannierref06_Decode.Z 32)) w1) (cs : Array Value) : pannierref06_Decode.Mem w (w1.alloc (.cells cs 32)) w1.heap.size cs :=
  ⟨blk_alloc (blk_below (blk_new _ _) hb) _, blk_new _ _, below_alloc (below_step (below_alloc (Below.refl _ _) _) hb) _, blk_lt (blk_below (blk_new _ _) hb)⟩
structure pannierref06_Decode.Mem5 (w wr : World) (g4 g5 : Nat) (cs : Array Value) : Prop where
  m : pannierref06_Decode.Mem w wr g4 cs
  l : wr.heap[g5]? = some (.cells pannierref06_Decode.lits 3 (0, 0))
  lt : g4 < g5
theorem pannierref06_Decode.Mem5.mk0 {w wc : World} {g4 : Nat} {cs : Array Value} (h : pannierref06_Decode.Mem w wc g4 cs) : pannierref06_Decode.Mem5 w (wc.alloc (.cells pannierref06_Decode.lits 3)) g4 wc.heap.size cs :=
  ⟨⟨blk_alloc h.z _, blk_alloc h.h _, below_alloc h.b _, h.lt⟩, blk_new _ _, blk_lt h.h⟩
theorem pannierref06_Decode.Mem5.mk1 {w wc : World} {g4 g5 : Nat} {cs : Array Value} (h : pannierref06_Decode.Mem w wc g4 cs) (e : wc.heap.size = g5) : pannierref06_Decode.Mem5 w (wc.alloc (.cells pannierref06_Decode.lits 3)) g4 g5 cs := e ▸ pannierref06_Decode.Mem5.mk0 h
theorem pannierref06_Decode.Mem5.below {w wr w1 : World} {g4 g5 : Nat} {cs : Array Value} (h : pannierref06_Decode.Mem5 w wr g4 g5 cs) (hb : Below wr.heap.size wr w1) : pannierref06_Decode.Mem5 w w1 g4 g5 cs := ⟨h.m.below hb, blk_below h.l hb, h.lt⟩
theorem pannierref06_Decode.Mem5.drewN {w wr : World} {g4 g5 : Nat} {cs : Array Value} (h : pannierref06_Decode.Mem5 w wr g4 g5 cs) (n : Nat) : pannierref06_Decode.Mem5 w (wr.drewN n) g4 g5 cs := ⟨h.m.drewN n, blk_drewN h.l n, h.lt⟩
theorem pannierref06_Decode.Mem5.drew {w wr : World} {g4 g5 : Nat} {cs : Array Value} (h : pannierref06_Decode.Mem5 w wr g4 g5 cs) : pannierref06_Decode.Mem5 w wr.drew g4 g5 cs := ⟨⟨blk_drew h.m.z, blk_drew h.m.h, below_drew1 h.m.b, h.m.lt⟩, blk_drew h.l, h.lt⟩
theorem pannierref06_Decode.Mem5.put {w wr : World} {g4 g5 : Nat} {cs cs' : Array Value} (h : pannierref06_Decode.Mem5 w wr g4 g5 cs) (i : Nat) (v : Value) (e : cs.setIfInBounds i v = cs') : pannierref06_Decode.Mem5 w (wr.setCell ⟨g4, i, none⟩ v) g4 g5 cs' :=
  ⟨h.m.put i v e, blk_far h.l (by have := h.lt; simp only; omega) v, h.lt⟩
theorem pannierref06_Decode.after_step {k : Nat} {a : ByteArray} {nm lk : ByteArray} {ty : Int} {j : Nat} {ns : List Int} (h : j < 5) : pannierref06_Decode.after k a nm lk ty j ns = (pannierref02_Parse.f k (a.extract (pannierref06_Decode.fr j) (pannierref06_Decode.fr (j + 1)))).bind fun t => if t.2 = 0 then pannierref06_Decode.after k a nm lk ty (j + 1) (ns.set j t.1) else some (pannierref06_Decode.bad t.2) := by
  unfold pannierref06_Decode.after
  obtain ⟨m, hm⟩ : ∃ m, 5 - j = m + 1 := ⟨4 - j, by omega⟩
  have hm2 : 5 - (j + 1) = m := by omega
  rw [hm, hm2, pannierref06_Decode.nums]
  cases pannierref02_Parse.f k (a.extract (pannierref06_Decode.fr j) (pannierref06_Decode.fr (j + 1))) with
  | none => rfl
  | some t =>
    simp only [Option.bind_some]
    by_cases he : t.2 = 0
    · rw [if_pos he, if_pos he]
    · rw [if_neg he, if_neg he]
      simp only [Option.bind_some, if_neg he]
theorem pannierref06_Decode.after_last {k : Nat} {a : ByteArray} {nm lk : ByteArray} {ty : Int} {ns : List Int} : pannierref06_Decode.after k a nm lk ty 5 ns = pannierref06_Decode.tail k a nm lk ty ns := by
  unfold pannierref06_Decode.after
  rw [show 5 - 5 = 0 from rfl, pannierref06_Decode.nums]
  rfl

set_option maxHeartbeats 4000000 in
set_option maxRecDepth 100000 in
theorem pannierref06_Decode.calls_main (k : Nat) (a : ByteArray) (nm lk : ByteArray) (ty : Int) (r : pannierref06_Decode.R) (w : World) (hl : a.size = 512)
    (hsum : pannierref05_Right.f k a = some true) (hnm : pannierref06_text.f k (a.extract 0 100) = some nm) (hlk : pannierref06_text.f k (a.extract 157 257) = some lk)
    (hty : ty = bt a 156) (h : pannierref06_Decode.after k a nm lk ty 0 [0, 0, 0, 0, 0] = some r) :
    Calls Try.prog 12 #[.string a] w fun e w' => e = .returned (.tuple #[.agg #[.int .i64 r.1, .int .u8 r.2.1, .string r.2.2.1, .string r.2.2.2.1, .string r.2.2.2.2.1, .string r.2.2.2.2.2.1, .string r.2.2.2.2.2.2.1, .int .i64 r.2.2.2.2.2.2.2.1, .int .i64 r.2.2.2.2.2.2.2.2.1, .int .i64 r.2.2.2.2.2.2.2.2.2.1, .int .i64 r.2.2.2.2.2.2.2.2.2.2.1, .int .i64 r.2.2.2.2.2.2.2.2.2.2.2.1], .int .i64 r.2.2.2.2.2.2.2.2.2.2.2.2]) ∧ Below w.heap.size w w' := by
  have hu32 := Try.underlying32
  have HS := Aside0.mk hsum
  have HN := Aside0.mk hnm
  have HK := Aside0.mk hlk
  have HH := Aside0.mk h
  have HL := Aside0.mk hl
  have c2b0 : ((a.size : Int) == 512) = true := beq_iff_eq.mpr (by omega)
  have c2b1 : ((a.size : Int) != 512) = false := bne_eq_false_iff_eq.mpr (by omega)
  have hi1 : (156 : Int) < (a.size : Int) := by omega
  have hi2 : (100 : Int) ≤ (a.size : Int) := by omega
  have hi3 : (257 : Int) ≤ (a.size : Int) := by omega
  have hi4 : (265 : Int) ≤ (a.size : Int) := by omega
  have hi5 : (297 : Int) ≤ (a.size : Int) := by omega
  have hi6 : (329 : Int) ≤ (a.size : Int) := by omega
  have hi7 : (500 : Int) ≤ (a.size : Int) := by omega
  have hi8 : (156 < a.size) = True := eq_true (by omega)
  have h156 : 156 < a.size := by omega
  have hty2 : ty = ((a[156]'h156).toNat : Int) := by
    rw [hty]
    unfold bt
    rw [dif_pos (by show 156 < a.size; omega)]
    rfl
  have hty3 := hty2.symm
  clear hsum hnm hlk h hl hty hty2
  go_enter Try.func12, Try.ntmps12
  go_wp2_with (first
    | (go_at_call 25; (with_reducible refine (pannierref05_Right.calls k a true _ HS.out).mono ?_); rintro e w1 ⟨rfl, hb1⟩; have HB1 := Aside0.mk hb1; clear hb1)
    | (go_at_call 26; (with_reducible refine (pannierref06_text.calls k (a.extract 0 100) nm _ HN.out).mono ?_); rintro e w2 ⟨rfl, ⟨nd1, rfl⟩⟩)
    | (go_at_call 26; (with_reducible refine (pannierref06_text.calls k (a.extract 157 257) lk _ HK.out).mono ?_); rintro e w3 ⟨rfl, ⟨nd2, rfl⟩⟩)
    | fail)
  have HM0 := pannierref06_Decode.Mem5.mk1 (g5 := w1.heap.size + 1) ((((pannierref06_Decode.Mem.new HB1.out (pannierref06_Decode.hr 0 ty ⟨#[]⟩ ⟨#[]⟩ ⟨#[]⟩ ⟨#[]⟩ ⟨#[]⟩ [0, 0, 0, 0, 0])).drewN nd1).put (cs' := pannierref06_Decode.hr 0 ty nm ⟨#[]⟩ ⟨#[]⟩ ⟨#[]⟩ ⟨#[]⟩ [0, 0, 0, 0, 0]) 2 (.string nm) rfl |>.drewN nd2).put (cs' := pannierref06_Decode.hr 0 ty nm lk ⟨#[]⟩ ⟨#[]⟩ ⟨#[]⟩ [0, 0, 0, 0, 0]) 3 (.string lk) rfl) (by simp)
  have HM1 := Aside0.mk HM0
  clear HM0
  go_loopw [6] (fun i wr => ∃ (j : Nat) (ns : List Int), j ≤ 5 ∧ i = .int .i64 j ∧ Aside0 (ns.length = 5) ∧ Aside0 (pannierref06_Decode.after k a nm lk ty j ns = some r) ∧ Aside0 (pannierref06_Decode.Mem5 w wr w1.heap.size (w1.heap.size + 1) (pannierref06_Decode.hr 0 ty nm lk ⟨#[]⟩ ⟨#[]⟩ ⟨#[]⟩ ns))) (fun i _ => 5 - (intOf i).toNat)
  case atStart => exact ⟨0, [0, 0, 0, 0, 0], by omega, rfl, ⟨rfl⟩, HH, ⟨by have := HM1.out; exact this⟩⟩
  case round =>
    obtain ⟨j, ns, hj, rfl, HNS, HAF, HME⟩ := hrel
    clear HM1
    by_cases hlt5 : j < 5
    · have hst := HAF.out
      rw [pannierref06_Decode.after_step hlt5] at hst
      obtain ⟨⟨n, e⟩, ht, hst⟩ := Option.bind_eq_some_iff.mp hst
      have hf1 := pannierref06_Decode.fr_le hlt5
      have hp0 := (blk_cell HME.out.l j).trans (pannierref06_Decode.lits0 hlt5)
      have hp1 := (blk_cell HME.out.l (j + 1)).trans (pannierref06_Decode.lits1 hlt5)
      have hlq := blk_lt HME.out.l
      have hn1 : IntKind.i64.wrap ((j : Int) + 1) = (j : Int) + 1 := IntWalk.i64_in _ (by omega)
      have hn2 : (0 : Int) ≤ (j : Int) + 1 := by omega
      have hn3 : ((j : Int) + 1).toNat = j + 1 := by omega
      have hn4 : (j : Int) + 1 < 6 := by omega
      have hj0 : (0 : Int) ≤ (j : Int) := by omega
      have hj5 : (j : Int) < 5 := by omega
      have hj6 : (j : Int) < 6 := by omega
      have HT := Aside0.mk ht
      have HST := Aside0.mk hst
      have hfa : (pannierref06_Decode.fr (j + 1) : Int) ≤ (a.size : Int) := by have := HL.out; omega
      clear ht hst
      generalize pannierref06_Decode.fr j = lo at *
      generalize pannierref06_Decode.fr (j + 1) = hi at *
      have hfb : (lo : Int) ≤ (hi : Int) := by omega
      have hfc : (0 : Int) ≤ (lo : Int) := by omega
      clear hf1
      by_cases he : e = 0
      · subst he
        go_upto_region 12 with (fail)
        go_region_held3 (fun w' => w'.cell? ⟨w1.heap.size + 1, j, none⟩ = some (.int .i64 lo) ∧ w'.cell? ⟨w1.heap.size + 1, j + 1, none⟩ = some (.int .i64 hi)) (first | exact ⟨(hb2.cell (p := ⟨w1.heap.size + 1, j, none⟩) hlq).trans hp0, (hb2.cell (p := ⟨w1.heap.size + 1, j + 1, none⟩) hlq).trans hp1⟩ | go_keep)
          (first | (go_at_call 27; (with_reducible refine (pannierref02_Parse.calls k (a.extract lo hi) n 0 _ HT.out).mono ?_); rintro e w2 ⟨rfl, hb2⟩))
        have HM2 := HME.out.drew.below hb2
        clear hb2 hp0 hp1 hlq hn1
        have hq0 := (blk_cell HM2.m.h (7 + j)).trans (pannierref06_Decode.hr_get hlt5)
        have hq1 := blk_frozen HM2.m.h (7 + j)
        go_wp2
        go_roundw
        case rel =>
          refine ⟨j + 1, ns.set j n, by omega, by go_num, ⟨by rw [List.length_set]; exact HNS.out⟩, HST, ⟨?_⟩⟩
          exact HM2.put _ _ (pannierref06_Decode.hr_set hlt5 HNS.out n)
        case measure => simp [intOf]; omega
      · have he1 : (e == 0) = false := beq_eq_false_iff_ne.mpr he
        have he2 : (e != 0) = true := bne_iff_ne.mpr he
        have hr := HST.out
        rw [if_neg he] at hr
        obtain rfl := Option.some.inj hr
        clear hr he HST
        go_upto_region 12 with (fail)
        go_region_held3 (fun w' => w'.cell? ⟨w1.heap.size + 1, j, none⟩ = some (.int .i64 lo) ∧ w'.cell? ⟨w1.heap.size + 1, j + 1, none⟩ = some (.int .i64 hi)) (first | exact ⟨(hb2.cell (p := ⟨w1.heap.size + 1, j, none⟩) hlq).trans hp0, (hb2.cell (p := ⟨w1.heap.size + 1, j + 1, none⟩) hlq).trans hp1⟩ | go_keep)
          (first | (go_at_call 27; (with_reducible refine (pannierref02_Parse.calls k (a.extract lo hi) n e _ HT.out).mono ?_); rintro e w2 ⟨rfl, hb2⟩))
        have HM2 := HME.out.drew.below hb2
        clear hb2 hp0 hp1 hlq hn1
        go_wp2_with (first
          | ((with_reducible refine wpList_store_row rfl 32 (.tmp 2) (.tmp 52) rfl w.heap.size pannierref06_Decode.Z rfl rfl 32 pannierref06_Decode.Z ?hz pannierref06_Decode.size32Z rfl pannierref06_Decode.allZ ?_); (case hz => exact HM2.m.z)))
        refine bodyPost_ret (results_ct rfl _ _ w.heap.size 32 pannierref06_Decode.Z (0, 0) _ rfl (by exact setRow_heap _ _ pannierref06_Decode.Z _ _ _ HM2.m.z) hu32 rfl pannierref06_Decode.size32) rfl ?_
        exact ⟨rfl, below_setRow HM2.m.b (Nat.le_refl _) _⟩
    · obtain rfl : j = 5 := by omega
      have hst := HAF.out
      rw [pannierref06_Decode.after_last] at hst
      unfold pannierref06_Decode.tail at hst
      have HM2 := HME.out.m
      have hg4le : w.heap.size ≤ w1.heap.size := Nat.le_of_lt HM2.lt
      have hg4ne : w.heap.size ≠ w1.heap.size := Nat.ne_of_lt HM2.lt
      clear hlt5 HAF
      by_cases hA : (a.extract 257 265).toList = ([117, 115, 116, 97, 114, 0, 48, 48] : List UInt8)
      · rw [if_pos hA] at hst
        obtain ⟨p, hp, hst⟩ := Option.bind_eq_some_iff.mp hst
        unfold pannierref06_Decode.ends at hst
        obtain ⟨u, hu, hst⟩ := Option.bind_eq_some_iff.mp hst
        obtain ⟨g, hg, hst⟩ := Option.bind_eq_some_iff.mp hst
        obtain rfl := Option.some.inj hst
        have hA1 : ((a.extract 257 265).toList == ([117, 115, 116, 97, 114, 0, 48, 48] : List UInt8)) = true := beq_iff_eq.mpr hA
        have hB1 : ((a.extract 257 265).toList == ([117, 115, 116, 97, 114, 32, 32, 0] : List UInt8)) = false := by rw [hA]; rfl
        have HU := Aside0.mk hu
        have HG := Aside0.mk hg
        have HP := Aside0.mk hp
        have hq0 := (blk_cell HM2.h 0).trans (show _ = some _ from rfl)
        have hf0 := blk_frozen HM2.h 0
        have hq4 := (blk_cell HM2.h 4).trans (show _ = some _ from rfl)
        have hf4 := blk_frozen HM2.h 4
        have hq5 := (blk_cell HM2.h 5).trans (show _ = some _ from rfl)
        have hf5 := blk_frozen HM2.h 5
        have hq6 := (blk_cell HM2.h 6).trans (show _ = some _ from rfl)
        have hf6 := blk_frozen HM2.h 6
        clear hst hA hu hg hp
        go_wp2_with (first
          | (go_at_call 26; (with_reducible refine (pannierref06_text.calls k (a.extract 345 500) p _ HP.out).mono ?_); rintro e w7 ⟨rfl, ⟨nd7, rfl⟩⟩)
          | (go_at_call 26; (with_reducible refine (pannierref06_text.calls k (a.extract 265 297) u _ HU.out).mono ?_); rintro e w5 ⟨rfl, ⟨nd5, rfl⟩⟩)
          | (go_at_call 26; (with_reducible refine (pannierref06_text.calls k (a.extract 297 329) g _ HG.out).mono ?_); rintro e w6 ⟨rfl, ⟨nd6, rfl⟩⟩)
          | ((with_reducible refine wpList_load_row rfl 32 (.tmp 4) rfl w1.heap.size rfl 32 (pannierref06_Decode.hr 1 ty nm lk p u g ns) (0, 0) _ ?hg hu32 rfl (pannierref06_Decode.size32h _ _ _ _ _ _ _ _) ?_); (case hg => refine blk_put (cs := (pannierref06_Decode.hr 1 ty nm lk p u ⟨#[]⟩ ns)) ?_ 6 _ rfl; (repeat (first | (with_reducible refine blk_drewN ?_ _) | (with_reducible refine blk_drew ?_))); refine blk_put (cs := (pannierref06_Decode.hr 1 ty nm lk p ⟨#[]⟩ ⟨#[]⟩ ns)) ?_ 5 _ rfl; (repeat (first | (with_reducible refine blk_drewN ?_ _) | (with_reducible refine blk_drew ?_))); refine blk_put (cs := (pannierref06_Decode.hr 1 ty nm lk ⟨#[]⟩ ⟨#[]⟩ ⟨#[]⟩ ns)) ?_ 4 _ rfl; (repeat (first | (with_reducible refine blk_drewN ?_ _) | (with_reducible refine blk_drew ?_))); refine blk_put (cs := (pannierref06_Decode.hr 0 ty nm lk ⟨#[]⟩ ⟨#[]⟩ ⟨#[]⟩ ns)) ?_ 0 _ rfl; exact HM2.h))
          | ((with_reducible refine wpList_store_row rfl 32 (.tmp 2) (.tmp 84) rfl w.heap.size (pannierref06_Decode.hr 1 ty nm lk p u g ns) rfl rfl 32 pannierref06_Decode.Z ?hz (pannierref06_Decode.size32h _ _ _ _ _ _ _ _) (pannierref06_Decode.sizeh _ _ _ _ _ _ _ _) (pannierref06_Decode.allh _ _ _ _ _ _ _ _) ?_); (case hz => repeat (first | (with_reducible exact HM2.z) | (with_reducible refine blk_far ?_ hg4ne _) | (with_reducible refine blk_drewN ?_ _) | (with_reducible refine blk_drew ?_)))))
        refine bodyPost_ret (results_ct rfl _ _ w.heap.size 32 (pannierref06_Decode.hr 1 ty nm lk p u g ns) (0, 0) _ rfl (by refine setRow_heap _ _ pannierref06_Decode.Z _ _ _ ?_; repeat (first | (with_reducible exact HM2.z) | (with_reducible refine blk_far ?_ hg4ne _) | (with_reducible refine blk_drewN ?_ _) | (with_reducible refine blk_drew ?_))) hu32 rfl pannierref06_Decode.size32) rfl ?_
        exact ⟨rfl, below_setRow (by repeat (first | (with_reducible first | exact HM2.b | apply below_alloc | apply pw_below_drewN | apply below_drew1 | refine below_set ?_ hg4le) | exact HM2.b)) (Nat.le_refl _) _⟩
      · by_cases hB : (a.extract 257 265).toList = ([117, 115, 116, 97, 114, 32, 32, 0] : List UInt8)
        · rw [if_neg hA, if_pos hB] at hst
          unfold pannierref06_Decode.ends at hst
          obtain ⟨u, hu, hst⟩ := Option.bind_eq_some_iff.mp hst
          obtain ⟨g, hg, hst⟩ := Option.bind_eq_some_iff.mp hst
          obtain rfl := Option.some.inj hst
          have hA1 : ((a.extract 257 265).toList == ([117, 115, 116, 97, 114, 0, 48, 48] : List UInt8)) = false := beq_eq_false_iff_ne.mpr hA
          have hB1 : ((a.extract 257 265).toList == ([117, 115, 116, 97, 114, 32, 32, 0] : List UInt8)) = true := beq_iff_eq.mpr hB
          have HU := Aside0.mk hu
          have HG := Aside0.mk hg
          have hq0 := (blk_cell HM2.h 0).trans (show _ = some _ from rfl)
          have hf0 := blk_frozen HM2.h 0
          have hq4 := (blk_cell HM2.h 4).trans (show _ = some _ from rfl)
          have hf4 := blk_frozen HM2.h 4
          have hq5 := (blk_cell HM2.h 5).trans (show _ = some _ from rfl)
          have hf5 := blk_frozen HM2.h 5
          have hq6 := (blk_cell HM2.h 6).trans (show _ = some _ from rfl)
          have hf6 := blk_frozen HM2.h 6
          clear hst hA hB hu hg
          go_wp2_with (first
            | (go_at_call 26; (with_reducible refine (pannierref06_text.calls k (a.extract 265 297) u _ HU.out).mono ?_); rintro e w5 ⟨rfl, ⟨nd5, rfl⟩⟩)
            | (go_at_call 26; (with_reducible refine (pannierref06_text.calls k (a.extract 297 329) g _ HG.out).mono ?_); rintro e w6 ⟨rfl, ⟨nd6, rfl⟩⟩)
            | ((with_reducible refine wpList_load_row rfl 32 (.tmp 4) rfl w1.heap.size rfl 32 (pannierref06_Decode.hr 2 ty nm lk ⟨#[]⟩ u g ns) (0, 0) _ ?hg hu32 rfl (pannierref06_Decode.size32h _ _ _ _ _ _ _ _) ?_); (case hg => refine blk_put (cs := (pannierref06_Decode.hr 2 ty nm lk ⟨#[]⟩ u ⟨#[]⟩ ns)) ?_ 6 _ rfl; (repeat (first | (with_reducible refine blk_drewN ?_ _) | (with_reducible refine blk_drew ?_))); refine blk_put (cs := (pannierref06_Decode.hr 2 ty nm lk ⟨#[]⟩ ⟨#[]⟩ ⟨#[]⟩ ns)) ?_ 5 _ rfl; (repeat (first | (with_reducible refine blk_drewN ?_ _) | (with_reducible refine blk_drew ?_))); refine blk_put (cs := (pannierref06_Decode.hr 0 ty nm lk ⟨#[]⟩ ⟨#[]⟩ ⟨#[]⟩ ns)) ?_ 0 _ rfl; exact HM2.h))
            | ((with_reducible refine wpList_store_row rfl 32 (.tmp 2) (.tmp 84) rfl w.heap.size (pannierref06_Decode.hr 2 ty nm lk ⟨#[]⟩ u g ns) rfl rfl 32 pannierref06_Decode.Z ?hz (pannierref06_Decode.size32h _ _ _ _ _ _ _ _) (pannierref06_Decode.sizeh _ _ _ _ _ _ _ _) (pannierref06_Decode.allh _ _ _ _ _ _ _ _) ?_); (case hz => repeat (first | (with_reducible exact HM2.z) | (with_reducible refine blk_far ?_ hg4ne _) | (with_reducible refine blk_drewN ?_ _) | (with_reducible refine blk_drew ?_)))))
          refine bodyPost_ret (results_ct rfl _ _ w.heap.size 32 (pannierref06_Decode.hr 2 ty nm lk ⟨#[]⟩ u g ns) (0, 0) _ rfl (by refine setRow_heap _ _ pannierref06_Decode.Z _ _ _ ?_; repeat (first | (with_reducible exact HM2.z) | (with_reducible refine blk_far ?_ hg4ne _) | (with_reducible refine blk_drewN ?_ _) | (with_reducible refine blk_drew ?_))) hu32 rfl pannierref06_Decode.size32) rfl ?_
          exact ⟨rfl, below_setRow (by repeat (first | (with_reducible first | exact HM2.b | apply below_alloc | apply pw_below_drewN | apply below_drew1 | refine below_set ?_ hg4le) | exact HM2.b)) (Nat.le_refl _) _⟩
        · rw [if_neg hA, if_neg hB] at hst
          obtain rfl := Option.some.inj hst
          have hA1 : ((a.extract 257 265).toList == ([117, 115, 116, 97, 114, 0, 48, 48] : List UInt8)) = false := beq_eq_false_iff_ne.mpr hA
          have hB1 : ((a.extract 257 265).toList == ([117, 115, 116, 97, 114, 32, 32, 0] : List UInt8)) = false := beq_eq_false_iff_ne.mpr hB
          have hq0 : wr.cell? ⟨w1.heap.size, 0, none⟩ = some (.int .i64 0) := (blk_cell HM2.h 0).trans rfl
          clear hst hA hB
          go_wp2_with (first
            | ((with_reducible refine wpList_load_row rfl 32 (.tmp 4) rfl w1.heap.size rfl 32 (pannierref06_Decode.hr 0 ty nm lk ⟨#[]⟩ ⟨#[]⟩ ⟨#[]⟩ ns) (0, 0) _ ?hg hu32 rfl (pannierref06_Decode.size32h _ _ _ _ _ _ _ _) ?_); (case hg => exact HM2.h))
            | ((with_reducible refine wpList_store_row rfl 32 (.tmp 2) (.tmp 84) rfl w.heap.size (pannierref06_Decode.hr 0 ty nm lk ⟨#[]⟩ ⟨#[]⟩ ⟨#[]⟩ ns) rfl rfl 32 pannierref06_Decode.Z ?hz (pannierref06_Decode.size32h _ _ _ _ _ _ _ _) (pannierref06_Decode.sizeh _ _ _ _ _ _ _ _) (pannierref06_Decode.allh _ _ _ _ _ _ _ _) ?_); (case hz => exact HM2.z)))
          all_goals
            refine bodyPost_ret (results_ct rfl _ _ w.heap.size 32 (pannierref06_Decode.hr 0 ty nm lk ⟨#[]⟩ ⟨#[]⟩ ⟨#[]⟩ ns) (0, 0) _ rfl (by refine setRow_heap _ _ pannierref06_Decode.Z _ _ _ ?_; exact HM2.z) hu32 rfl pannierref06_Decode.size32) rfl ?_
            exact ⟨rfl, below_setRow HM2.b (Nat.le_refl _) _⟩

set_option maxHeartbeats 2000000 in
set_option maxRecDepth 100000 in
theorem pannierref06_Decode.calls_len (a : ByteArray) (w : World) (hl : ¬ (a.size : Int) = 512) :
    Calls Try.prog 12 #[.string a] w fun e w' => e = .returned (.tuple #[.agg #[.int .i64 0, .int .u8 0, .string ⟨#[]⟩, .string ⟨#[]⟩, .string ⟨#[]⟩, .string ⟨#[]⟩, .string ⟨#[]⟩, .int .i64 0, .int .i64 0, .int .i64 0, .int .i64 0, .int .i64 0], .int .i64 1]) ∧ Below w.heap.size w w' := by
  have hu32 := Try.underlying32
  have c2b0 : ((a.size : Int) == 512) = false := beq_eq_false_iff_ne.mpr hl
  have c2b1 : ((a.size : Int) != 512) = true := bne_iff_ne.mpr hl
  clear hl
  go_enter Try.func12, Try.ntmps12
  go_wp2_with (first
    | ((with_reducible refine wpList_store_row rfl 32 (.tmp 2) (.tmp 12) rfl w.heap.size pannierref06_Decode.Z rfl rfl 32 pannierref06_Decode.Z ?hz pannierref06_Decode.size32Z rfl pannierref06_Decode.allZ ?_); (case hz => exact blk_new _ _)))
  refine bodyPost_ret (results_ct rfl _ _ w.heap.size 32 pannierref06_Decode.Z (0, 0) _ rfl (by refine setRow_heap _ _ pannierref06_Decode.Z _ _ _ ?_; exact blk_new _ _) hu32 rfl pannierref06_Decode.size32) rfl ?_
  exact ⟨rfl, below_setRow (below_alloc (Below.refl _ _) _) (Nat.le_refl _) _⟩
set_option maxHeartbeats 2000000 in
set_option maxRecDepth 100000 in
theorem pannierref06_Decode.calls_sum (k : Nat) (a : ByteArray) (w : World) (hl : (a.size : Int) = 512) (hs : pannierref05_Right.f k a = some false) :
    Calls Try.prog 12 #[.string a] w fun e w' => e = .returned (.tuple #[.agg #[.int .i64 0, .int .u8 0, .string ⟨#[]⟩, .string ⟨#[]⟩, .string ⟨#[]⟩, .string ⟨#[]⟩, .string ⟨#[]⟩, .int .i64 0, .int .i64 0, .int .i64 0, .int .i64 0, .int .i64 0], .int .i64 50]) ∧ Below w.heap.size w w' := by
  have hu32 := Try.underlying32
  have c2b0 : ((a.size : Int) == 512) = true := beq_iff_eq.mpr hl
  have c2b1 : ((a.size : Int) != 512) = false := bne_eq_false_iff_eq.mpr hl
  have HS := Aside0.mk hs
  clear hl hs
  go_enter Try.func12, Try.ntmps12
  go_wp2_with (first
    | (go_at_call 25; (with_reducible refine (pannierref05_Right.calls k a false _ HS.out).mono ?_); rintro e w1 ⟨rfl, hb1⟩; have HB1 := Aside0.mk hb1; clear hb1)
    | ((with_reducible refine wpList_store_row rfl 32 (.tmp 2) (.tmp 16) rfl w.heap.size pannierref06_Decode.Z rfl rfl 32 pannierref06_Decode.Z ?hz pannierref06_Decode.size32Z rfl pannierref06_Decode.allZ ?_); (case hz => exact blk_below (blk_new _ _) HB1.out)))
  refine bodyPost_ret (results_ct rfl _ _ w.heap.size 32 pannierref06_Decode.Z (0, 0) _ rfl (by refine setRow_heap _ _ pannierref06_Decode.Z _ _ _ ?_; exact blk_below (blk_new _ _) HB1.out) hu32 rfl pannierref06_Decode.size32) rfl ?_
  exact ⟨rfl, below_setRow (below_step (below_alloc (Below.refl _ _) _) HB1.out) (Nat.le_refl _) _⟩
theorem pannierref06_Decode.calls_r (k : Nat) (a : ByteArray) (r : pannierref06_Decode.R) (w : World) (h : pannierref06_Decode.f k a = some r) :
    Calls Try.prog 12 #[.string a] w fun e w' => e = .returned (.tuple #[.agg #[.int .i64 r.1, .int .u8 r.2.1, .string r.2.2.1, .string r.2.2.2.1, .string r.2.2.2.2.1, .string r.2.2.2.2.2.1, .string r.2.2.2.2.2.2.1, .int .i64 r.2.2.2.2.2.2.2.1, .int .i64 r.2.2.2.2.2.2.2.2.1, .int .i64 r.2.2.2.2.2.2.2.2.2.1, .int .i64 r.2.2.2.2.2.2.2.2.2.2.1, .int .i64 r.2.2.2.2.2.2.2.2.2.2.2.1], .int .i64 r.2.2.2.2.2.2.2.2.2.2.2.2]) ∧ Below w.heap.size w w' := by
  unfold pannierref06_Decode.f at h
  by_cases hl : (a.size : Int) = 512
  · rw [if_pos hl] at h
    obtain ⟨t, ht, h⟩ := Option.bind_eq_some_iff.mp h
    cases t with
    | true =>
      obtain ⟨nm, hnm, h⟩ := Option.bind_eq_some_iff.mp h
      obtain ⟨lk, hlk, h⟩ := Option.bind_eq_some_iff.mp h
      exact pannierref06_Decode.calls_main k a nm lk _ r w (by omega) ht hnm hlk rfl h
    | false =>
      obtain rfl := Option.some.inj h
      exact pannierref06_Decode.calls_sum k a w hl ht
  · rw [if_neg hl] at h
    obtain rfl := Option.some.inj h
    exact pannierref06_Decode.calls_len a w hl
theorem pannierref06_Decode.calls (k : Nat) (a0 : ByteArray) (r1 : Int) (r2 : Int) (r3 : ByteArray) (r4 : ByteArray) (r5 : ByteArray) (r6 : ByteArray) (r7 : ByteArray) (r8 : Int) (r9 : Int) (r10 : Int) (r11 : Int) (r12 : Int) (r13 : Int) (w : World) (h : pannierref06_Decode.f k a0 = some (r1, r2, r3, r4, r5, r6, r7, r8, r9, r10, r11, r12, r13)) :
    Calls Try.prog 12 #[.string a0] w fun e w' => e = .returned (.tuple #[.agg #[.int .i64 r1, .int .u8 r2, .string r3, .string r4, .string r5, .string r6, .string r7, .int .i64 r8, .int .i64 r9, .int .i64 r10, .int .i64 r11, .int .i64 r12], .int .i64 r13]) ∧ Below w.heap.size w w' :=
  pannierref06_Decode.calls_r k a0 (r1, r2, r3, r4, r5, r6, r7, r8, r9, r10, r11, r12, r13) w h
end Go.Proofs.Ytchldbhnohicoaa.XA
