/- head.Decode: the header of a block, as the walk tells it. -/
import Derived.Test.YtchldbhnohicoaaXA4
import Derived.Test.YtchldbhnohicoaaXA5
import Derived.Test.YtchldbhnohicoaaXA6
namespace Go.Proofs.Ytchldbhnohicoaa.XA
open Go.RowKit Go.Proofs.YtchldbhnohicoaaW.PrintWords Go.Proofs.YtchldbhnohicoaaW.PrintLast Go.Proofs.YtchldbhnohicoaaW.PrintMore
set_option linter.unusedVariables false
set_option linter.unusedSimpArgs false

abbrev head_Decode.R := Int × ByteArray × ByteArray × ByteArray × ByteArray × ByteArray × Int × Int × Int × Int × Int × Int × Int
def head_Decode.fr (i : Nat) : Nat := [100, 108, 116, 124, 136, 148].getD i 0
def head_Decode.bad (e : Int) : Int × ByteArray × ByteArray × ByteArray × ByteArray × ByteArray × Int × Int × Int × Int × Int × Int × Int :=
  (0, ⟨#[]⟩, ⟨#[]⟩, ⟨#[]⟩, ⟨#[]⟩, ⟨#[]⟩, 0, 0, 0, 0, 0, 0, e)
def head_Decode.fld (l : List Int) (i j : Nat) : List Int := (l.take j).drop i
def head_Decode.nums (k : Nat) (l : List Int) : Nat → Nat → List Int → Option (List Int × Int)
  | 0, _, ns => some (ns, 0)
  | n + 1, i, ns => (octal_Parse.f k (head_Decode.fld l (head_Decode.fr i) (head_Decode.fr (i + 1)))).bind fun t => if t.2 = 0 then head_Decode.nums k l n (i + 1) (ns.set i t.1) else some (ns, t.2)
def head_Decode.ends (l : List Int) (form : Int) (nm lk pf : ByteArray) (ty : Int) (ns : List Int) : Option (Int × ByteArray × ByteArray × ByteArray × ByteArray × ByteArray × Int × Int × Int × Int × Int × Int × Int) :=
  (head_text.f (head_Decode.fld l 265 297)).bind fun u => (head_text.f (head_Decode.fld l 297 329)).bind fun g => some (form, nm, lk, pf, u, g, ty, ns.getD 0 0, ns.getD 1 0, ns.getD 2 0, ns.getD 3 0, ns.getD 4 0, 0)
def head_Decode.tail (l : List Int) (nm lk : ByteArray) (ty : Int) (ns : List Int) : Option (Int × ByteArray × ByteArray × ByteArray × ByteArray × ByteArray × Int × Int × Int × Int × Int × Int × Int) :=
  if (strOfNums (head_Decode.fld l 257 265)).toList = ([117, 115, 116, 97, 114, 0, 48, 48] : List UInt8) then
    (head_text.f (head_Decode.fld l 345 500)).bind fun p => head_Decode.ends l 1 nm lk p ty ns
  else if (strOfNums (head_Decode.fld l 257 265)).toList = ([117, 115, 116, 97, 114, 32, 32, 0] : List UInt8) then head_Decode.ends l 2 nm lk ⟨#[]⟩ ty ns
  else some (0, nm, lk, ⟨#[]⟩, ⟨#[]⟩, ⟨#[]⟩, ty, ns.getD 0 0, ns.getD 1 0, ns.getD 2 0, ns.getD 3 0, ns.getD 4 0, 0)
def head_Decode.after (k : Nat) (l : List Int) (nm lk : ByteArray) (i : Nat) (ns : List Int) : Option (Int × ByteArray × ByteArray × ByteArray × ByteArray × ByteArray × Int × Int × Int × Int × Int × Int × Int) :=
  (head_Decode.nums k l (5 - i) i ns).bind fun t => if t.2 = 0 then head_Decode.tail l nm lk (rd l 156) t.1 else some (head_Decode.bad t.2)
def head_Decode.f (k : Nat) (l : List Int) : Option (Int × ByteArray × ByteArray × ByteArray × ByteArray × ByteArray × Int × Int × Int × Int × Int × Int × Int) :=
  if (l.length : Int) = 512 then (sum_Right.f k l).bind fun t => if t = true then
      (head_text.f (head_Decode.fld l 0 100)).bind fun nm => (head_text.f (head_Decode.fld l 157 257)).bind fun lk => head_Decode.after k l nm lk 0 [0, 0, 0, 0, 0]
    else some (head_Decode.bad 50)
  else some (head_Decode.bad 1)
theorem head_Decode.mono_nums (l : List Int) (k : Nat) : ∀ n i ns, LeO (head_Decode.nums k l n i ns) (head_Decode.nums (k + 1) l n i ns)
  | 0, i, ns => LeO.refl _
  | n + 1, i, ns => LeO.bind (octal_Parse.mono _ _) (fun _ => LeO.ite (head_Decode.mono_nums l k n _ _) (LeO.refl _))
theorem head_Decode.mono : ∀ a0 k, LeO (head_Decode.f k a0) (head_Decode.f (k + 1) a0) := by
  intro a0 k
  unfold head_Decode.f head_Decode.after
  exact LeO.ite (LeO.bind (sum_Right.mono _ _) (fun _ => LeO.ite (LeO.bind (LeO.refl _) (fun _ => LeO.bind (LeO.refl _) (fun _ => LeO.bind (head_Decode.mono_nums _ _ _ _ _) (fun _ => LeO.refl _)))) (LeO.refl _))) (LeO.refl _)

def head_Decode.hc (form : Int) (nm lk pf us gr : ByteArray) (ty : Int) (ns : List Int) : Array Value :=
  #[.int .i64 form, .string nm, .string lk, .string pf, .string us, .string gr, .int .u8 ty, .int .i64 (ns.getD 0 0), .int .i64 (ns.getD 1 0), .int .i64 (ns.getD 2 0), .int .i64 (ns.getD 3 0), .int .i64 (ns.getD 4 0)]
def head_Decode.lits (g : Nat) : Array Value :=
  #[.pointer (some ⟨g, 7, none⟩), .int .i64 100, .int .i64 108, .pointer (some ⟨g, 8, none⟩), .int .i64 108, .int .i64 116, .pointer (some ⟨g, 9, none⟩), .int .i64 116, .int .i64 124, .pointer (some ⟨g, 10, none⟩), .int .i64 124, .int .i64 136, .pointer (some ⟨g, 11, none⟩), .int .i64 136, .int .i64 148]
theorem head_Decode.lits0 (g : Nat) {i : Nat} (h : i < 5) : (head_Decode.lits g)[i * 3]? = some (.pointer (some ⟨g, 7 + i, none⟩)) := by
  match i, h with
  | 0, _ => rfl
  | 1, _ => rfl
  | 2, _ => rfl
  | 3, _ => rfl
  | 4, _ => rfl
theorem head_Decode.lits1 (g : Nat) {i : Nat} (h : i < 5) : (head_Decode.lits g)[i * 3 + 1]? = some (.int .i64 (head_Decode.fr i)) := by
  match i, h with
  | 0, _ => rfl
  | 1, _ => rfl
  | 2, _ => rfl
  | 3, _ => rfl
  | 4, _ => rfl
theorem head_Decode.lits2 (g : Nat) {i : Nat} (h : i < 5) : (head_Decode.lits g)[i * 3 + 2]? = some (.int .i64 (head_Decode.fr (i + 1))) := by
  match i, h with
  | 0, _ => rfl
  | 1, _ => rfl
  | 2, _ => rfl
  | 3, _ => rfl
  | 4, _ => rfl
theorem head_Decode.hc_set {form : Int} {nm lk pf us gr : ByteArray} {ty : Int} {ns : List Int} {i : Nat} (h : i < 5) (hl : ns.length = 5) (v : Int) :
    (head_Decode.hc form nm lk pf us gr ty ns).setIfInBounds (7 + i) (.int .i64 v) = head_Decode.hc form nm lk pf us gr ty (ns.set i v) := by
  match ns, hl with
  | [n0, n1, n2, n3, n4], _ =>
    match i, h with
    | 0, _ => rfl
    | 1, _ => rfl
    | 2, _ => rfl
    | 3, _ => rfl
    | 4, _ => rfl
abbrev head_Decode.Z : Array Value := #[.int .i64 0, .string ⟨#[]⟩, .string ⟨#[]⟩, .string ⟨#[]⟩, .string ⟨#[]⟩, .string ⟨#[]⟩, .int .u8 0, .int .i64 0, .int .i64 0, .int .i64 0, .int .i64 0, .int .i64 0]
structure head_Decode.Mem (w wr : World) (g4 : Nat) (cs : Array Value) : Prop where
  z : wr.heap[w.heap.size]? = some (.cells head_Decode.Z 25 (0, 0))
  h : wr.heap[g4]? = some (.cells cs 25 (0, 0))
  b : Below w.heap.size w wr
  lt : w.heap.size < g4
theorem head_Decode.store12 {W : World} {g : Nat} {t : TypeId} {u0 u1 u2 u3 u4 u5 u6 u7 u8 u9 u10 u11 x0 x1 x2 x3 x4 x5 x6 x7 x8 x9 x10 x11 : Value} (h : W.heap[g]? = some (.cells #[x0, x1, x2, x3, x4, x5, x6, x7, x8, x9, x10, x11] t (0, 0))) : ((((((((((((W.setCell ⟨g, 0, none⟩ u0).setCell ⟨g, 1, none⟩ u1).setCell ⟨g, 2, none⟩ u2).setCell ⟨g, 3, none⟩ u3).setCell ⟨g, 4, none⟩ u4).setCell ⟨g, 5, none⟩ u5).setCell ⟨g, 6, none⟩ u6).setCell ⟨g, 7, none⟩ u7).setCell ⟨g, 8, none⟩ u8).setCell ⟨g, 9, none⟩ u9).setCell ⟨g, 10, none⟩ u10).setCell ⟨g, 11, none⟩ u11).heap[g]? = some (.cells #[u0, u1, u2, u3, u4, u5, u6, u7, u8, u9, u10, u11] t (0, 0)) := by
  have h0 := blk_put (cs' := #[u0, x1, x2, x3, x4, x5, x6, x7, x8, x9, x10, x11]) h 0 u0 rfl
  have h1 := blk_put (cs' := #[u0, u1, x2, x3, x4, x5, x6, x7, x8, x9, x10, x11]) h0 1 u1 rfl
  have h2 := blk_put (cs' := #[u0, u1, u2, x3, x4, x5, x6, x7, x8, x9, x10, x11]) h1 2 u2 rfl
  have h3 := blk_put (cs' := #[u0, u1, u2, u3, x4, x5, x6, x7, x8, x9, x10, x11]) h2 3 u3 rfl
  have h4 := blk_put (cs' := #[u0, u1, u2, u3, u4, x5, x6, x7, x8, x9, x10, x11]) h3 4 u4 rfl
  have h5 := blk_put (cs' := #[u0, u1, u2, u3, u4, u5, x6, x7, x8, x9, x10, x11]) h4 5 u5 rfl
  have h6 := blk_put (cs' := #[u0, u1, u2, u3, u4, u5, u6, x7, x8, x9, x10, x11]) h5 6 u6 rfl
  have h7 := blk_put (cs' := #[u0, u1, u2, u3, u4, u5, u6, u7, x8, x9, x10, x11]) h6 7 u7 rfl
  have h8 := blk_put (cs' := #[u0, u1, u2, u3, u4, u5, u6, u7, u8, x9, x10, x11]) h7 8 u8 rfl
  have h9 := blk_put (cs' := #[u0, u1, u2, u3, u4, u5, u6, u7, u8, u9, x10, x11]) h8 9 u9 rfl
  have h10 := blk_put (cs' := #[u0, u1, u2, u3, u4, u5, u6, u7, u8, u9, u10, x11]) h9 10 u10 rfl
  have h11 := blk_put (cs' := #[u0, u1, u2, u3, u4, u5, u6, u7, u8, u9, u10, u11]) h10 11 u11 rfl
  exact h11
theorem head_Decode.size_drew (w : World) (o : Obj) (n : Nat) : ((w.alloc o).drewN n).heap.size = w.heap.size + 1 := Array.size_push ..
theorem head_Decode.blk_newh {W : World} {g : Nat} (o : Obj) (h : W.heap.size = g) : (W.alloc o).heap[g]? = some o := h ▸ blk_new W o
structure head_Decode.Mem5 (w wr : World) (g4 g5 : Nat) (cs : Array Value) : Prop where
  m : head_Decode.Mem w wr g4 cs
  l : wr.heap[g5]? = some (.cells (head_Decode.lits g4) 53 (0, 0))
  lt : g4 < g5
theorem head_Decode.Mem5.mk0 {w wc : World} {g4 : Nat} {cs : Array Value} (h : head_Decode.Mem w wc g4 cs) : head_Decode.Mem5 w (wc.alloc (.cells (head_Decode.lits g4) 53)) g4 wc.heap.size cs :=
  ⟨⟨blk_alloc h.z _, blk_alloc h.h _, below_alloc h.b _, h.lt⟩, blk_new _ _, blk_lt h.h⟩
theorem head_Decode.after_step {k : Nat} {l : List Int} {nm lk : ByteArray} {j : Nat} {ns : List Int} (h : j < 5) : head_Decode.after k l nm lk j ns = (octal_Parse.f k (head_Decode.fld l (head_Decode.fr j) (head_Decode.fr (j + 1)))).bind fun t => if t.2 = 0 then head_Decode.after k l nm lk (j + 1) (ns.set j t.1) else some (head_Decode.bad t.2) := by
  unfold head_Decode.after
  obtain ⟨m, hm⟩ : ∃ m, 5 - j = m + 1 := ⟨4 - j, by omega⟩
  have hm2 : 5 - (j + 1) = m := by omega
  rw [hm, hm2, head_Decode.nums]
  cases octal_Parse.f k (head_Decode.fld l (head_Decode.fr j) (head_Decode.fr (j + 1))) with
  | none => rfl
  | some t =>
    simp only [Option.bind_some]
    by_cases he : t.2 = 0
    · rw [if_pos he, if_pos he]
    · rw [if_neg he, if_neg he]
      simp only [Option.bind_some, if_neg he]
theorem head_Decode.fr_le {j : Nat} (h : j < 5) : head_Decode.fr j ≤ head_Decode.fr (j + 1) ∧ head_Decode.fr (j + 1) ≤ 148 := by
  have : j = 0 ∨ j = 1 ∨ j = 2 ∨ j = 3 ∨ j = 4 := by omega
  rcases this with rfl | rfl | rfl | rfl | rfl <;> decide
theorem head_Decode.Mem5.step {w wr : World} {g4 g5 : Nat} {cs : Array Value} (h : head_Decode.Mem5 w wr g4 g5 cs) (o : Obj) (n i : Nat) (v : Value) : head_Decode.Mem5 w (((wr.alloc o).drewN n).setCell ⟨g4, i, none⟩ v) g4 g5 (cs.setIfInBounds i v) :=
  ⟨⟨blk_far (blk_drewN (blk_alloc h.m.z o) n) (by have := h.m.lt; simp only; omega) v, blk_set (blk_drewN (blk_alloc h.m.h o) n) i v, below_set (pw_below_drewN (below_alloc h.m.b o) n) (by have := h.m.lt; omega), h.m.lt⟩, blk_far (blk_drewN (blk_alloc h.l o) n) (by have := h.lt; simp only; omega) v, h.lt⟩
theorem head_Decode.hc_get {form : Int} {nm lk pf us gr : ByteArray} {ty : Int} {ns : List Int} {i : Nat} (h : i < 5) : (head_Decode.hc form nm lk pf us gr ty ns)[7 + i]? = some (.int .i64 (ns.getD i 0)) := by
  match i, h with
  | 0, _ => rfl
  | 1, _ => rfl
  | 2, _ => rfl
  | 3, _ => rfl
  | 4, _ => rfl
theorem head_Decode.size25 : (Try.prog.info? 25).map (·.size) = some 12 := by kernel_rfl
theorem head_Decode.after_last {k : Nat} {l : List Int} {nm lk : ByteArray} {ns : List Int} : head_Decode.after k l nm lk 5 ns = head_Decode.tail l nm lk (rd l 156) ns := by
  unfold head_Decode.after
  rw [show 5 - 5 = 0 from rfl, head_Decode.nums]
  rfl
theorem head_Decode.size25Z : (Try.prog.info? 25).map (·.size) = some head_Decode.Z.size := head_Decode.size25
theorem head_Decode.allZ : head_Decode.Z.all (·.oneCell') = true := by simp [head_Decode.Z, Value.oneCell']
theorem head_Decode.size25h (form : Int) (nm lk pf us gr : ByteArray) (ty : Int) (ns : List Int) : (Try.prog.info? 25).map (·.size) = some (head_Decode.hc form nm lk pf us gr ty ns).size := head_Decode.size25
theorem head_Decode.sizeh (form : Int) (nm lk pf us gr : ByteArray) (ty : Int) (ns : List Int) : head_Decode.Z.size = (head_Decode.hc form nm lk pf us gr ty ns).size := rfl
theorem head_Decode.allh (form : Int) (nm lk pf us gr : ByteArray) (ty : Int) (ns : List Int) : (head_Decode.hc form nm lk pf us gr ty ns).all (·.oneCell') = true := by simp [head_Decode.hc, Value.oneCell']
theorem head_Decode.below_row {B : Nat} {w w1 : World} {g : Nat} (h : Below B w w1) (hg : B ≤ g) (cs : Array Value) : Below B w (w1.setRow g cs) :=
  ⟨h.os, h.tape, h.output, by rw [show (w1.setRow g cs).heap.size = w1.heap.size from by simp [World.setRow]]; exact h.size, fun k hk => (setRow_other _ _ _ _ (by omega)).trans (h.block k hk)⟩
/-- A field of bytes that came in: the slice, its reading, its room. -/
theorem head_Decode.cut {w : World} {A0 : Option Addr} {c0 : Nat} {l0 : List Int} (i j : Nat) (I J : Int) (eI : I = i) (eJ : J = j) (hij : i ≤ j) (hj : j ≤ l0.length) (hr : Kd.C (Kd.int .u8) w A0 l0.length l0) (hc : l0.length ≤ c0) :
    ∃ A c, (∀ W : World, (Instr.slice 22 (.slice A0 l0.length c0) (some (.int .i64 I)) (some (.int .i64 J)) none).run Try.prog W = .ok (.slice A (head_Decode.fld l0 i j).length c) W) ∧ Kd.C (Kd.int .u8) w A (head_Decode.fld l0 i j).length (head_Decode.fld l0 i j) ∧ (head_Decode.fld l0 i j).length ≤ c := by
  subst eI eJ
  obtain ⟨i0, hi0, _, hsz, _⟩ := info_parts info5
  have hcut := cut_mid (P := Try.prog) 22 5 .i64 .i64 Try.underlying22 hi0 1 hsz A0 l0.length c0 (i : Int) (j : Int) (by omega) (by omega) (by omega) hc
  have hr1 := Kd.C_mid (lo := ((i : Int)).toNat) (hi := ((j : Int)).toNat) (c := c0) hr (by omega) (by omega) hc
  have hl : (head_Decode.fld l0 i j).length = (j : Int).toNat - (i : Int).toNat := by unfold head_Decode.fld; rw [List.length_drop, List.length_take]; omega
  refine ⟨_, c0 - (i : Int).toNat, ?_, hr1, ?_⟩
  · rw [hl]; exact hcut
  · rw [hl]; omega
set_option maxHeartbeats 2000000 in
set_option maxRecDepth 100000 in
theorem head_Decode.calls_main (k : Nat) (A0 : Option Addr) (c0 : Nat) (l0 : List Int) (nm lk : ByteArray) (r : head_Decode.R) (w : World) (hr0 : Kd.C (Kd.int .u8) w A0 l0.length l0) (hc0 : l0.length ≤ c0) (hl : l0.length = 512)
    (hsum : sum_Right.f k l0 = some true) (hnm : head_text.f (head_Decode.fld l0 0 100) = some nm) (hlk : head_text.f (head_Decode.fld l0 157 257) = some lk)
    (h : head_Decode.after k l0 nm lk 0 [0, 0, 0, 0, 0] = some r) :
    Calls Try.prog 11 #[.slice A0 l0.length c0] w fun e w' => e = .returned (.tuple #[.agg #[.int .i64 r.1, .string r.2.1, .string r.2.2.1, .string r.2.2.2.1, .string r.2.2.2.2.1, .string r.2.2.2.2.2.1, .int .u8 r.2.2.2.2.2.2.1, .int .i64 r.2.2.2.2.2.2.2.1, .int .i64 r.2.2.2.2.2.2.2.2.1, .int .i64 r.2.2.2.2.2.2.2.2.2.1, .int .i64 r.2.2.2.2.2.2.2.2.2.2.1, .int .i64 r.2.2.2.2.2.2.2.2.2.2.2.1], .int .i64 r.2.2.2.2.2.2.2.2.2.2.2.2]) ∧ Below w.heap.size w w' := by
  have hu25 := Try.underlying25
  have hu53 := Try.underlying53
  have HS := Aside0.mk hsum
  have HN := Aside0.mk hnm
  have HK := Aside0.mk hlk
  have HH := Aside0.mk h
  have HL := Aside0.mk hl
  have HR := Aside0.mk hr0
  have HC := Aside0.mk hc0
  obtain ⟨A1, c1, hcut1, hr1, hc1⟩ := head_Decode.cut 0 100 0 100 rfl rfl (by omega) (by omega) hr0 hc0
  obtain ⟨A2, c2, hcut2, hr2, hc2⟩ := head_Decode.cut 157 257 157 257 rfl rfl (by omega) (by omega) hr0 hc0
  obtain ⟨ad, e145, hx⟩ := Kd.at_int hr0 156 (by omega) (by omega)
  subst e145
  have hx' : w.cell? ⟨ad.block, ad.off + 156, none⟩ = some (.int .u8 (rd l0 156)) := by
    simpa only [show (156 : Int).toNat = 156 from rfl, Nat.reduceMul, Nat.reduceEqDiff, Go.Addr.add, ↓reduceIte] using hx
  have hlt := World.block_lt_of_cell? w _ hx'
  have HX := Aside0.mk hx'
  have c2b0 : ((l0.length : Int) == 512) = true := beq_iff_eq.mpr (by omega)
  have c2b1 : ((l0.length : Int) != 512) = false := bne_eq_false_iff_eq.mpr (by omega)
  have hi1 : (0 : Int) ≤ 156 := by omega
  have hi2 : (156 : Int) < (l0.length : Int) := by omega
  have hi3 : (156 < l0.length) = True := eq_true (by omega)
  have H1 := Aside0.mk hr1
  have H2 := Aside0.mk hr2
  clear hsum hnm hlk h hl hr0 hr1 hr2 hx hx'
  generalize hy1 : head_Decode.fld l0 0 100 = y1 at *
  generalize hy2 : head_Decode.fld l0 157 257 = y2 at *
  clear hy1 hy2
  go_enter Try.func11, Try.ntmps11
  go_upto_region 5 with (go_at_call 22; go_loud (refine (sum_Right.calls k (some ad) c0 l0 true _ (by first | exact Kd.C_alloc HR.out _ | exact HR.out) HC.out HS.out).mono ?_); rintro e w' ⟨rfl, ⟨nd, rfl⟩⟩)
  go_cut [4] (fun v4 wc => ∃ g4 : Nat, v4 = .pointer (some ⟨g4, 0, none⟩) ∧ Aside0 (head_Decode.Mem w wc g4 #[.int .i64 0, .string nm, .string lk, .string ⟨#[]⟩, .string ⟨#[]⟩, .string ⟨#[]⟩, .int .u8 (rd l0 156), .int .i64 0, .int .i64 0, .int .i64 0, .int .i64 0, .int .i64 0]))
  case first =>
    have hx1 := HX.out
    have hne0 := World.new_ne w _ hx1
    have hn1 : ¬ (ad.block = w.heap.size + 1) := by omega
    have hn2 : ¬ (w.heap.size + 1 = ad.block) := by omega
    have hn3 : ¬ (ad.block = w.heap.size) := by omega
    go_region_held3 (fun w' => w'.cell? ⟨ad.block, ad.off + 156, none⟩ = some (.int .u8 (rd l0 156))) (go_keep)
      (first | (go_at_call 23; (with_reducible refine (head_text.calls A1 c1 y1 nm _ ?side1 hc1 HN.out).mono ?_); (case side1 => exact Kd.C_below H1.out (by repeat (first | (with_reducible first | exact Below.refl _ _ | apply below_alloc | apply pw_below_drewN | apply below_drew1)))); rintro e w' ⟨rfl, ⟨nd1, rfl⟩⟩) | (go_at_call 23; (with_reducible refine (head_text.calls A2 c2 y2 lk _ ?side2 hc2 HK.out).mono ?_); (case side2 => exact Kd.C_below H2.out (by repeat (first | (with_reducible first | exact Below.refl _ _ | apply below_alloc | apply pw_below_drewN | apply below_drew1)))); rintro e w' ⟨rfl, ⟨nd1, rfl⟩⟩))
    all_goals go_wp2
    all_goals go_meet
    all_goals
      case rel =>
        refine ⟨_, rfl, ⟨?_, ?_, ?_, ?_⟩⟩
        · repeat (first | (with_reducible exact blk_new _ _) | (with_reducible refine blk_far ?_ (by simp) _) | (with_reducible refine blk_drewN ?_ _) | (with_reducible refine blk_drew ?_) | (with_reducible refine blk_alloc ?_ _))
        · first
            | with_reducible exact head_Decode.blk_newh _ (head_Decode.size_drew _ _ _)
            | with_reducible exact head_Decode.store12 (blk_drewN (head_Decode.blk_newh _ (head_Decode.size_drew _ _ _)) _)
            | with_reducible exact head_Decode.store12 (head_Decode.blk_newh _ (head_Decode.size_drew _ _ _))
        · repeat (first | (with_reducible exact Below.refl _ _) | (with_reducible apply below_alloc) | (with_reducible apply pw_below_drewN) | (with_reducible apply below_drew1) | (with_reducible refine below_set ?_ (by omega)))
        · omega
  case rest =>
    obtain ⟨g4, rfl, HM⟩ := hcut
    go_wp2_with fail
    have HM0 : head_Decode.Mem5 w (wc.alloc (.cells (head_Decode.lits g4) 53)) g4 wc.heap.size (head_Decode.hc 0 nm lk ⟨#[]⟩ ⟨#[]⟩ ⟨#[]⟩ (rd l0 156) [0, 0, 0, 0, 0]) := head_Decode.Mem5.mk0 HM.out
    go_loopw [41] (fun i wr => ∃ (j : Nat) (ns : List Int), j ≤ 5 ∧ i = .int .i64 j ∧ Aside0 (ns.length = 5) ∧ Aside0 (head_Decode.after k l0 nm lk j ns = some r) ∧ Aside0 (head_Decode.Mem5 w wr g4 wc.heap.size (head_Decode.hc 0 nm lk ⟨#[]⟩ ⟨#[]⟩ ⟨#[]⟩ (rd l0 156) ns))) (fun i _ => 5 - (intOf i).toNat)
    case atStart => exact ⟨0, [0, 0, 0, 0, 0], by omega, rfl, ⟨rfl⟩, HH, ⟨HM0⟩⟩
    case round =>
      obtain ⟨j, ns, hj, rfl, HNS, HAF, HME⟩ := hrel
      by_cases hlt5 : j < 5
      · have hst := HAF.out
        rw [head_Decode.after_step hlt5] at hst
        obtain ⟨⟨n, e⟩, ht, hst⟩ := Option.bind_eq_some_iff.mp hst
        have hf1 := head_Decode.fr_le hlt5
        have hl0 := HL.out
        obtain ⟨A3, c3, hcut3, hr3, hc3⟩ := head_Decode.cut (head_Decode.fr j) (head_Decode.fr (j + 1)) (head_Decode.fr j) (head_Decode.fr (j + 1)) rfl rfl hf1.1 (by omega) HR.out HC.out
        have hp0 := (blk_cell HME.out.l (j * 3)).trans (head_Decode.lits0 g4 hlt5)
        have hp1 := (blk_cell HME.out.l (j * 3 + 1)).trans (head_Decode.lits1 g4 hlt5)
        have hp2 := (blk_cell HME.out.l (j * 3 + 2)).trans (head_Decode.lits2 g4 hlt5)
        have hq0 := fun o => (blk_cell (blk_alloc HME.out.m.h o) (7 + j)).trans (head_Decode.hc_get hlt5)
        have hq1 := fun o => blk_frozen (blk_alloc HME.out.m.h o) (7 + j)
        have hne1 := World.new_ne wr _ hp0
        have hlo0 : (0 : Int) ≤ (head_Decode.fr j : Int) := by omega
        have hj0 : (0 : Int) ≤ (j : Int) := by omega
        have hj5 : (j : Int) < 5 := by omega
        have HT := Aside0.mk ht
        have HR3 := Aside0.mk hr3
        have HST := Aside0.mk hst
        clear ht hr3 hst hl0 hlt5
        generalize head_Decode.fld l0 (head_Decode.fr j) (head_Decode.fr (j + 1)) = y3 at *
        generalize head_Decode.fr j = lo at *
        generalize head_Decode.fr (j + 1) = hi at *
        clear hf1
        by_cases he : e = 0
        · subst he
          go_wp2_with (go_at_call 24; refine (octal_Parse.calls k A3 c3 y3 n 0 _ (Kd.C_below HR3.out (by repeat (first | (with_reducible first | exact HME.out.m.b | apply below_alloc | apply pw_below_drewN | apply below_drew1) | exact HME.out.m.b))) hc3 HT.out).mono ?_; rintro e w' ⟨rfl, ⟨nd1, rfl⟩⟩)
          go_roundw
          case rel =>
            refine ⟨j + 1, ns.set j n, by omega, by go_num, ⟨by rw [List.length_set]; exact HNS.out⟩, HST, ⟨?_⟩⟩
            rw [← head_Decode.hc_set (by omega) HNS.out]
            exact head_Decode.Mem5.step HME.out (.cells _ _) nd1 (7 + j) _
          case measure => simp [intOf]; omega
        · have he1 : (e == 0) = false := beq_eq_false_iff_ne.mpr he
          have he2 : (e != 0) = true := bne_iff_ne.mpr he
          have hr := HST.out
          rw [if_neg he] at hr
          obtain rfl := Option.some.inj hr
          clear hr he HST
          go_wp2_with (first
            | (go_at_call 24; refine (octal_Parse.calls k A3 c3 y3 n e _ (Kd.C_below HR3.out (by repeat (first | (with_reducible first | exact HME.out.m.b | apply below_alloc | apply pw_below_drewN | apply below_drew1) | exact HME.out.m.b))) hc3 HT.out).mono ?_; rintro e w' ⟨rfl, ⟨nd1, rfl⟩⟩)
            | ((with_reducible refine wpList_store_row rfl 25 (.tmp 2) (.tmp 57) rfl w.heap.size head_Decode.Z rfl rfl 25 head_Decode.Z ?hz head_Decode.size25Z rfl head_Decode.allZ ?_); (case hz => exact blk_drewN (blk_alloc HME.out.m.z _) _)))
          refine bodyPost_ret (results_ct rfl _ _ w.heap.size 25 head_Decode.Z (0, 0) _ rfl (by exact setRow_heap _ _ _ _ _ _ (blk_drewN (blk_alloc HME.out.m.z _) _)) hu25 rfl head_Decode.size25) rfl ?_
          exact ⟨rfl, head_Decode.below_row (pw_below_drewN (below_alloc HME.out.m.b _) _) (Nat.le_refl _) _⟩
      · obtain rfl : j = 5 := by omega
        have hst := HAF.out
        rw [head_Decode.after_last] at hst
        have hl0 := HL.out
        obtain ⟨A4, c4, hcut4, hr4, hc4⟩ := head_Decode.cut 257 265 257 265 rfl rfl (by omega) (by omega) HR.out HC.out
        have hcv := Kd.C_string (P := Try.prog) (A := A4) (c := c4) Try.underlying22 Try.underlying5 Try.underlying9 (Kd.C_below hr4 HME.out.m.b)
        have HST := Aside0.mk hst
        clear hst hr4 hlt5 hl0
        have hg4le : w.heap.size ≤ g4 := Nat.le_of_lt HME.out.m.lt
        have hg4ne : w.heap.size ≠ g4 := Nat.ne_of_lt HME.out.m.lt
        generalize hy4 : head_Decode.fld l0 257 265 = y4 at *
        have hst := HST.out
        clear HST
        unfold head_Decode.tail at hst
        rw [hy4] at hst
        clear hy4
        by_cases hA : (strOfNums y4).toList = ([117, 115, 116, 97, 114, 0, 48, 48] : List UInt8)
        · rw [if_pos hA] at hst
          obtain ⟨p, hp, hst⟩ := Option.bind_eq_some_iff.mp hst
          unfold head_Decode.ends at hst
          obtain ⟨u, hu, hst⟩ := Option.bind_eq_some_iff.mp hst
          obtain ⟨g, hg, hst⟩ := Option.bind_eq_some_iff.mp hst
          obtain rfl := Option.some.inj hst
          have hA1 : ((strOfNums y4).toList == ([117, 115, 116, 97, 114, 0, 48, 48] : List UInt8)) = true := beq_iff_eq.mpr hA
          obtain ⟨A5, c5, hcut5, hr5, hc5⟩ := head_Decode.cut 265 297 265 297 rfl rfl (by omega) (by have := HL.out; omega) HR.out HC.out
          obtain ⟨A6, c6, hcut6, hr6, hc6⟩ := head_Decode.cut 297 329 297 329 rfl rfl (by omega) (by have := HL.out; omega) HR.out HC.out
          obtain ⟨A7, c7, hcut7, hr7, hc7⟩ := head_Decode.cut 345 500 345 500 rfl rfl (by omega) (by have := HL.out; omega) HR.out HC.out
          generalize head_Decode.fld l0 265 297 = y5 at *
          have HR5 := Aside0.mk hr5
          clear hr5
          generalize head_Decode.fld l0 297 329 = y6 at *
          have HR6 := Aside0.mk hr6
          clear hr6
          generalize head_Decode.fld l0 345 500 = y7 at *
          have HR7 := Aside0.mk hr7
          clear hr7
          have HU := Aside0.mk hu
          have HG := Aside0.mk hg
          have HP := Aside0.mk hp
          have hq0 := (blk_cell HME.out.m.h 0).trans (show _ = some _ from rfl)
          have hf0 := blk_frozen HME.out.m.h 0
          have hq3 := (blk_cell HME.out.m.h 3).trans (show _ = some _ from rfl)
          have hf3 := blk_frozen HME.out.m.h 3
          have hq4 := (blk_cell HME.out.m.h 4).trans (show _ = some _ from rfl)
          have hf4 := blk_frozen HME.out.m.h 4
          have hq5 := (blk_cell HME.out.m.h 5).trans (show _ = some _ from rfl)
          have hf5 := blk_frozen HME.out.m.h 5
          clear hst hA hu hg hp
          go_upto_region 21 with (go_at_call 23; refine (head_text.calls A7 c7 y7 p _ (Kd.C_below HR7.out (by repeat (first | (with_reducible first | exact HME.out.m.b | apply below_alloc | apply pw_below_drewN | apply below_drew1 | refine below_set ?_ hg4le) | exact HME.out.m.b))) hc7 HP.out).mono ?_; rintro e w' ⟨rfl, ⟨nd7, rfl⟩⟩)
          go_region_with (first | (go_at_call 23; (with_reducible refine (head_text.calls A5 c5 y5 u _ ?side5 hc5 HU.out).mono ?_); (case side5 => exact Kd.C_below HR5.out (by repeat (first | (with_reducible first | exact HME.out.m.b | apply below_alloc | apply pw_below_drewN | apply below_drew1 | refine below_set ?_ hg4le) | exact HME.out.m.b))); rintro e w' ⟨rfl, ⟨nd5, rfl⟩⟩) | (go_at_call 23; (with_reducible refine (head_text.calls A6 c6 y6 g _ ?side6 hc6 HG.out).mono ?_); (case side6 => exact Kd.C_below HR6.out (by repeat (first | (with_reducible first | exact HME.out.m.b | apply below_alloc | apply pw_below_drewN | apply below_drew1 | refine below_set ?_ hg4le) | exact HME.out.m.b))); rintro e w' ⟨rfl, ⟨nd6, rfl⟩⟩))
          all_goals
            go_wp2_with (first
              | ((with_reducible refine wpList_load_row rfl 25 (.tmp 4) rfl g4 rfl 25 (head_Decode.hc 1 nm lk p u g (rd l0 156) ns) (0, 0) _ ?hg hu25 rfl (head_Decode.size25h _ _ _ _ _ _ _ _) ?_); (case hg => refine blk_put (cs := (head_Decode.hc 1 nm lk p u ⟨#[]⟩ (rd l0 156) ns)) ?_ 5 _ rfl; refine blk_put (cs := (head_Decode.hc 1 nm lk p ⟨#[]⟩ ⟨#[]⟩ (rd l0 156) ns)) ?_ 4 _ rfl; (repeat (first | (with_reducible refine blk_drewN ?_ _) | (with_reducible refine blk_drew ?_))); refine blk_put (cs := (head_Decode.hc 1 nm lk ⟨#[]⟩ ⟨#[]⟩ ⟨#[]⟩ (rd l0 156) ns)) ?_ 3 _ rfl; (repeat (first | (with_reducible refine blk_drewN ?_ _) | (with_reducible refine blk_drew ?_))); refine blk_put (cs := (head_Decode.hc 0 nm lk ⟨#[]⟩ ⟨#[]⟩ ⟨#[]⟩ (rd l0 156) ns)) ?_ 0 _ rfl; exact HME.out.m.h))
              | ((with_reducible refine wpList_store_row rfl 25 (.tmp 2) (.tmp 86) rfl w.heap.size (head_Decode.hc 1 nm lk p u g (rd l0 156) ns) rfl rfl 25 head_Decode.Z ?hz (head_Decode.size25h _ _ _ _ _ _ _ _) (head_Decode.sizeh _ _ _ _ _ _ _ _) (head_Decode.allh _ _ _ _ _ _ _ _) ?_); (case hz => repeat (first | (with_reducible exact HME.out.m.z) | (with_reducible refine blk_far ?_ hg4ne _) | (with_reducible refine blk_drewN ?_ _) | (with_reducible refine blk_drew ?_)))))
            refine bodyPost_ret (results_ct rfl _ _ w.heap.size 25 (head_Decode.hc 1 nm lk p u g (rd l0 156) ns) (0, 0) _ rfl (by refine setRow_heap _ _ head_Decode.Z _ _ _ ?_; repeat (first | (with_reducible exact HME.out.m.z) | (with_reducible refine blk_far ?_ hg4ne _) | (with_reducible refine blk_drewN ?_ _) | (with_reducible refine blk_drew ?_))) hu25 rfl head_Decode.size25) rfl ?_
            exact ⟨rfl, head_Decode.below_row (by repeat (first | (with_reducible first | exact HME.out.m.b | apply below_alloc | apply pw_below_drewN | apply below_drew1 | refine below_set ?_ hg4le) | exact HME.out.m.b)) (Nat.le_refl _) _⟩
        · by_cases hB : (strOfNums y4).toList = ([117, 115, 116, 97, 114, 32, 32, 0] : List UInt8)
          · rw [if_neg hA, if_pos hB] at hst
            unfold head_Decode.ends at hst
            obtain ⟨u, hu, hst⟩ := Option.bind_eq_some_iff.mp hst
            obtain ⟨g, hg, hst⟩ := Option.bind_eq_some_iff.mp hst
            obtain rfl := Option.some.inj hst
            have hA1 : ((strOfNums y4).toList == ([117, 115, 116, 97, 114, 0, 48, 48] : List UInt8)) = false := beq_eq_false_iff_ne.mpr hA
            have hB1 : ((strOfNums y4).toList == ([117, 115, 116, 97, 114, 32, 32, 0] : List UInt8)) = true := beq_iff_eq.mpr hB
            obtain ⟨A5, c5, hcut5, hr5, hc5⟩ := head_Decode.cut 265 297 265 297 rfl rfl (by omega) (by have := HL.out; omega) HR.out HC.out
            obtain ⟨A6, c6, hcut6, hr6, hc6⟩ := head_Decode.cut 297 329 297 329 rfl rfl (by omega) (by have := HL.out; omega) HR.out HC.out
            generalize head_Decode.fld l0 265 297 = y5 at *
            have HR5 := Aside0.mk hr5
            clear hr5
            generalize head_Decode.fld l0 297 329 = y6 at *
            have HR6 := Aside0.mk hr6
            clear hr6
            have HU := Aside0.mk hu
            have HG := Aside0.mk hg
            have hq0 := (blk_cell HME.out.m.h 0).trans (show _ = some _ from rfl)
            have hf0 := blk_frozen HME.out.m.h 0
            have hq3 := (blk_cell HME.out.m.h 3).trans (show _ = some _ from rfl)
            have hf3 := blk_frozen HME.out.m.h 3
            have hq4 := (blk_cell HME.out.m.h 4).trans (show _ = some _ from rfl)
            have hf4 := blk_frozen HME.out.m.h 4
            have hq5 := (blk_cell HME.out.m.h 5).trans (show _ = some _ from rfl)
            have hf5 := blk_frozen HME.out.m.h 5
            clear hst hA hB hu hg
            go_upto_region 21 with (fail)
            go_region_with (first | (go_at_call 23; (with_reducible refine (head_text.calls A5 c5 y5 u _ ?side5 hc5 HU.out).mono ?_); (case side5 => exact Kd.C_below HR5.out (by repeat (first | (with_reducible first | exact HME.out.m.b | apply below_alloc | apply pw_below_drewN | apply below_drew1 | refine below_set ?_ hg4le) | exact HME.out.m.b))); rintro e w' ⟨rfl, ⟨nd5, rfl⟩⟩) | (go_at_call 23; (with_reducible refine (head_text.calls A6 c6 y6 g _ ?side6 hc6 HG.out).mono ?_); (case side6 => exact Kd.C_below HR6.out (by repeat (first | (with_reducible first | exact HME.out.m.b | apply below_alloc | apply pw_below_drewN | apply below_drew1 | refine below_set ?_ hg4le) | exact HME.out.m.b))); rintro e w' ⟨rfl, ⟨nd6, rfl⟩⟩))
            all_goals
              go_wp2_with (first
                | ((with_reducible refine wpList_load_row rfl 25 (.tmp 4) rfl g4 rfl 25 (head_Decode.hc 2 nm lk ⟨#[]⟩ u g (rd l0 156) ns) (0, 0) _ ?hg hu25 rfl (head_Decode.size25h _ _ _ _ _ _ _ _) ?_); (case hg => refine blk_put (cs := (head_Decode.hc 2 nm lk ⟨#[]⟩ u ⟨#[]⟩ (rd l0 156) ns)) ?_ 5 _ rfl; refine blk_put (cs := (head_Decode.hc 2 nm lk ⟨#[]⟩ ⟨#[]⟩ ⟨#[]⟩ (rd l0 156) ns)) ?_ 4 _ rfl; (repeat (first | (with_reducible refine blk_drewN ?_ _) | (with_reducible refine blk_drew ?_))); refine blk_put (cs := (head_Decode.hc 0 nm lk ⟨#[]⟩ ⟨#[]⟩ ⟨#[]⟩ (rd l0 156) ns)) ?_ 0 _ rfl; exact HME.out.m.h))
                | ((with_reducible refine wpList_store_row rfl 25 (.tmp 2) (.tmp 86) rfl w.heap.size (head_Decode.hc 2 nm lk ⟨#[]⟩ u g (rd l0 156) ns) rfl rfl 25 head_Decode.Z ?hz (head_Decode.size25h _ _ _ _ _ _ _ _) (head_Decode.sizeh _ _ _ _ _ _ _ _) (head_Decode.allh _ _ _ _ _ _ _ _) ?_); (case hz => repeat (first | (with_reducible exact HME.out.m.z) | (with_reducible refine blk_far ?_ hg4ne _) | (with_reducible refine blk_drewN ?_ _) | (with_reducible refine blk_drew ?_)))))
              refine bodyPost_ret (results_ct rfl _ _ w.heap.size 25 (head_Decode.hc 2 nm lk ⟨#[]⟩ u g (rd l0 156) ns) (0, 0) _ rfl (by refine setRow_heap _ _ head_Decode.Z _ _ _ ?_; repeat (first | (with_reducible exact HME.out.m.z) | (with_reducible refine blk_far ?_ hg4ne _) | (with_reducible refine blk_drewN ?_ _) | (with_reducible refine blk_drew ?_))) hu25 rfl head_Decode.size25) rfl ?_
              exact ⟨rfl, head_Decode.below_row (by repeat (first | (with_reducible first | exact HME.out.m.b | apply below_alloc | apply pw_below_drewN | apply below_drew1 | refine below_set ?_ hg4le) | exact HME.out.m.b)) (Nat.le_refl _) _⟩
          · rw [if_neg hA, if_neg hB] at hst
            obtain rfl := Option.some.inj hst
            have hA1 : ((strOfNums y4).toList == ([117, 115, 116, 97, 114, 0, 48, 48] : List UInt8)) = false := beq_eq_false_iff_ne.mpr hA
            have hB1 : ((strOfNums y4).toList == ([117, 115, 116, 97, 114, 32, 32, 0] : List UInt8)) = false := beq_eq_false_iff_ne.mpr hB
            clear hst hA hB
            go_wp2_with (first
              | ((with_reducible refine wpList_load_row rfl 25 (.tmp 4) rfl g4 rfl 25 (head_Decode.hc 0 nm lk ⟨#[]⟩ ⟨#[]⟩ ⟨#[]⟩ (rd l0 156) ns) (0, 0) _ ?hg hu25 rfl (head_Decode.size25h _ _ _ _ _ _ _ _) ?_); (case hg => exact HME.out.m.h))
              | ((with_reducible refine wpList_store_row rfl 25 (.tmp 2) (.tmp 67) rfl w.heap.size (head_Decode.hc 0 nm lk ⟨#[]⟩ ⟨#[]⟩ ⟨#[]⟩ (rd l0 156) ns) rfl rfl 25 head_Decode.Z ?hz (head_Decode.size25h _ _ _ _ _ _ _ _) (head_Decode.sizeh _ _ _ _ _ _ _ _) (head_Decode.allh _ _ _ _ _ _ _ _) ?_); (case hz => exact HME.out.m.z)))
            refine bodyPost_ret (results_ct rfl _ _ w.heap.size 25 (head_Decode.hc 0 nm lk ⟨#[]⟩ ⟨#[]⟩ ⟨#[]⟩ (rd l0 156) ns) (0, 0) _ rfl (by exact setRow_heap _ _ _ _ _ _ HME.out.m.z) hu25 rfl head_Decode.size25) rfl ?_
            exact ⟨rfl, head_Decode.below_row HME.out.m.b (Nat.le_refl _) _⟩
set_option maxHeartbeats 2000000 in
set_option maxRecDepth 100000 in
theorem head_Decode.calls_len (A0 : Option Addr) (c0 : Nat) (l0 : List Int) (w : World) (hl : ¬ (l0.length : Int) = 512) :
    Calls Try.prog 11 #[.slice A0 l0.length c0] w fun e w' => e = .returned (.tuple #[.agg #[.int .i64 0, .string ⟨#[]⟩, .string ⟨#[]⟩, .string ⟨#[]⟩, .string ⟨#[]⟩, .string ⟨#[]⟩, .int .u8 0, .int .i64 0, .int .i64 0, .int .i64 0, .int .i64 0, .int .i64 0], .int .i64 1]) ∧ Below w.heap.size w w' := by
  have hu25 := Try.underlying25
  have c2b0 : ((l0.length : Int) == 512) = false := beq_eq_false_iff_ne.mpr hl
  have c2b1 : ((l0.length : Int) != 512) = true := bne_iff_ne.mpr hl
  clear hl
  go_enter Try.func11, Try.ntmps11
  go_wp2_with (first
    | ((with_reducible refine wpList_store_row rfl 25 (.tmp 2) (.tmp 13) rfl w.heap.size head_Decode.Z rfl rfl 25 head_Decode.Z ?hz head_Decode.size25Z rfl head_Decode.allZ ?_); (case hz => exact blk_new _ _)))
  refine bodyPost_ret (results_ct rfl _ _ w.heap.size 25 head_Decode.Z (0, 0) _ rfl (by refine setRow_heap _ _ head_Decode.Z _ _ _ ?_; exact blk_new _ _) hu25 rfl head_Decode.size25) rfl ?_
  exact ⟨rfl, head_Decode.below_row (by repeat (first | (with_reducible first | exact Below.refl _ _ | apply below_alloc | apply pw_below_drewN | apply below_drew1))) (Nat.le_refl _) _⟩
set_option maxHeartbeats 2000000 in
set_option maxRecDepth 100000 in
theorem head_Decode.calls_sum (k : Nat) (A0 : Option Addr) (c0 : Nat) (l0 : List Int) (w : World) (hr0 : Kd.C (Kd.int .u8) w A0 l0.length l0) (hc0 : l0.length ≤ c0) (hl : (l0.length : Int) = 512) (hs : sum_Right.f k l0 = some false) :
    Calls Try.prog 11 #[.slice A0 l0.length c0] w fun e w' => e = .returned (.tuple #[.agg #[.int .i64 0, .string ⟨#[]⟩, .string ⟨#[]⟩, .string ⟨#[]⟩, .string ⟨#[]⟩, .string ⟨#[]⟩, .int .u8 0, .int .i64 0, .int .i64 0, .int .i64 0, .int .i64 0, .int .i64 0], .int .i64 50]) ∧ Below w.heap.size w w' := by
  have hu25 := Try.underlying25
  have c2b0 : ((l0.length : Int) == 512) = true := beq_iff_eq.mpr hl
  have c2b1 : ((l0.length : Int) != 512) = false := bne_eq_false_iff_eq.mpr hl
  have HR := Aside0.mk hr0
  have HC := Aside0.mk hc0
  have HS := Aside0.mk hs
  clear hl hs hr0 hc0
  go_enter Try.func11, Try.ntmps11
  go_wp2_with (first
    | (go_at_call 22; refine (sum_Right.calls k A0 c0 l0 false _ (by first | exact Kd.C_alloc HR.out _ | exact HR.out) HC.out HS.out).mono ?_; rintro e w' ⟨rfl, ⟨nd, rfl⟩⟩)
    | ((with_reducible refine wpList_store_row rfl 25 (.tmp 2) (.tmp 18) rfl w.heap.size head_Decode.Z rfl rfl 25 head_Decode.Z ?hz head_Decode.size25Z rfl head_Decode.allZ ?_); (case hz => exact blk_drewN (blk_new _ _) _)))
  refine bodyPost_ret (results_ct rfl _ _ w.heap.size 25 head_Decode.Z (0, 0) _ rfl (by refine setRow_heap _ _ head_Decode.Z _ _ _ ?_; exact blk_drewN (blk_new _ _) _) hu25 rfl head_Decode.size25) rfl ?_
  exact ⟨rfl, head_Decode.below_row (by repeat (first | (with_reducible first | exact Below.refl _ _ | apply below_alloc | apply pw_below_drewN | apply below_drew1))) (Nat.le_refl _) _⟩
theorem head_Decode.calls_r (k : Nat) (A0 : Option Addr) (c0 : Nat) (l0 : List Int) (r : head_Decode.R) (w : World) (hr0 : Kd.C (Kd.int .u8) w A0 l0.length l0) (hc0 : l0.length ≤ c0) (h : head_Decode.f k l0 = some r) :
    Calls Try.prog 11 #[.slice A0 l0.length c0] w fun e w' => e = .returned (.tuple #[.agg #[.int .i64 r.1, .string r.2.1, .string r.2.2.1, .string r.2.2.2.1, .string r.2.2.2.2.1, .string r.2.2.2.2.2.1, .int .u8 r.2.2.2.2.2.2.1, .int .i64 r.2.2.2.2.2.2.2.1, .int .i64 r.2.2.2.2.2.2.2.2.1, .int .i64 r.2.2.2.2.2.2.2.2.2.1, .int .i64 r.2.2.2.2.2.2.2.2.2.2.1, .int .i64 r.2.2.2.2.2.2.2.2.2.2.2.1], .int .i64 r.2.2.2.2.2.2.2.2.2.2.2.2]) ∧ Below w.heap.size w w' := by
  unfold head_Decode.f at h
  by_cases hl : (l0.length : Int) = 512
  · rw [if_pos hl] at h
    obtain ⟨t, ht, h⟩ := Option.bind_eq_some_iff.mp h
    cases t with
    | true =>
      obtain ⟨nm, hnm, h⟩ := Option.bind_eq_some_iff.mp h
      obtain ⟨lk, hlk, h⟩ := Option.bind_eq_some_iff.mp h
      exact head_Decode.calls_main k A0 c0 l0 nm lk r w hr0 hc0 (by omega) ht hnm hlk h
    | false =>
      obtain rfl := Option.some.inj h
      exact head_Decode.calls_sum k A0 c0 l0 w hr0 hc0 hl ht
  · rw [if_neg hl] at h
    obtain rfl := Option.some.inj h
    exact head_Decode.calls_len A0 c0 l0 w hl
theorem head_Decode.calls (k : Nat) (A0 : Option Addr) (c0 : Nat) (l0 : List Int) (r1 : Int) (r2 : ByteArray) (r3 : ByteArray) (r4 : ByteArray) (r5 : ByteArray) (r6 : ByteArray) (r7 : Int) (r8 : Int) (r9 : Int) (r10 : Int) (r11 : Int) (r12 : Int) (r13 : Int) (w : World) (hr0 : Kd.C (Kd.int .u8) w A0 l0.length l0) (hc0 : l0.length ≤ c0) (h : head_Decode.f k l0 = some (r1, r2, r3, r4, r5, r6, r7, r8, r9, r10, r11, r12, r13)) :
    Calls Try.prog 11 #[.slice A0 l0.length c0] w fun e w' => e = .returned (.tuple #[.agg #[.int .i64 r1, .string r2, .string r3, .string r4, .string r5, .string r6, .int .u8 r7, .int .i64 r8, .int .i64 r9, .int .i64 r10, .int .i64 r11, .int .i64 r12], .int .i64 r13]) ∧ Below w.heap.size w w' :=
  head_Decode.calls_r k A0 c0 l0 (r1, r2, r3, r4, r5, r6, r7, r8, r9, r10, r11, r12, r13) w hr0 hc0 h
end Go.Proofs.Ytchldbhnohicoaa.XA
