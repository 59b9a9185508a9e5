/- The document's header as a block, as the walk tells it. -/
import Derived.Test.YtchldbhnohicoaaXA12
import Derived.Test.YtchldbhnohicoaaXA11
import Derived.Test.YtchldbhnohicoaaERefSums
import Derived.Laws.CopyOwn
namespace Go.Proofs.Ytchldbhnohicoaa.XA
open Go.RowKit Go.Proofs.YtchldbhnohicoaaW.PrintWords Go.Proofs.YtchldbhnohicoaaW.PrintLast Go.Proofs.YtchldbhnohicoaaW.PrintMore
set_option linter.unusedVariables false
set_option linter.unusedSimpArgs false

def pannierref06_Encode.rm (j : Nat) : Nat := [100, 100, 155, 31, 31].getD j 0
def pannierref06_Encode.wd (j : Nat) : Nat := [8, 8, 8, 12, 12].getD j 0
def pannierref06_Encode.T (t0 t1 t2 t3 t4 : ByteArray) (j : Nat) : ByteArray := [t0, t1, t2, t3, t4].getD j ⟨#[]⟩
def pannierref06_Encode.Nn (n0 n1 n2 n3 n4 : Int) (j : Nat) : Int := [n0, n1, n2, n3, n4].getD j 0
def pannierref06_Encode.cat (x y : ByteArray) : Option ByteArray := if x.size + y.size ≤ 9223372036854775807 then some (x ++ y) else none
theorem pannierref06_Encode.cat_some {x y c : ByteArray} (h : pannierref06_Encode.cat x y = some c) : x.size + y.size ≤ 9223372036854775807 ∧ x ++ y = c := by
  unfold pannierref06_Encode.cat at h
  split at h
  · rename_i hs
    exact ⟨hs, Option.some.inj h⟩
  · cases h
def pannierref06_Encode.chk (k : Nat) (T : Nat → ByteArray) : Nat → Nat → Option Bool
  | 0, _ => some true
  | n + 1, j => if ((T j).size : Int) > (pannierref06_Encode.rm j : Int) then some false else (pannierref06_text.f k (T j)).bind fun u => if u.toList = (T j).toList then pannierref06_Encode.chk k T n (j + 1) else some false
def pannierref06_Encode.fmts (k : Nat) (Nn : Nat → Int) : Nat → Nat → ByteArray → Option (ByteArray × Int)
  | 0, _, b => some (b, 0)
  | n + 1, j, b => (pannierref02_Format.f k (Nn j) (pannierref06_Encode.wd j)).bind fun t => if t.2 = 0 then (pannierref06_Encode.cat b t.1).bind fun b1 => pannierref06_Encode.fmts k Nn n (j + 1) b1 else some (⟨#[]⟩, t.2)
def pannierref06_Encode.rest (k : Nat) (ty : Int) (T : Nat → ByteArray) (b : ByteArray) : Option (ByteArray × Int) :=
  (pannierref06_noughts.f k (100 - ((T 1).size : Int))).bind fun z1 =>
  (pannierref06_noughts.f k (32 - ((T 3).size : Int))).bind fun z3 =>
  (pannierref06_noughts.f k (32 - ((T 4).size : Int))).bind fun z4 =>
  (pannierref06_noughts.f k 16).bind fun z5 =>
  (pannierref06_noughts.f k (155 - ((T 2).size : Int))).bind fun z2 =>
  (pannierref06_noughts.f k 12).bind fun z6 =>
  (pannierref06_Encode.cat (⟨#[32, 32, 32, 32, 32, 32, 32, 32]⟩ : ByteArray) (strOfNums [ty])).bind fun c0 =>
  (pannierref06_Encode.cat c0 (T 1)).bind fun c1 =>
  (pannierref06_Encode.cat c1 z1).bind fun c2 =>
  (pannierref06_Encode.cat c2 (⟨#[117, 115, 116, 97, 114, 0, 48, 48]⟩ : ByteArray)).bind fun c3 =>
  (pannierref06_Encode.cat b c3).bind fun b1 =>
  (pannierref06_Encode.cat (T 3) z3).bind fun d1 =>
  (pannierref06_Encode.cat d1 (T 4)).bind fun d2 =>
  (pannierref06_Encode.cat d2 z4).bind fun d3 =>
  (pannierref06_Encode.cat d3 z5).bind fun d4 =>
  (pannierref06_Encode.cat b1 d4).bind fun b2 =>
  (pannierref06_Encode.cat (T 2) z2).bind fun e1 =>
  (pannierref06_Encode.cat e1 z6).bind fun e2 =>
  (pannierref06_Encode.cat b2 e2).bind fun b3 =>
  (pannierref05_Plain.f b3).bind fun n => (pannierref02_Format.f k n 7).bind fun t =>
  if 156 ≤ b3.size then
  (pannierref06_Encode.cat (b3.extract 0 148) t.1).bind fun g1 =>
  (pannierref06_Encode.cat g1 (⟨#[32]⟩ : ByteArray)).bind fun g2 =>
  (pannierref06_Encode.cat g2 (b3.extract 156 b3.size)).bind fun g3 =>
  some (g3, 0) else none
def pannierref06_Encode.nums (k : Nat) (ty : Int) (T : Nat → ByteArray) (Nn : Nat → Int) (n j : Nat) (b : ByteArray) : Option (ByteArray × Int) :=
  (pannierref06_Encode.fmts k Nn n j b).bind fun t => if t.2 = 0 then pannierref06_Encode.rest k ty T t.1 else some (⟨#[]⟩, t.2)
def pannierref06_Encode.main (k : Nat) (ty : Int) (T : Nat → ByteArray) (Nn : Nat → Int) : Option (ByteArray × Int) :=
  (pannierref06_Encode.chk k T 5 0).bind fun ok => if ok = true then
      (pannierref06_noughts.f k (100 - ((T 0).size : Int))).bind fun z => (pannierref06_Encode.cat (T 0) z).bind fun b => pannierref06_Encode.nums k ty T Nn 5 0 b
    else some (⟨#[]⟩, 2)
def pannierref06_Encode.f (k : Nat) (a0 a1 : Int) (a2 a3 a4 a5 a6 : ByteArray) (a7 a8 a9 a10 a11 : Int) : Option (ByteArray × Int) :=
  pannierref06_Encode.main k a1 (pannierref06_Encode.T a2 a3 a4 a5 a6) (pannierref06_Encode.Nn a7 a8 a9 a10 a11)
theorem pannierref06_Encode.mono_chk (T : Nat → ByteArray) (k : Nat) : ∀ n j, LeO (pannierref06_Encode.chk k T n j) (pannierref06_Encode.chk (k + 1) T n j)
  | 0, _ => LeO.refl _
  | n + 1, j => LeO.ite (LeO.refl _) (LeO.bind (pannierref06_text.mono _ _) (fun _ => LeO.ite (pannierref06_Encode.mono_chk T k n _) (LeO.refl _)))
theorem pannierref06_Encode.mono_fmts (Nn : Nat → Int) (k : Nat) : ∀ n j b, LeO (pannierref06_Encode.fmts k Nn n j b) (pannierref06_Encode.fmts (k + 1) Nn n j b)
  | 0, _, _ => LeO.refl _
  | n + 1, j, b => LeO.bind (pannierref02_Format.mono _ _ _) (fun _ => LeO.ite (LeO.bind (LeO.refl _) (fun _ => pannierref06_Encode.mono_fmts Nn k n _ _)) (LeO.refl _))
theorem pannierref06_Encode.mono_rest (k : Nat) (ty : Int) (T : Nat → ByteArray) (b : ByteArray) : LeO (pannierref06_Encode.rest k ty T b) (pannierref06_Encode.rest (k + 1) ty T b) := by
  unfold pannierref06_Encode.rest
  exact LeO.bind (pannierref06_noughts.mono _ _) (fun _ => LeO.bind (pannierref06_noughts.mono _ _) (fun _ => LeO.bind (pannierref06_noughts.mono _ _) (fun _ => LeO.bind (pannierref06_noughts.mono _ _) (fun _ => LeO.bind (pannierref06_noughts.mono _ _) (fun _ => LeO.bind (pannierref06_noughts.mono _ _) (fun _ => LeO.bind (LeO.refl _) (fun _ => LeO.bind (LeO.refl _) (fun _ => LeO.bind (LeO.refl _) (fun _ => LeO.bind (LeO.refl _) (fun _ => LeO.bind (LeO.refl _) (fun _ => LeO.bind (LeO.refl _) (fun _ => LeO.bind (LeO.refl _) (fun _ => LeO.bind (LeO.refl _) (fun _ => LeO.bind (LeO.refl _) (fun _ => LeO.bind (LeO.refl _) (fun _ => LeO.bind (LeO.refl _) (fun _ => LeO.bind (LeO.refl _) (fun _ => LeO.bind (LeO.refl _) (fun _ => LeO.bind (LeO.refl _) (fun _ => LeO.bind (pannierref02_Format.mono _ _ _) (fun _ => LeO.refl _)))))))))))))))))))))
theorem pannierref06_Encode.mono : ∀ a0 a1 a2 a3 a4 a5 a6 a7 a8 a9 a10 a11 k, LeO (pannierref06_Encode.f k a0 a1 a2 a3 a4 a5 a6 a7 a8 a9 a10 a11) (pannierref06_Encode.f (k + 1) a0 a1 a2 a3 a4 a5 a6 a7 a8 a9 a10 a11) := by
  intro a0 a1 a2 a3 a4 a5 a6 a7 a8 a9 a10 a11 k
  unfold pannierref06_Encode.f pannierref06_Encode.main pannierref06_Encode.nums
  exact LeO.bind (pannierref06_Encode.mono_chk _ _ _ _) (fun _ => LeO.ite (LeO.bind (pannierref06_noughts.mono _ _) (fun _ => LeO.bind (LeO.refl _) (fun _ => LeO.bind (pannierref06_Encode.mono_fmts _ _ _ _ _) (fun _ => LeO.ite (pannierref06_Encode.mono_rest _ _ _ _) (LeO.refl _))))) (LeO.refl _))

def pannierref06_Encode.A (a0 ty : Int) (T : Nat → ByteArray) (Nn : Nat → Int) : Array Value :=
  #[.int .i64 a0, .int .u8 ty, .string (T 0), .string (T 1), .string (T 2), .string (T 3), .string (T 4), .int .i64 (Nn 0), .int .i64 (Nn 1), .int .i64 (Nn 2), .int .i64 (Nn 3), .int .i64 (Nn 4)]
def pannierref06_Encode.rooms : Array Value := #[.int .i64 100, .int .i64 100, .int .i64 155, .int .i64 31, .int .i64 31]
def pannierref06_Encode.widths : Array Value := #[.int .i64 8, .int .i64 8, .int .i64 8, .int .i64 12, .int .i64 12]
theorem pannierref06_Encode.five {j : Nat} (h : j < 5) : j = 0 ∨ j = 1 ∨ j = 2 ∨ j = 3 ∨ j = 4 := by omega
theorem pannierref06_Encode.rooms_get {i : Nat} (h : i < 5) : pannierref06_Encode.rooms[i]? = some (.int .i64 (pannierref06_Encode.rm i)) := by rcases pannierref06_Encode.five h with rfl | rfl | rfl | rfl | rfl <;> rfl
theorem pannierref06_Encode.widths_get {i : Nat} (h : i < 5) : pannierref06_Encode.widths[i]? = some (.int .i64 (pannierref06_Encode.wd i)) := by rcases pannierref06_Encode.five h with rfl | rfl | rfl | rfl | rfl <;> rfl
theorem pannierref06_Encode.A_text {a0 ty : Int} {T : Nat → ByteArray} {Nn : Nat → Int} {i : Nat} (h : i < 5) : (pannierref06_Encode.A a0 ty T Nn)[2 + i]? = some (.string (T i)) := by rcases pannierref06_Encode.five h with rfl | rfl | rfl | rfl | rfl <;> rfl
theorem pannierref06_Encode.A_num {a0 ty : Int} {T : Nat → ByteArray} {Nn : Nat → Int} {i : Nat} (h : i < 5) : (pannierref06_Encode.A a0 ty T Nn)[7 + i]? = some (.int .i64 (Nn i)) := by rcases pannierref06_Encode.five h with rfl | rfl | rfl | rfl | rfl <;> rfl
theorem pannierref06_Encode.wd_le {i : Nat} (h : i < 5) : 8 ≤ pannierref06_Encode.wd i ∧ pannierref06_Encode.wd i ≤ 12 := by rcases pannierref06_Encode.five h with rfl | rfl | rfl | rfl | rfl <;> decide
structure pannierref06_Encode.Mem (w wr : World) (A : Array Value) (g : Nat) (L : Array Value) : Prop where
  h : wr.heap[w.heap.size]? = some (.cells A 32 (0, 0))
  l : wr.heap[g]? = some (.cells L 3 (0, 0))
  b : Below w.heap.size w wr
theorem pannierref06_Encode.Mem.below {w wr w1 : World} {A L : Array Value} {g : Nat} (h : pannierref06_Encode.Mem w wr A g L) (hb : Below wr.heap.size wr w1) : pannierref06_Encode.Mem w w1 A g L := ⟨blk_below h.h hb, blk_below h.l hb, below_step h.b hb⟩
theorem pannierref06_Encode.Mem.drewN {w wr : World} {A L : Array Value} {g : Nat} (h : pannierref06_Encode.Mem w wr A g L) (n : Nat) : pannierref06_Encode.Mem w (wr.drewN n) A g L := ⟨blk_drewN h.h n, blk_drewN h.l n, pw_below_drewN h.b n⟩
theorem pannierref06_Encode.Mem.drew {w wr : World} {A L : Array Value} {g : Nat} (h : pannierref06_Encode.Mem w wr A g L) : pannierref06_Encode.Mem w wr.drew A g L := ⟨blk_drew h.h, blk_drew h.l, below_drew1 h.b⟩
theorem pannierref06_Encode.Mem.alloc {w wr : World} {A L : Array Value} {g : Nat} (h : pannierref06_Encode.Mem w wr A g L) (o : Obj) : pannierref06_Encode.Mem w (wr.alloc o) A g L := ⟨blk_alloc h.h _, blk_alloc h.l _, below_alloc h.b _⟩
theorem pannierref06_Encode.Mem.next {w wr : World} {A L : Array Value} {g : Nat} (h : pannierref06_Encode.Mem w wr A g L) (L' : Array Value) : pannierref06_Encode.Mem w (wr.alloc (.cells L' 3)) A wr.heap.size L' := ⟨blk_alloc h.h _, blk_new _ _, below_alloc h.b _⟩
theorem pannierref06_Encode.Mem.first (w : World) (A L : Array Value) : pannierref06_Encode.Mem w ((w.alloc (.cells A 32)).alloc (.cells L 3)) A (w.heap.size + 1) L := ⟨blk_alloc (blk_new _ _) _, heap_alloc2_new w _ _, below_alloc (below_alloc (Below.refl _ _) _) _⟩
theorem pannierref06_Encode.chk_step {k : Nat} {T : Nat → ByteArray} {j : Nat} (h : j < 5) : pannierref06_Encode.chk k T (5 - j) j = if ((T j).size : Int) > (pannierref06_Encode.rm j : Int) then some false else (pannierref06_text.f k (T j)).bind fun u => if u.toList = (T j).toList then pannierref06_Encode.chk k T (5 - (j + 1)) (j + 1) else some false := by
  obtain ⟨m, hm⟩ : ∃ m, 5 - j = m + 1 := ⟨4 - j, by omega⟩
  have hm2 : 5 - (j + 1) = m := by omega
  rw [hm, hm2, pannierref06_Encode.chk]
theorem pannierref06_Encode.nums_step {k : Nat} {ty : Int} {T : Nat → ByteArray} {Nn : Nat → Int} {j : Nat} {b : ByteArray} (h : j < 5) : pannierref06_Encode.nums k ty T Nn (5 - j) j b = (pannierref02_Format.f k (Nn j) (pannierref06_Encode.wd j)).bind fun t => if t.2 = 0 then (pannierref06_Encode.cat b t.1).bind fun b1 => pannierref06_Encode.nums k ty T Nn (5 - (j + 1)) (j + 1) b1 else some (⟨#[]⟩, t.2) := by
  obtain ⟨m, hm⟩ : ∃ m, 5 - j = m + 1 := ⟨4 - j, by omega⟩
  have hm2 : 5 - (j + 1) = m := by omega
  unfold pannierref06_Encode.nums
  rw [hm, hm2, pannierref06_Encode.fmts]
  cases pannierref02_Format.f k (Nn j) (pannierref06_Encode.wd j) with
  | none => rfl
  | some t =>
    simp only [Option.bind_some]
    by_cases he : t.2 = 0
    · rw [if_pos he, if_pos he]
      cases pannierref06_Encode.cat b t.1 with
      | none => rfl
      | some b1 => rfl
    · rw [if_neg he, if_neg he]
      simp only [Option.bind_some, if_neg he]
theorem pannierref06_Encode.byte_str (g : Nat) (ty : Int) (W : World) (h : W.cell? ⟨g, 0, none⟩ = some (.int .u8 ty)) : (convert 22 9 (.slice (some ⟨g, 0, none⟩) 1 1)).run Try.prog W = .ok (.string (strOfNums [ty])) W :=
  string_of_reads Try.underlying22 Try.underlying5 Try.underlying9 ⟨rfl, by omega, fun _ => ⟨⟨g, 0, none⟩, rfl, fun j hj => by
    obtain rfl : j = 0 := by omega
    exact h⟩⟩
def pannierref06_Encode.T16 : Bool × List (List Nat × List Nat) := (true, [([], []), ([], []), ([1], [1]), ([2], [2]), ([3], [3]), ([4], [4]), ([], []), ([6], [6]), ([7], [7]), ([5, 8], [5, 8]), ([], []), ([10], [10]), ([11], [11]), ([12], [12]), ([13], [13]), ([14], [14]), ([9, 15], [9, 15]), ([16], [16]), ([0, 17], [0, 17]), ([18, 15, 0, 1, 2, 3, 4, 5, 6, 7, 8, 9, 10, 11, 12, 13, 14, 15, 16, 17, 18], [0, 18])])
def pannierref06_Encode.B16 : List Nat := [0, 0, 2, 6, 14, 30, 0, 64, 192, 510, 0, 1024, 3072, 7168, 15360, 31744, 65534, 131070, 262143, 524287]
theorem pannierref06_Encode.tab16 : rtab .any (opsOf Try.f16 16) = pannierref06_Encode.T16 := by kernel_rfl
theorem pannierref06_Encode.bits16 : waitsOk pannierref06_Encode.T16.2 pannierref06_Encode.B16 = true := by kernel_rfl
set_option maxHeartbeats 4000000 in
set_option maxRecDepth 100000 in
theorem pannierref06_Encode.calls_main (k : Nat) (a0 ty : Int) (T : Nat → ByteArray) (Nn : Nat → Int) (r : ByteArray × Int) (w : World) (h : pannierref06_Encode.main k ty T Nn = some r) :
    Calls Try.prog 16 #[.agg #[.int .i64 a0, .int .u8 ty, .string (T 0), .string (T 1), .string (T 2), .string (T 3), .string (T 4), .int .i64 (Nn 0), .int .i64 (Nn 1), .int .i64 (Nn 2), .int .i64 (Nn 3), .int .i64 (Nn 4)]] w fun e w' => e = .returned (.tuple #[.string r.1, .int .i64 r.2]) ∧ Below w.heap.size w w' := by
  unfold pannierref06_Encode.main at h
  obtain ⟨ok, hok, h⟩ := Option.bind_eq_some_iff.mp h
  have HOK := Aside0.mk hok
  have HR := Aside0.mk h
  clear hok h
  have hM0 := pannierref06_Encode.Mem.first w (pannierref06_Encode.A a0 ty T Nn) pannierref06_Encode.rooms
  have HM0 := Aside0.mk hM0
  clear hM0
  go_enter Try.func16, Try.ntmps16
  go_wp2_with fail
  go_loopw [5] (fun i wr => ∃ (j : Nat), j ≤ 5 ∧ i = .int .i64 j ∧ Aside0 (pannierref06_Encode.chk k T (5 - j) j = some ok) ∧ Aside0 (∀ i < j, ((T i).size : Int) ≤ pannierref06_Encode.rm i) ∧ Aside0 (pannierref06_Encode.Mem w wr (pannierref06_Encode.A a0 ty T Nn) (w.heap.size + 1) pannierref06_Encode.rooms)) (fun i _ => 5 - (intOf i).toNat)
  case atStart => exact ⟨0, by omega, rfl, HOK, ⟨fun i hi => absurd hi (Nat.not_lt_zero i)⟩, ⟨by have := HM0.out; exact this⟩⟩
  case round =>
    obtain ⟨j, hj, rfl, HCH, HSZ, HME⟩ := hrel
    clear HM0 HOK
    by_cases hlt5 : j < 5
    · have hch := HCH.out
      rw [pannierref06_Encode.chk_step hlt5] at hch
      have hp0 := (blk_cell HME.out.h (2 + j)).trans (pannierref06_Encode.A_text hlt5)
      have hp1 := (blk_cell HME.out.l j).trans (pannierref06_Encode.rooms_get hlt5)
      have hj0 : (0 : Int) ≤ (j : Int) := by omega
      have hj5 : (j : Int) < 5 := by omega
      clear HCH
      by_cases hs : ((T j).size : Int) > (pannierref06_Encode.rm j : Int)
      · rw [if_pos hs] at hch
        obtain rfl := Option.some.inj hch
        have hr := HR.out
        rw [if_neg (by decide)] at hr
        obtain rfl := Option.some.inj hr
        have hd : decide ((pannierref06_Encode.rm j : Int) < ((T j).size : Int)) = true := decide_eq_true hs
        have hd2 : decide (pannierref06_Encode.rm j < (T j).size) = true := decide_eq_true (by omega)
        have HB := HME.out.b
        clear hch hr HR HSZ HME hs
        generalize T j = t at *
        generalize pannierref06_Encode.rm j = m at *
        go_upto_region 5 with (fail)
        go_quiet (fail)
        go_wp2
        go_ret2
        exact ⟨rfl, by repeat (first | (with_reducible exact HB) | (with_reducible apply pw_below_drewN) | (with_reducible apply below_drew1))⟩
      · rw [if_neg hs] at hch
        obtain ⟨u, hu, hch⟩ := Option.bind_eq_some_iff.mp hch
        have hd : decide ((pannierref06_Encode.rm j : Int) < ((T j).size : Int)) = false := decide_eq_false (by omega)
        have hd2 : decide (pannierref06_Encode.rm j < (T j).size) = false := decide_eq_false (by omega)
        have HU := Aside0.mk hu
        have hszj : ∀ i < j + 1, ((T i).size : Int) ≤ pannierref06_Encode.rm i := fun i hi => by
          rcases Nat.lt_succ_iff_lt_or_eq.1 hi with h | rfl
          · exact HSZ.out i h
          · omega
        have HSZ2 := Aside0.mk hszj
        clear hszj hu hs HSZ
        by_cases he : u.toList = (T j).toList
        · rw [if_pos he] at hch
          have he1 : (u.toList == (T j).toList) = true := beq_iff_eq.mpr he
          have HCH := Aside0.mk hch
          clear he hch
          generalize T j = t at *
          generalize pannierref06_Encode.rm j = m at *
          go_upto_region 5 with (fail)
          go_quiet (first | (go_at_call 26; (with_reducible refine (pannierref06_text.calls k t u _ HU.out).mono ?_); rintro e w' ⟨rfl, ⟨nd, rfl⟩⟩; (first | exact ⟨rfl, _, World.drewN_drewN _ _ _⟩ | exact ⟨rfl, _, Eq.trans (World.drewN_drewN _ _ _) (congrArg (World.drewN _) (Nat.add_assoc _ _ _))⟩)))
          go_wp2
          go_roundw
          case rel => exact ⟨j + 1, by omega, by go_num, HCH, HSZ2, ⟨by repeat (first | (with_reducible exact HME.out) | (with_reducible refine pannierref06_Encode.Mem.drewN ?_ _) | (with_reducible refine pannierref06_Encode.Mem.drew ?_))⟩⟩
          case measure => simp [intOf]; omega
        · rw [if_neg he] at hch
          obtain rfl := Option.some.inj hch
          have hr := HR.out
          rw [if_neg (by decide)] at hr
          obtain rfl := Option.some.inj hr
          have he1 : (u.toList == (T j).toList) = false := beq_eq_false_iff_ne.mpr he
          have HB := HME.out.b
          clear hch hr HR HME he HSZ2
          generalize T j = t at *
          generalize pannierref06_Encode.rm j = m at *
          go_upto_region 5 with (fail)
          go_quiet (first | (go_at_call 26; (with_reducible refine (pannierref06_text.calls k t u _ HU.out).mono ?_); rintro e w' ⟨rfl, ⟨nd, rfl⟩⟩; (first | exact ⟨rfl, _, World.drewN_drewN _ _ _⟩ | exact ⟨rfl, _, Eq.trans (World.drewN_drewN _ _ _) (congrArg (World.drewN _) (Nat.add_assoc _ _ _))⟩)))
          go_wp2
          go_ret2
          exact ⟨rfl, by repeat (first | (with_reducible exact HB) | (with_reducible apply pw_below_drewN) | (with_reducible apply below_drew1))⟩
    · obtain rfl : j = 5 := by omega
      have hch := HCH.out
      obtain rfl : true = ok := Option.some.inj hch
      have hr := HR.out
      rw [if_pos rfl] at hr
      obtain ⟨z, hz, hr⟩ := Option.bind_eq_some_iff.mp hr
      obtain ⟨b, hb, hr⟩ := Option.bind_eq_some_iff.mp hr
      obtain ⟨hbs, hbe⟩ := pannierref06_Encode.cat_some hb
      have hs0 : ((T 0).size : Int) ≤ 100 := HSZ.out 0 (by omega)
      have hp0 : ∀ o, (wr.alloc o).cell? ⟨w.heap.size, 2, none⟩ = some (.string (T 0)) := fun o => (blk_cell (blk_alloc HME.out.h o) 2).trans rfl
      have hw0 : IntKind.i64.wrap (100 - ((T 0).size : Int)) = 100 - ((T 0).size : Int) := IntWalk.i64_in _ (by omega)
      have HZ := Aside0.mk hz
      have HNU := Aside0.mk hr
      have hM := HME.out.next pannierref06_Encode.widths
      have HM2 := Aside0.mk hM
      clear hM hb hr hch HCH HR HME hlt5 hz
      generalize hT0 : T 0 = t0 at *
      go_upto_region 8 with (fail)
      go_quiet (first | (go_at_call 29; (with_reducible refine (pannierref06_noughts.calls k (100 - (t0.size : Int)) z _ HZ.out).mono ?_); rintro e w' ⟨rfl, ⟨nd, rfl⟩⟩; (first | exact ⟨rfl, _, World.drewN_drewN _ _ _⟩ | exact ⟨rfl, _, Eq.trans (World.drewN_drewN _ _ _) (congrArg (World.drewN _) (Nat.add_assoc _ _ _))⟩)))
      clear hbe hbs hp0 hw0 hs0
      subst hT0
      rw [show ((5 : Nat) : Int) = 5 from rfl]
      go_wp2_with fail
      generalize hg : wr.heap.size = g at *
      go_loopw [7, 8] (fun v i wl => ∃ (b : ByteArray) (j : Nat), j ≤ 5 ∧ v = .string b ∧ i = .int .i64 j ∧ Aside0 (pannierref06_Encode.nums k ty T Nn (5 - j) j b = some r) ∧ Aside0 (pannierref06_Encode.Mem w wl (pannierref06_Encode.A a0 ty T Nn) g pannierref06_Encode.widths)) (fun _ i _ => 5 - (intOf i).toNat)
      case atStart => exact ⟨b, 0, by omega, rfl, rfl, HNU, ⟨by have := HM2.out.drewN; exact this _⟩⟩
      case round =>
        obtain ⟨b, j, hj, rfl, rfl, HNUM, HME⟩ := hrel
        clear HM2 HNU hg
        by_cases hlt5 : j < 5
        · have hst0 := HNUM.out
          rw [pannierref06_Encode.nums_step hlt5] at hst0
          obtain ⟨⟨s, e⟩, ht, hst⟩ := Option.bind_eq_some_iff.mp hst0
          clear hst0
          have hp0 := (blk_cell HME.out.h (7 + j)).trans (pannierref06_Encode.A_num hlt5)
          have hp1 := (blk_cell HME.out.l j).trans (pannierref06_Encode.widths_get hlt5)
          have hq0 := blk_lt HME.out.h
          have hq1 := blk_lt HME.out.l
          have hj0 : (0 : Int) ≤ (j : Int) := by omega
          have hj5 : (j : Int) < 5 := by omega
          have HT := Aside0.mk ht
          clear ht HNUM
          generalize Nn j = n at *
          generalize pannierref06_Encode.wd j = m at *
          by_cases he : e = 0
          · subst he
            rw [if_pos rfl] at hst
            obtain ⟨b1, hb1, hst2⟩ := Option.bind_eq_some_iff.mp hst
            obtain ⟨hbs, hbe⟩ := pannierref06_Encode.cat_some hb1
            have HST := Aside0.mk hst2
            clear hst hst2 hb1
            go_upto_region 12 with (fail)
            go_region_held3 (fun w' => w'.cell? ⟨w.heap.size, 7 + j, none⟩ = some (.int .i64 n) ∧ w'.cell? ⟨g, j, none⟩ = some (.int .i64 m)) (first | exact ⟨(hb2.cell (p := ⟨w.heap.size, 7 + j, none⟩) hq0).trans hp0, (hb2.cell (p := ⟨g, j, none⟩) hq1).trans hp1⟩ | go_keep)
              (first | (go_at_call 30; (with_reducible refine (pannierref02_Format.calls k n m s 0 _ HT.out).mono ?_); rintro e w2 ⟨rfl, hb2⟩))
            have HM2 := HME.out.drew.below hb2
            clear hb2 hp0 hp1 hq0 hq1
            go_wp2
            go_roundw
            case rel => exact ⟨b1, j + 1, by omega, rfl, by go_num, HST, ⟨HM2⟩⟩
            case measure => simp [intOf]; omega
          · have he1 : (e == 0) = false := beq_eq_false_iff_ne.mpr he
            have he2 : (e != 0) = true := bne_iff_ne.mpr he
            rw [if_neg he] at hst
            obtain rfl := Option.some.inj hst
            clear hst he
            go_upto_region 12 with (fail)
            go_region_held3 (fun w' => w'.cell? ⟨w.heap.size, 7 + j, none⟩ = some (.int .i64 n) ∧ w'.cell? ⟨g, j, none⟩ = some (.int .i64 m)) (first | exact ⟨(hb2.cell (p := ⟨w.heap.size, 7 + j, none⟩) hq0).trans hp0, (hb2.cell (p := ⟨g, j, none⟩) hq1).trans hp1⟩ | go_keep)
              (first | (go_at_call 30; (with_reducible refine (pannierref02_Format.calls k n m s e _ HT.out).mono ?_); rintro e w2 ⟨rfl, hb2⟩))
            have HM2 := HME.out.drew.below hb2
            clear hb2 hp0 hp1 hq0 hq1
            go_wp2
            go_ret2
            exact ⟨rfl, HM2.b⟩
        · obtain rfl : j = 5 := by omega
          have hr0 := HNUM.out
          rw [show pannierref06_Encode.nums k ty T Nn (5 - 5) 5 b = pannierref06_Encode.rest k ty T b from rfl] at hr0
          unfold pannierref06_Encode.rest at hr0
          obtain ⟨z1, hz1, hr0⟩ := Option.bind_eq_some_iff.mp hr0
          have HZ1 := Aside0.mk hz1
          clear hz1
          obtain ⟨z3, hz3, hr0⟩ := Option.bind_eq_some_iff.mp hr0
          have HZ3 := Aside0.mk hz3
          clear hz3
          obtain ⟨z4, hz4, hr0⟩ := Option.bind_eq_some_iff.mp hr0
          have HZ4 := Aside0.mk hz4
          clear hz4
          obtain ⟨z5, hz5, hr0⟩ := Option.bind_eq_some_iff.mp hr0
          have HZ5 := Aside0.mk hz5
          clear hz5
          obtain ⟨z2, hz2, hr0⟩ := Option.bind_eq_some_iff.mp hr0
          have HZ2 := Aside0.mk hz2
          clear hz2
          obtain ⟨z6, hz6, hr0⟩ := Option.bind_eq_some_iff.mp hr0
          have HZ6 := Aside0.mk hz6
          clear hz6
          obtain ⟨c0, hc0, hr0⟩ := Option.bind_eq_some_iff.mp hr0
          have HC0 := Aside0.mk (pannierref06_Encode.cat_some hc0)
          clear hc0
          obtain ⟨c1, hc1, hr0⟩ := Option.bind_eq_some_iff.mp hr0
          have HC1 := Aside0.mk (pannierref06_Encode.cat_some hc1)
          clear hc1
          obtain ⟨c2, hc2, hr0⟩ := Option.bind_eq_some_iff.mp hr0
          have HC2 := Aside0.mk (pannierref06_Encode.cat_some hc2)
          clear hc2
          obtain ⟨c3, hc3, hr0⟩ := Option.bind_eq_some_iff.mp hr0
          have HC3 := Aside0.mk (pannierref06_Encode.cat_some hc3)
          clear hc3
          obtain ⟨b1, hb1, hr0⟩ := Option.bind_eq_some_iff.mp hr0
          have HB1 := Aside0.mk (pannierref06_Encode.cat_some hb1)
          clear hb1
          obtain ⟨d1, hd1, hr0⟩ := Option.bind_eq_some_iff.mp hr0
          have HD1 := Aside0.mk (pannierref06_Encode.cat_some hd1)
          clear hd1
          obtain ⟨d2, hd2, hr0⟩ := Option.bind_eq_some_iff.mp hr0
          have HD2 := Aside0.mk (pannierref06_Encode.cat_some hd2)
          clear hd2
          obtain ⟨d3, hd3, hr0⟩ := Option.bind_eq_some_iff.mp hr0
          have HD3 := Aside0.mk (pannierref06_Encode.cat_some hd3)
          clear hd3
          obtain ⟨d4, hd4, hr0⟩ := Option.bind_eq_some_iff.mp hr0
          have HD4 := Aside0.mk (pannierref06_Encode.cat_some hd4)
          clear hd4
          obtain ⟨b2, hb2, hr0⟩ := Option.bind_eq_some_iff.mp hr0
          have HB2 := Aside0.mk (pannierref06_Encode.cat_some hb2)
          clear hb2
          obtain ⟨e1, he1, hr0⟩ := Option.bind_eq_some_iff.mp hr0
          have HE1 := Aside0.mk (pannierref06_Encode.cat_some he1)
          clear he1
          obtain ⟨e2, he2, hr0⟩ := Option.bind_eq_some_iff.mp hr0
          have HE2 := Aside0.mk (pannierref06_Encode.cat_some he2)
          clear he2
          obtain ⟨b3, hb3, hr0⟩ := Option.bind_eq_some_iff.mp hr0
          have HB3 := Aside0.mk (pannierref06_Encode.cat_some hb3)
          clear hb3
          obtain ⟨n, hn, hr0⟩ := Option.bind_eq_some_iff.mp hr0
          obtain ⟨⟨f, ef⟩, hf, hr0⟩ := Option.bind_eq_some_iff.mp hr0
          split at hr0
          rotate_left
          · cases hr0
          rename_i h156
          obtain ⟨g1, hg1, hr0⟩ := Option.bind_eq_some_iff.mp hr0
          have HG1 := Aside0.mk (pannierref06_Encode.cat_some hg1)
          clear hg1
          obtain ⟨g2, hg2, hr0⟩ := Option.bind_eq_some_iff.mp hr0
          have HG2 := Aside0.mk (pannierref06_Encode.cat_some hg2)
          clear hg2
          obtain ⟨g3, hg3, hr0⟩ := Option.bind_eq_some_iff.mp hr0
          have HG3 := Aside0.mk (pannierref06_Encode.cat_some hg3)
          clear hg3
          obtain rfl := Option.some.inj hr0
          have HN := Aside0.mk hn
          have HF := Aside0.mk hf
          have H156 := Aside0.mk h156
          clear hr0 hn hf h156
          have hs1 : ((T 1).size : Int) ≤ 100 := HSZ.out 1 (by omega)
          have hs2 : ((T 2).size : Int) ≤ 155 := HSZ.out 2 (by omega)
          have hs3 : ((T 3).size : Int) ≤ 31 := HSZ.out 3 (by omega)
          have hs4 : ((T 4).size : Int) ≤ 31 := HSZ.out 4 (by omega)
          have HB := HME.out.b
          have hp1 : wr.cell? ⟨w.heap.size, 1, none⟩ = some (.int .u8 ty) := (blk_cell HME.out.h 1).trans rfl
          have hp2 : wr.cell? ⟨w.heap.size, 2, none⟩ = some (.string (T 0)) := (blk_cell HME.out.h 2).trans rfl
          have hp3 : wr.cell? ⟨w.heap.size, 3, none⟩ = some (.string (T 1)) := (blk_cell HME.out.h 3).trans rfl
          have hp4 : wr.cell? ⟨w.heap.size, 4, none⟩ = some (.string (T 2)) := (blk_cell HME.out.h 4).trans rfl
          have hp5 : wr.cell? ⟨w.heap.size, 5, none⟩ = some (.string (T 3)) := (blk_cell HME.out.h 5).trans rfl
          have hp6 : wr.cell? ⟨w.heap.size, 6, none⟩ = some (.string (T 4)) := (blk_cell HME.out.h 6).trans rfl
          have hne := World.new_ne wr _ hp1
          have HTT1 := Aside0.mk (show (pannierref06_Encode.A a0 ty T Nn)[1]? = some (.int .u8 ty) from rfl)
          have HTT3 := Aside0.mk (show (pannierref06_Encode.A a0 ty T Nn)[3]? = some (.string (T 1)) from rfl)
          have HTT4 := Aside0.mk (show (pannierref06_Encode.A a0 ty T Nn)[4]? = some (.string (T 2)) from rfl)
          have HTT5 := Aside0.mk (show (pannierref06_Encode.A a0 ty T Nn)[5]? = some (.string (T 3)) from rfl)
          have HTT6 := Aside0.mk (show (pannierref06_Encode.A a0 ty T Nn)[6]? = some (.string (T 4)) from rfl)
          generalize hA : pannierref06_Encode.A a0 ty T Nn = AA at *
          clear hA
          generalize T 1 = t1 at *
          generalize T 2 = t2 at *
          generalize T 3 = t3 at *
          generalize T 4 = t4 at *
          have hw1 : IntKind.i64.wrap (100 - (t1.size : Int)) = 100 - (t1.size : Int) := IntWalk.i64_in _ (by omega)
          have hw3 : IntKind.i64.wrap (32 - (t3.size : Int)) = 32 - (t3.size : Int) := IntWalk.i64_in _ (by omega)
          have hw4 : IntKind.i64.wrap (32 - (t4.size : Int)) = 32 - (t4.size : Int) := IntWalk.i64_in _ (by omega)
          have hw2 : IntKind.i64.wrap (155 - (t2.size : Int)) = 155 - (t2.size : Int) := IntWalk.i64_in _ (by omega)
          clear HNUM HZ
          have HSS := Aside0.mk (fun (W : World) (hm : pannierref06_Encode.Mem w W AA g pannierref06_Encode.widths) => And.intro ((blk_cell hm.h 1).trans HTT1.out) ((blk_cell hm.h 3).trans HTT3.out))
          have hc0s := HC0.out.1
          have hc0n : (9223372036854775807 < 8 + (strOfNums [ty]).size) = False := eq_false (Nat.not_lt.2 hc0s)
          have hc0e := HC0.out.2
          have hc1s := HC1.out.1
          have hc1n : (9223372036854775807 < c0.size + t1.size) = False := eq_false (Nat.not_lt.2 hc1s)
          have hc1e := HC1.out.2
          have hc2s := HC2.out.1
          have hc2n : (9223372036854775807 < c1.size + z1.size) = False := eq_false (Nat.not_lt.2 hc2s)
          have hc2e := HC2.out.2
          have hc3s := HC3.out.1
          have hc3n : (9223372036854775807 < c2.size + 8) = False := eq_false (Nat.not_lt.2 hc3s)
          have hc3e := HC3.out.2
          have hb1s := HB1.out.1
          have hb1n : (9223372036854775807 < b.size + c3.size) = False := eq_false (Nat.not_lt.2 hb1s)
          have hb1e := HB1.out.2
          go_upto_region 16 with (fail)
          go_cut [7] (fun v7 wc => v7 = .string b1 ∧ Aside0 (pannierref06_Encode.Mem w wc AA g pannierref06_Encode.widths))
          case first =>
            have HM0 := Aside0.mk HME.out.drew
            clear HME
            refine start_ (n := 20) (S := fun w' => w'.cell? ⟨w.heap.size, 1, none⟩ = some (.int .u8 ty) ∧ w'.cell? ⟨w.heap.size, 3, none⟩ = some (.string t1)) (ds := []) #[false, false, false, false, false, false, false, false, false, false, false, false, false, false, false, false, false, false, false, false] (by kernel_rfl) rfl rfl (HSS.out _ HM0.out) (fun hHeld => ?_); refine with_tabW pannierref06_Encode.tab16 pannierref06_Encode.bits16 (fun HT_ HW_ => ?_)
            generalize wr.drew = w0 at HM0 hHeld ⊢
            refine pure_ (i := 0) (N := some 73) (v := ?_) (a' := ?_) #[true, false, false, false, false, false, false, false, false, false, false, false, false, false, false, false, false, false, false, false] rfl rfl (any_of HT_.out (by kernel_rfl)) (fun _ _ _ h => h) (Or.inl ⟨by rfl, ?_⟩) ?_ ?_
            rotate_left
            · intro w'
              go_simp
              with_reducible rfl
            rotate_left
            · simp only [Act.put, List.setIfInBounds_toArray, List.set_cons_zero, List.set_cons_succ, i64_w, i32_w]
              rfl
            refine pure_ (i := 1) (N := some 74) (v := ?_) (a' := ?_) #[true, true, false, false, false, false, false, false, false, false, false, false, false, false, false, false, false, false, false, false] rfl rfl (any_of HT_.out (by kernel_rfl)) (fun _ _ _ h => h) (Or.inl ⟨by rfl, ?_⟩) ?_ ?_
            rotate_left
            · intro w'
              go_simp
              with_reducible rfl
            rotate_left
            · simp only [Act.put, List.setIfInBounds_toArray, List.set_cons_zero, List.set_cons_succ, i64_w, i32_w]
              rfl
            refine pure_ (i := 6) (N := some 79) (v := ?_) (a' := ?_) #[true, true, false, false, false, false, true, false, false, false, false, false, false, false, false, false, false, false, false, false] rfl rfl (any_of HT_.out (by kernel_rfl)) (fun _ _ _ h => h) (Or.inl ⟨by rfl, ?_⟩) ?_ ?_
            rotate_left
            · intro w'
              go_simp
              with_reducible rfl
            rotate_left
            · simp only [Act.put, List.setIfInBounds_toArray, List.set_cons_zero, List.set_cons_succ, i64_w, i32_w]
              rfl
            refine pure_ (i := 7) (N := some 80) (v := ?_) (a' := ?_) #[true, true, false, false, false, false, true, true, false, false, false, false, false, false, false, false, false, false, false, false] rfl rfl (any_of HT_.out (by kernel_rfl)) (fun _ _ _ h => h) (Or.inl ⟨by rfl, ?_⟩) ?_ ?_
            rotate_left
            · intro w'
              go_simp
              with_reducible rfl
            rotate_left
            · simp only [Act.put, List.setIfInBounds_toArray, List.set_cons_zero, List.set_cons_succ, i64_w, i32_w]
              rfl
            refine pure_ (i := 10) (N := some 83) (v := ?_) (a' := ?_) #[true, true, false, false, false, false, true, true, false, false, true, false, false, false, false, false, false, false, false, false] rfl rfl (any_of HT_.out (by kernel_rfl)) (fun _ _ _ h => h) (Or.inl ⟨by rfl, ?_⟩) ?_ ?_
            rotate_left
            · intro w'
              go_simp
              with_reducible rfl
            rotate_left
            · simp only [Act.put, List.setIfInBounds_toArray, List.set_cons_zero, List.set_cons_succ, i64_w, i32_w]
              rfl
            refine pure_ (i := 11) (N := some 84) (v := ?_) (a' := ?_) #[true, true, false, false, false, false, true, true, false, false, true, true, false, false, false, false, false, false, false, false] rfl rfl (any_of HT_.out (by kernel_rfl)) (fun _ _ _ h => h) (Or.inl ⟨by rfl, ?_⟩) ?_ ?_
            rotate_left
            · intro w'
              go_simp
              with_reducible rfl
            rotate_left
            · simp only [Act.put, List.setIfInBounds_toArray, List.set_cons_zero, List.set_cons_succ, i64_w, i32_w]
              rfl
            refine take_ (i := 2) (N := some 75) (v := ?_) (a' := ?_) #[true, true, true, false, false, false, true, true, false, false, true, true, false, false, false, false, false, false, false, false] rfl rfl (take_ofW HT_.out HW_.out (by kernel_rfl)) (fun _ _ _ h => h) (Or.inl ⟨by rfl, ?_⟩) hHeld ?_ ?_
            rotate_left
            · rintro w' ⟨s0, s1⟩
              go_simp
              with_reducible rfl
            rotate_left
            · simp only [Act.put, List.setIfInBounds_toArray, List.set_cons_zero, List.set_cons_succ, i64_w, i32_w]
              rfl
            refine take_ (i := 8) (N := some 81) (v := ?_) (a' := ?_) #[true, true, true, false, false, false, true, true, true, false, true, true, false, false, false, false, false, false, false, false] rfl rfl (take_ofW HT_.out HW_.out (by kernel_rfl)) (fun _ _ _ h => h) (Or.inl ⟨by rfl, ?_⟩) hHeld ?_ ?_
            rotate_left
            · rintro w' ⟨s0, s1⟩
              go_simp
              with_reducible rfl
            rotate_left
            · simp only [Act.put, List.setIfInBounds_toArray, List.set_cons_zero, List.set_cons_succ, i64_w, i32_w]
              rfl
            refine take_ (i := 12) (N := some 85) (v := ?_) (a' := ?_) #[true, true, true, false, false, false, true, true, true, false, true, true, true, false, false, false, false, false, false, false] rfl rfl (take_ofW HT_.out HW_.out (by kernel_rfl)) (fun _ _ _ h => h) (Or.inl ⟨by rfl, ?_⟩) hHeld ?_ ?_
            rotate_left
            · rintro w' ⟨s0, s1⟩
              go_simp
              with_reducible rfl
            rotate_left
            · simp only [Act.put, List.setIfInBounds_toArray, List.set_cons_zero, List.set_cons_succ, i64_w, i32_w]
              rfl
            refine pure_ (i := 13) (N := some 86) (v := ?_) (a' := ?_) #[true, true, true, false, false, false, true, true, true, false, true, true, true, true, false, false, false, false, false, false] rfl rfl (any_of HT_.out (by kernel_rfl)) (fun _ _ _ h => h) (Or.inl ⟨by rfl, ?_⟩) ?_ ?_
            rotate_left
            · intro w'
              go_simp
              with_reducible rfl
            rotate_left
            · simp only [Act.put, List.setIfInBounds_toArray, List.set_cons_zero, List.set_cons_succ, i64_w, i32_w]
              rfl
            refine pure_ (i := 14) (N := some 87) (v := ?_) (a' := ?_) #[true, true, true, false, false, false, true, true, true, false, true, true, true, true, true, false, false, false, false, false] rfl rfl (any_of HT_.out (by kernel_rfl)) (fun _ _ _ h => h) (Or.inl ⟨by rfl, ?_⟩) ?_ ?_
            rotate_left
            · intro w'
              go_simp
              with_reducible rfl
            rotate_left
            · simp only [Act.put, List.setIfInBounds_toArray, List.set_cons_zero, List.set_cons_succ, i64_w, i32_w]
              rfl
            refine two_ (i := 3) (j := 15) (Ni := some 76) (Nj := some 88) #[true, true, true, true, false, false, true, true, true, false, true, true, true, true, true, false, false, false, false, false] #[true, true, true, false, false, false, true, true, true, false, true, true, true, true, true, true, false, false, false, false] rfl rfl rfl rfl (two_of HT_.out (by kernel_rfl)) (by decide) (by decide) (fun K hK => ?_) (fun K hK => ?_)
            · skip
              refine value_ (w1 := ?_) (v := ?_) (by rfl) rfl ?_ ?_
              rotate_left 2
              · go_simp
                constructor
                · rfl
                · rfl
              refine hK.out _ _ (HSS.out _ (by repeat (first | (with_reducible exact HM0.out) | (with_reducible refine pannierref06_Encode.Mem.drewN ?_ _) | (with_reducible refine pannierref06_Encode.Mem.drew ?_) | (with_reducible refine pannierref06_Encode.Mem.alloc ?_ _)))) (fun hHeld => ?_)
              clear hK K
              refine norm_ (a' := ?_) ?_ ?_
              rotate_left
              · show Act.put _ (some 76) _ = _
                simp only [Act.put, List.setIfInBounds_toArray, List.set_cons_zero, List.set_cons_succ, i64_w, i32_w]
                rfl
              refine two_ (i := 4) (j := 15) (Ni := some 77) (Nj := some 88) #[true, true, true, true, true, false, true, true, true, false, true, true, true, true, true, false, false, false, false, false] #[true, true, true, true, false, false, true, true, true, false, true, true, true, true, true, true, false, false, false, false] rfl rfl rfl rfl (two_of HT_.out (by kernel_rfl)) (by decide) (by decide) (fun K hK => ?_) (fun K hK => ?_)
              · skip
                have hcv := pannierref06_Encode.byte_str w0.heap.size ty _ (show (w0.alloc (.cells #[.int .u8 ty] 5)).cell? ⟨w0.heap.size, 0, none⟩ = some (.int .u8 ty) from blk_cell (blk_new w0 _) 0)
                refine value_ (w1 := ?_) (v := ?_) (by rfl) rfl ?_ ?_
                rotate_left 2
                · go_simp
                  constructor
                  · rfl
                  · rfl
                clear hcv
                refine hK.out _ _ (HSS.out _ (by repeat (first | (with_reducible exact HM0.out) | (with_reducible refine pannierref06_Encode.Mem.drewN ?_ _) | (with_reducible refine pannierref06_Encode.Mem.drew ?_) | (with_reducible refine pannierref06_Encode.Mem.alloc ?_ _)))) (fun hHeld => ?_)
                clear hK K
                refine norm_ (a' := ?_) ?_ ?_
                rotate_left
                · show Act.put _ (some 77) _ = _
                  simp only [Act.put, List.setIfInBounds_toArray, List.set_cons_zero, List.set_cons_succ, i64_w, i32_w]
                  rfl
                refine pure_ (i := 5) (N := some 78) (v := ?_) (a' := ?_) #[true, true, true, true, true, true, true, true, true, false, true, true, true, true, true, false, false, false, false, false] rfl rfl (any_of HT_.out (by kernel_rfl)) (fun _ _ _ h => h) (Or.inl ⟨by rfl, ?_⟩) ?_ ?_
                rotate_left
                · intro w'
                  go_simp
                  with_reducible rfl
                rotate_left
                · simp only [Act.put, List.setIfInBounds_toArray, List.set_cons_zero, List.set_cons_succ, i64_w, i32_w]
                  rfl
                refine pure_ (i := 9) (N := some 82) (v := ?_) (a' := ?_) #[true, true, true, true, true, true, true, true, true, true, true, true, true, true, true, false, false, false, false, false] rfl rfl (any_of HT_.out (by kernel_rfl)) (fun _ _ _ h => h) (Or.inl ⟨by rfl, ?_⟩) ?_ ?_
                rotate_left
                · intro w'
                  go_simp
                  with_reducible rfl
                rotate_left
                · simp only [Act.put, List.setIfInBounds_toArray, List.set_cons_zero, List.set_cons_succ, i64_w, i32_w]
                  rfl
                refine one_ (i := 15) (N := some 88) #[true, true, true, true, true, true, true, true, true, true, true, true, true, true, true, true, false, false, false, false] rfl rfl (one_of HT_.out (by kernel_rfl)) (by decide) (fun K hK => ?_)
                refine goes_ Try.func29 (by kernel_rfl) rfl #[.int .i64 (100 - (t1.size : Int))] (by rfl) rfl rfl (by (try simp only [List.map_toArray, List.map_cons, List.map_nil]); first | done | rfl) ?_
                with_reducible refine (pannierref06_noughts.calls k (100 - (t1.size : Int)) z1 _ HZ1.out).mono ?_
                rintro e w' ⟨rfl, ⟨nd, rfl⟩⟩
                refine ⟨_, rfl, ?_⟩
                refine hK.out _ _ (HSS.out _ (by repeat (first | (with_reducible exact HM0.out) | (with_reducible refine pannierref06_Encode.Mem.drewN ?_ _) | (with_reducible refine pannierref06_Encode.Mem.drew ?_) | (with_reducible refine pannierref06_Encode.Mem.alloc ?_ _)))) (fun hHeld => ?_)
                clear hK K
                refine norm_ (a' := ?_) ?_ ?_
                rotate_left
                · show Act.put _ (some 88) _ = _
                  simp only [Act.put, List.setIfInBounds_toArray, List.set_cons_zero, List.set_cons_succ, i64_w, i32_w]
                  rfl
                refine pure_ (i := 16) (N := some 89) (v := ?_) (a' := ?_) #[true, true, true, true, true, true, true, true, true, true, true, true, true, true, true, true, true, false, false, false] rfl rfl (any_of HT_.out (by kernel_rfl)) (fun _ _ _ h => h) (Or.inl ⟨by rfl, ?_⟩) ?_ ?_
                rotate_left
                · intro w'
                  go_simp
                  with_reducible rfl
                rotate_left
                · simp only [Act.put, List.setIfInBounds_toArray, List.set_cons_zero, List.set_cons_succ, i64_w, i32_w]
                  rfl
                refine pure_ (i := 17) (N := some 90) (v := ?_) (a' := ?_) #[true, true, true, true, true, true, true, true, true, true, true, true, true, true, true, true, true, true, false, false] rfl rfl (any_of HT_.out (by kernel_rfl)) (fun _ _ _ h => h) (Or.inl ⟨by rfl, ?_⟩) ?_ ?_
                rotate_left
                · intro w'
                  go_simp
                  with_reducible rfl
                rotate_left
                · simp only [Act.put, List.setIfInBounds_toArray, List.set_cons_zero, List.set_cons_succ, i64_w, i32_w]
                  rfl
                refine pure_ (i := 18) (N := some 91) (v := ?_) (a' := ?_) #[true, true, true, true, true, true, true, true, true, true, true, true, true, true, true, true, true, true, true, false] rfl rfl (any_of HT_.out (by kernel_rfl)) (fun _ _ _ h => h) (Or.inl ⟨by rfl, ?_⟩) ?_ ?_
                rotate_left
                · intro w'
                  go_simp
                  with_reducible rfl
                rotate_left
                · simp only [Act.put, List.setIfInBounds_toArray, List.set_cons_zero, List.set_cons_succ, i64_w, i32_w]
                  rfl
                refine pure_ (i := 19) (N := some 7) (v := ?_) (a' := ?_) #[true, true, true, true, true, true, true, true, true, true, true, true, true, true, true, true, true, true, true, true] rfl rfl (any_of HT_.out (by kernel_rfl)) (fun _ _ _ h => h) (Or.inl ⟨by rfl, ?_⟩) ?_ ?_
                rotate_left
                · intro w'
                  go_simp
                  with_reducible rfl
                rotate_left
                · simp only [Act.put, List.setIfInBounds_toArray, List.set_cons_zero, List.set_cons_succ, i64_w, i32_w]
                  rfl
                refine done_ (done_of HT_.out (by kernel_rfl)) ?_
                try go_wp2
                go_meet
                case rel => exact ⟨rfl, ⟨by repeat (first | (with_reducible exact HM0.out) | (with_reducible refine pannierref06_Encode.Mem.drewN ?_ _) | (with_reducible refine pannierref06_Encode.Mem.drew ?_) | (with_reducible refine pannierref06_Encode.Mem.alloc ?_ _))⟩⟩
              · skip
                refine goes_ Try.func29 (by kernel_rfl) rfl #[.int .i64 (100 - (t1.size : Int))] (by rfl) rfl rfl (by (try simp only [List.map_toArray, List.map_cons, List.map_nil]); first | done | rfl) ?_
                with_reducible refine (pannierref06_noughts.calls k (100 - (t1.size : Int)) z1 _ HZ1.out).mono ?_
                rintro e w' ⟨rfl, ⟨nd, rfl⟩⟩
                refine ⟨_, rfl, ?_⟩
                refine hK.out _ _ (HSS.out _ (by repeat (first | (with_reducible exact HM0.out) | (with_reducible refine pannierref06_Encode.Mem.drewN ?_ _) | (with_reducible refine pannierref06_Encode.Mem.drew ?_) | (with_reducible refine pannierref06_Encode.Mem.alloc ?_ _)))) (fun hHeld => ?_)
                clear hK K
                refine norm_ (a' := ?_) ?_ ?_
                rotate_left
                · show Act.put _ (some 88) _ = _
                  simp only [Act.put, List.setIfInBounds_toArray, List.set_cons_zero, List.set_cons_succ, i64_w, i32_w]
                  rfl
                refine one_ (i := 4) (N := some 77) #[true, true, true, true, true, false, true, true, true, false, true, true, true, true, true, true, false, false, false, false] rfl rfl (one_of HT_.out (by kernel_rfl)) (by decide) (fun K hK => ?_)
                have hcv := pannierref06_Encode.byte_str w0.heap.size ty _ (show ((w0.alloc (.cells #[.int .u8 ty] 5)).drewN nd).cell? ⟨w0.heap.size, 0, none⟩ = some (.int .u8 ty) from blk_cell (blk_drewN (blk_new w0 _) _) 0)
                refine value_ (w1 := ?_) (v := ?_) (by rfl) rfl ?_ ?_
                rotate_left 2
                · go_simp
                  constructor
                  · rfl
                  · rfl
                clear hcv
                refine hK.out _ _ (HSS.out _ (by repeat (first | (with_reducible exact HM0.out) | (with_reducible refine pannierref06_Encode.Mem.drewN ?_ _) | (with_reducible refine pannierref06_Encode.Mem.drew ?_) | (with_reducible refine pannierref06_Encode.Mem.alloc ?_ _)))) (fun hHeld => ?_)
                clear hK K
                refine norm_ (a' := ?_) ?_ ?_
                rotate_left
                · show Act.put _ (some 77) _ = _
                  simp only [Act.put, List.setIfInBounds_toArray, List.set_cons_zero, List.set_cons_succ, i64_w, i32_w]
                  rfl
                refine pure_ (i := 5) (N := some 78) (v := ?_) (a' := ?_) #[true, true, true, true, true, true, true, true, true, false, true, true, true, true, true, true, false, false, false, false] rfl rfl (any_of HT_.out (by kernel_rfl)) (fun _ _ _ h => h) (Or.inl ⟨by rfl, ?_⟩) ?_ ?_
                rotate_left
                · intro w'
                  go_simp
                  with_reducible rfl
                rotate_left
                · simp only [Act.put, List.setIfInBounds_toArray, List.set_cons_zero, List.set_cons_succ, i64_w, i32_w]
                  rfl
                refine pure_ (i := 9) (N := some 82) (v := ?_) (a' := ?_) #[true, true, true, true, true, true, true, true, true, true, true, true, true, true, true, true, false, false, false, false] rfl rfl (any_of HT_.out (by kernel_rfl)) (fun _ _ _ h => h) (Or.inl ⟨by rfl, ?_⟩) ?_ ?_
                rotate_left
                · intro w'
                  go_simp
                  with_reducible rfl
                rotate_left
                · simp only [Act.put, List.setIfInBounds_toArray, List.set_cons_zero, List.set_cons_succ, i64_w, i32_w]
                  rfl
                refine pure_ (i := 16) (N := some 89) (v := ?_) (a' := ?_) #[true, true, true, true, true, true, true, true, true, true, true, true, true, true, true, true, true, false, false, false] rfl rfl (any_of HT_.out (by kernel_rfl)) (fun _ _ _ h => h) (Or.inl ⟨by rfl, ?_⟩) ?_ ?_
                rotate_left
                · intro w'
                  go_simp
                  with_reducible rfl
                rotate_left
                · simp only [Act.put, List.setIfInBounds_toArray, List.set_cons_zero, List.set_cons_succ, i64_w, i32_w]
                  rfl
                refine pure_ (i := 17) (N := some 90) (v := ?_) (a' := ?_) #[true, true, true, true, true, true, true, true, true, true, true, true, true, true, true, true, true, true, false, false] rfl rfl (any_of HT_.out (by kernel_rfl)) (fun _ _ _ h => h) (Or.inl ⟨by rfl, ?_⟩) ?_ ?_
                rotate_left
                · intro w'
                  go_simp
                  with_reducible rfl
                rotate_left
                · simp only [Act.put, List.setIfInBounds_toArray, List.set_cons_zero, List.set_cons_succ, i64_w, i32_w]
                  rfl
                refine pure_ (i := 18) (N := some 91) (v := ?_) (a' := ?_) #[true, true, true, true, true, true, true, true, true, true, true, true, true, true, true, true, true, true, true, false] rfl rfl (any_of HT_.out (by kernel_rfl)) (fun _ _ _ h => h) (Or.inl ⟨by rfl, ?_⟩) ?_ ?_
                rotate_left
                · intro w'
                  go_simp
                  with_reducible rfl
                rotate_left
                · simp only [Act.put, List.setIfInBounds_toArray, List.set_cons_zero, List.set_cons_succ, i64_w, i32_w]
                  rfl
                refine pure_ (i := 19) (N := some 7) (v := ?_) (a' := ?_) #[true, true, true, true, true, true, true, true, true, true, true, true, true, true, true, true, true, true, true, true] rfl rfl (any_of HT_.out (by kernel_rfl)) (fun _ _ _ h => h) (Or.inl ⟨by rfl, ?_⟩) ?_ ?_
                rotate_left
                · intro w'
                  go_simp
                  with_reducible rfl
                rotate_left
                · simp only [Act.put, List.setIfInBounds_toArray, List.set_cons_zero, List.set_cons_succ, i64_w, i32_w]
                  rfl
                refine done_ (done_of HT_.out (by kernel_rfl)) ?_
                try go_wp2
                go_meet
                case rel => exact ⟨rfl, ⟨by repeat (first | (with_reducible exact HM0.out) | (with_reducible refine pannierref06_Encode.Mem.drewN ?_ _) | (with_reducible refine pannierref06_Encode.Mem.drew ?_) | (with_reducible refine pannierref06_Encode.Mem.alloc ?_ _))⟩⟩
            · skip
              refine goes_ Try.func29 (by kernel_rfl) rfl #[.int .i64 (100 - (t1.size : Int))] (by rfl) rfl rfl (by (try simp only [List.map_toArray, List.map_cons, List.map_nil]); first | done | rfl) ?_
              with_reducible refine (pannierref06_noughts.calls k (100 - (t1.size : Int)) z1 _ HZ1.out).mono ?_
              rintro e w' ⟨rfl, ⟨nd, rfl⟩⟩
              refine ⟨_, rfl, ?_⟩
              refine hK.out _ _ (HSS.out _ (by repeat (first | (with_reducible exact HM0.out) | (with_reducible refine pannierref06_Encode.Mem.drewN ?_ _) | (with_reducible refine pannierref06_Encode.Mem.drew ?_) | (with_reducible refine pannierref06_Encode.Mem.alloc ?_ _)))) (fun hHeld => ?_)
              clear hK K
              refine norm_ (a' := ?_) ?_ ?_
              rotate_left
              · show Act.put _ (some 88) _ = _
                simp only [Act.put, List.setIfInBounds_toArray, List.set_cons_zero, List.set_cons_succ, i64_w, i32_w]
                rfl
              refine one_ (i := 3) (N := some 76) #[true, true, true, true, false, false, true, true, true, false, true, true, true, true, true, true, false, false, false, false] rfl rfl (one_of HT_.out (by kernel_rfl)) (by decide) (fun K hK => ?_)
              refine value_ (w1 := ?_) (v := ?_) (by rfl) rfl ?_ ?_
              rotate_left 2
              · go_simp
                constructor
                · rfl
                · rfl
              refine hK.out _ _ (HSS.out _ (by repeat (first | (with_reducible exact HM0.out) | (with_reducible refine pannierref06_Encode.Mem.drewN ?_ _) | (with_reducible refine pannierref06_Encode.Mem.drew ?_) | (with_reducible refine pannierref06_Encode.Mem.alloc ?_ _)))) (fun hHeld => ?_)
              clear hK K
              refine norm_ (a' := ?_) ?_ ?_
              rotate_left
              · show Act.put _ (some 76) _ = _
                simp only [Act.put, List.setIfInBounds_toArray, List.set_cons_zero, List.set_cons_succ, i64_w, i32_w]
                rfl
              refine one_ (i := 4) (N := some 77) #[true, true, true, true, true, false, true, true, true, false, true, true, true, true, true, true, false, false, false, false] rfl rfl (one_of HT_.out (by kernel_rfl)) (by decide) (fun K hK => ?_)
              have hcv := pannierref06_Encode.byte_str w0.heap.size ty _ (show ((w0.drewN nd).alloc (.cells #[.int .u8 ty] 5)).cell? ⟨w0.heap.size, 0, none⟩ = some (.int .u8 ty) from blk_cell (blk_new (w0.drewN nd) (.cells #[.int .u8 ty] 5)) 0)
              refine value_ (w1 := ?_) (v := ?_) (by rfl) rfl ?_ ?_
              rotate_left 2
              · go_simp
                constructor
                · rfl
                · rfl
              clear hcv
              refine hK.out _ _ (HSS.out _ (by repeat (first | (with_reducible exact HM0.out) | (with_reducible refine pannierref06_Encode.Mem.drewN ?_ _) | (with_reducible refine pannierref06_Encode.Mem.drew ?_) | (with_reducible refine pannierref06_Encode.Mem.alloc ?_ _)))) (fun hHeld => ?_)
              clear hK K
              refine norm_ (a' := ?_) ?_ ?_
              rotate_left
              · show Act.put _ (some 77) _ = _
                simp only [Act.put, List.setIfInBounds_toArray, List.set_cons_zero, List.set_cons_succ, i64_w, i32_w]
                rfl
              refine pure_ (i := 5) (N := some 78) (v := ?_) (a' := ?_) #[true, true, true, true, true, true, true, true, true, false, true, true, true, true, true, true, false, false, false, false] rfl rfl (any_of HT_.out (by kernel_rfl)) (fun _ _ _ h => h) (Or.inl ⟨by rfl, ?_⟩) ?_ ?_
              rotate_left
              · intro w'
                go_simp
                with_reducible rfl
              rotate_left
              · simp only [Act.put, List.setIfInBounds_toArray, List.set_cons_zero, List.set_cons_succ, i64_w, i32_w]
                rfl
              refine pure_ (i := 9) (N := some 82) (v := ?_) (a' := ?_) #[true, true, true, true, true, true, true, true, true, true, true, true, true, true, true, true, false, false, false, false] rfl rfl (any_of HT_.out (by kernel_rfl)) (fun _ _ _ h => h) (Or.inl ⟨by rfl, ?_⟩) ?_ ?_
              rotate_left
              · intro w'
                go_simp
                with_reducible rfl
              rotate_left
              · simp only [Act.put, List.setIfInBounds_toArray, List.set_cons_zero, List.set_cons_succ, i64_w, i32_w]
                rfl
              refine pure_ (i := 16) (N := some 89) (v := ?_) (a' := ?_) #[true, true, true, true, true, true, true, true, true, true, true, true, true, true, true, true, true, false, false, false] rfl rfl (any_of HT_.out (by kernel_rfl)) (fun _ _ _ h => h) (Or.inl ⟨by rfl, ?_⟩) ?_ ?_
              rotate_left
              · intro w'
                go_simp
                with_reducible rfl
              rotate_left
              · simp only [Act.put, List.setIfInBounds_toArray, List.set_cons_zero, List.set_cons_succ, i64_w, i32_w]
                rfl
              refine pure_ (i := 17) (N := some 90) (v := ?_) (a' := ?_) #[true, true, true, true, true, true, true, true, true, true, true, true, true, true, true, true, true, true, false, false] rfl rfl (any_of HT_.out (by kernel_rfl)) (fun _ _ _ h => h) (Or.inl ⟨by rfl, ?_⟩) ?_ ?_
              rotate_left
              · intro w'
                go_simp
                with_reducible rfl
              rotate_left
              · simp only [Act.put, List.setIfInBounds_toArray, List.set_cons_zero, List.set_cons_succ, i64_w, i32_w]
                rfl
              refine pure_ (i := 18) (N := some 91) (v := ?_) (a' := ?_) #[true, true, true, true, true, true, true, true, true, true, true, true, true, true, true, true, true, true, true, false] rfl rfl (any_of HT_.out (by kernel_rfl)) (fun _ _ _ h => h) (Or.inl ⟨by rfl, ?_⟩) ?_ ?_
              rotate_left
              · intro w'
                go_simp
                with_reducible rfl
              rotate_left
              · simp only [Act.put, List.setIfInBounds_toArray, List.set_cons_zero, List.set_cons_succ, i64_w, i32_w]
                rfl
              refine pure_ (i := 19) (N := some 7) (v := ?_) (a' := ?_) #[true, true, true, true, true, true, true, true, true, true, true, true, true, true, true, true, true, true, true, true] rfl rfl (any_of HT_.out (by kernel_rfl)) (fun _ _ _ h => h) (Or.inl ⟨by rfl, ?_⟩) ?_ ?_
              rotate_left
              · intro w'
                go_simp
                with_reducible rfl
              rotate_left
              · simp only [Act.put, List.setIfInBounds_toArray, List.set_cons_zero, List.set_cons_succ, i64_w, i32_w]
                rfl
              refine done_ (done_of HT_.out (by kernel_rfl)) ?_
              try go_wp2
              go_meet
              case rel => exact ⟨rfl, ⟨by repeat (first | (with_reducible exact HM0.out) | (with_reducible refine pannierref06_Encode.Mem.drewN ?_ _) | (with_reducible refine pannierref06_Encode.Mem.drew ?_) | (with_reducible refine pannierref06_Encode.Mem.alloc ?_ _))⟩⟩
          case rest =>
            obtain ⟨rfl, HME⟩ := hcut
            have hp3 : wc.cell? ⟨w.heap.size, 3, none⟩ = some (.string t1) := (blk_cell HME.out.h 3).trans HTT3.out
            have hp4 : wc.cell? ⟨w.heap.size, 4, none⟩ = some (.string t2) := (blk_cell HME.out.h 4).trans HTT4.out
            have hp5 : wc.cell? ⟨w.heap.size, 5, none⟩ = some (.string t3) := (blk_cell HME.out.h 5).trans HTT5.out
            have hp6 : wc.cell? ⟨w.heap.size, 6, none⟩ = some (.string t4) := (blk_cell HME.out.h 6).trans HTT6.out
            have hd1s := HD1.out.1
            have hd1n : (9223372036854775807 < t3.size + z3.size) = False := eq_false (Nat.not_lt.2 hd1s)
            have hd1e := HD1.out.2
            have hd2s := HD2.out.1
            have hd2n : (9223372036854775807 < d1.size + t4.size) = False := eq_false (Nat.not_lt.2 hd2s)
            have hd2e := HD2.out.2
            have hd3s := HD3.out.1
            have hd3n : (9223372036854775807 < d2.size + z4.size) = False := eq_false (Nat.not_lt.2 hd3s)
            have hd3e := HD3.out.2
            have hd4s := HD4.out.1
            have hd4n : (9223372036854775807 < d3.size + z5.size) = False := eq_false (Nat.not_lt.2 hd4s)
            have hd4e := HD4.out.2
            have hb2s := HB2.out.1
            have hb2n : (9223372036854775807 < b1.size + d4.size) = False := eq_false (Nat.not_lt.2 hb2s)
            have hb2e := HB2.out.2
            go_upto_region 17 with (fail)
            go_quiet (first | (go_at_call 29; (with_reducible refine (pannierref06_noughts.calls k (32 - (t3.size : Int)) z3 _ HZ3.out).mono ?_); rintro e w' ⟨rfl, ⟨nd, rfl⟩⟩; (first | exact ⟨rfl, _, World.drewN_drewN _ _ _⟩ | exact ⟨rfl, _, Eq.trans (World.drewN_drewN _ _ _) (congrArg (World.drewN _) (Nat.add_assoc _ _ _))⟩)) | (go_at_call 29; (with_reducible refine (pannierref06_noughts.calls k (32 - (t4.size : Int)) z4 _ HZ4.out).mono ?_); rintro e w' ⟨rfl, ⟨nd, rfl⟩⟩; (first | exact ⟨rfl, _, World.drewN_drewN _ _ _⟩ | exact ⟨rfl, _, Eq.trans (World.drewN_drewN _ _ _) (congrArg (World.drewN _) (Nat.add_assoc _ _ _))⟩)) | (go_at_call 29; (with_reducible refine (pannierref06_noughts.calls k 16 z5 _ HZ5.out).mono ?_); rintro e w' ⟨rfl, ⟨nd, rfl⟩⟩; (first | exact ⟨rfl, _, World.drewN_drewN _ _ _⟩ | exact ⟨rfl, _, Eq.trans (World.drewN_drewN _ _ _) (congrArg (World.drewN _) (Nat.add_assoc _ _ _))⟩)))
            clear hd1s hd1e hd2s hd2e hd3s hd3e hd4s hd4e hb2s hb2e hd1n hd2n hd3n hd4n hb2n
            have he1s := HE1.out.1
            have he1n : (9223372036854775807 < t2.size + z2.size) = False := eq_false (Nat.not_lt.2 he1s)
            have he1e := HE1.out.2
            have he2s := HE2.out.1
            have he2n : (9223372036854775807 < e1.size + z6.size) = False := eq_false (Nat.not_lt.2 he2s)
            have he2e := HE2.out.2
            have hb3s := HB3.out.1
            have hb3n : (9223372036854775807 < b2.size + e2.size) = False := eq_false (Nat.not_lt.2 hb3s)
            have hb3e := HB3.out.2
            go_upto_region 18 with (fail)
            go_quiet (first | (go_at_call 29; (with_reducible refine (pannierref06_noughts.calls k (155 - (t2.size : Int)) z2 _ HZ2.out).mono ?_); rintro e w' ⟨rfl, ⟨nd, rfl⟩⟩; (first | exact ⟨rfl, _, World.drewN_drewN _ _ _⟩ | exact ⟨rfl, _, Eq.trans (World.drewN_drewN _ _ _) (congrArg (World.drewN _) (Nat.add_assoc _ _ _))⟩)) | (go_at_call 29; (with_reducible refine (pannierref06_noughts.calls k 12 z6 _ HZ6.out).mono ?_); rintro e w' ⟨rfl, ⟨nd, rfl⟩⟩; (first | exact ⟨rfl, _, World.drewN_drewN _ _ _⟩ | exact ⟨rfl, _, Eq.trans (World.drewN_drewN _ _ _) (congrArg (World.drewN _) (Nat.add_assoc _ _ _))⟩)))
            clear he1s he1e he2s he2e hb3s hb3e he1n he2n hb3n
            go_upto_region 20 with (first | (go_at_call 31; (with_reducible refine (pannierref05_Plain.calls b3 n _ HN.out).mono ?_); rintro e w3 ⟨rfl, hb3⟩) | (go_at_call 30; (with_reducible refine (pannierref02_Format.calls k n 7 f ef _ HF.out).mono ?_); rintro e w4 ⟨rfl, hb4⟩))
            have h1 : (148 : Int) ≤ (b3.size : Int) := by have := H156.out; omega
            have h2 : (156 : Int) ≤ (b3.size : Int) := by have := H156.out; omega
            have hg1s : (b3.extract 0 148).size + f.size ≤ 9223372036854775807 := HG1.out.1
            have hg1n : (9223372036854775807 < (b3.extract 0 148).size + f.size) = False := eq_false (Nat.not_lt.2 hg1s)
            have hg1e : b3.extract 0 148 ++ f = g1 := HG1.out.2
            have hg2s := HG2.out.1
            have hg2n : (9223372036854775807 < g1.size + 1) = False := eq_false (Nat.not_lt.2 hg2s)
            have hg2e := HG2.out.2
            have hg3s := HG3.out.1
            have hg3n : (9223372036854775807 < g2.size + (b3.extract 156 b3.size).size) = False := eq_false (Nat.not_lt.2 hg3s)
            have hg3e := HG3.out.2
            go_quiet (fail)
            go_wp2
            go_ret2
            refine ⟨rfl, ?_⟩
            repeat (first | (with_reducible exact HME.out.b) | (with_reducible apply pw_below_drewN) | (with_reducible apply below_drew1) | (with_reducible refine below_step ?_ hb4) | (with_reducible refine below_step ?_ hb3))
theorem pannierref06_Encode.calls (k : Nat) (a0_0 : Int) (a0_1 : Int) (a0_2 : ByteArray) (a0_3 : ByteArray) (a0_4 : ByteArray) (a0_5 : ByteArray) (a0_6 : ByteArray) (a0_7 : Int) (a0_8 : Int) (a0_9 : Int) (a0_10 : Int) (a0_11 : Int) (r1 : ByteArray) (r2 : Int) (w : World) (h : pannierref06_Encode.f k a0_0 a0_1 a0_2 a0_3 a0_4 a0_5 a0_6 a0_7 a0_8 a0_9 a0_10 a0_11 = some (r1, r2)) :
    Calls Try.prog 16 #[.agg #[.int .i64 a0_0, .int .u8 a0_1, .string a0_2, .string a0_3, .string a0_4, .string a0_5, .string a0_6, .int .i64 a0_7, .int .i64 a0_8, .int .i64 a0_9, .int .i64 a0_10, .int .i64 a0_11]] w fun e w' => e = .returned (.tuple #[.string r1, .int .i64 r2]) ∧ Below w.heap.size w w' :=
  pannierref06_Encode.calls_main k a0_0 a0_1 (pannierref06_Encode.T a0_2 a0_3 a0_4 a0_5 a0_6) (pannierref06_Encode.Nn a0_7 a0_8 a0_9 a0_10 a0_11) (r1, r2) w h
end Go.Proofs.Ytchldbhnohicoaa.XA
