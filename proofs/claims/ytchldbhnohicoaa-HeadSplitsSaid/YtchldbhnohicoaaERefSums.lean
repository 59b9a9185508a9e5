/- The document's sums of a header's bytes: how often each byte stands there, in an array of 256 numbers. -/
import Derived.Test.YtchldbhnohicoaaESums
import Derived.Laws.Tables
import Derived.Laws.Rows
import Derived.Laws.CopyOwn
namespace Go.Proofs.Ytchldbhnohicoaa.XA
open Go.RowKit Go.Proofs.YtchldbhnohicoaaW.PrintWords Go.Proofs.YtchldbhnohicoaaW.PrintLast Go.Proofs.YtchldbhnohicoaaW.PrintMore
set_option linter.unusedVariables false
set_option linter.unusedSimpArgs false

def encs64 (c : List Int) : Array Value := (c.map (Value.int .i64)).toArray
def noughts256 : List Int := List.replicate 256 0
theorem zero256 (w : World) : (zeroValue 75).run Try.prog w = .ok (.agg (encs64 noughts256)) w := by kernel_rfl
theorem build256 (w : World) : (Instr.build 75 #[]).run Try.prog w = .ok (.agg (encs64 noughts256)) w := by kernel_rfl
theorem size256 : (Try.prog.info? 75).map (·.size) = some 256 := by kernel_rfl
def bump (c : List Int) (x : Int) : List Int := c.set x.toNat (c.getD x.toNat 0 + 1)
def tally : Nat → List Int → List Int → List Int
  | _, [], c => c
  | i, x :: xs, c => tally (i + 1) xs (bump c (blankAt i x))
theorem encs64_size (c : List Int) : (encs64 c).size = c.length := by simp [encs64]
theorem encs64_one (c : List Int) : (encs64 c).all (·.oneCell') = true := by
  rw [Array.all_eq_true_iff_forall_mem]
  intro u hu
  simp only [encs64, List.mem_toArray, List.mem_map] at hu
  obtain ⟨x, _, rfl⟩ := hu
  rfl
theorem encs64_get {c : List Int} {j : Nat} (h : j < c.length) : (encs64 c)[j]? = some (.int .i64 (c.getD j 0)) := by
  simp [encs64, List.getElem?_eq_getElem h, List.getD_eq_getElem?_getD]
theorem encs64_bump (c : List Int) (j : Nat) : (encs64 c).setIfInBounds j (.int .i64 (c.getD j 0 + 1)) = encs64 (bump c (j : Int)) := by
  simp [encs64, bump, List.map_set]
theorem bump_length (c : List Int) (x : Int) : (bump c x).length = c.length := by simp [bump]
/-- No count is below nought, or above so many. -/
def upTo (c : List Int) (k : Nat) : Prop := ∀ j, 0 ≤ c.getD j 0 ∧ c.getD j 0 ≤ (k : Int)
theorem upTo_bump {c : List Int} {k : Nat} (h : upTo c k) (x : Int) : upTo (bump c x) (k + 1) := by
  intro j
  have h1 := h j
  have h2 := h x.toNat
  unfold bump
  rw [List.getD_eq_getElem?_getD, List.getElem?_set]
  split
  · split
    · simp only [Option.getD_some]; omega
    · simp only [Option.getD_none]; omega
  · rw [← List.getD_eq_getElem?_getD]; omega
theorem bytesOf_drop {s : ByteArray} {k : Nat} (h : k < s.size) : (bytesOf s).drop k = ((s[k].toNat : Nat) : Int) :: (bytesOf s).drop (k + 1) := by
  rw [List.drop_eq_getElem_cons (by rw [bytesOf_length]; exact h)]
  simp [bytesOf, ByteArray.getElem_eq_getElem_data]

set_option maxHeartbeats 2000000 in
set_option maxRecDepth 100000 in
theorem counts_calls (s : ByteArray) (w : World) (hs : s.size ≤ 1000000) : Calls Try.prog 41 #[.string s] w fun e w' => e = .returned (.agg (encs64 (tally 0 (bytesOf s) noughts256))) ∧ Below w.heap.size w w' := by
  have hu1 := Try.underlying75
  have hz := zero256
  have hb := build256
  go_enter Try.func41, Try.ntmps41
  go_wp2_with ((with_reducible refine wpList_store_row rfl 75 (.tmp 3) (.tmp 5) rfl (w.heap.size + 1) (encs64 noughts256) rfl rfl 75 (encs64 noughts256) (heap_alloc2_new w _ _) ?hi rfl (encs64_one _) ?_); (case hi => rw [encs64_size]; exact size256))
  clear hz hb
  have hB0 : Below w.heap.size w (((w.alloc (.cells (encs64 noughts256) 75)).alloc (.cells (encs64 noughts256) 75)).setRow (w.heap.size + 1) (encs64 noughts256)) :=
    below_setRow (below_alloc (below_alloc (Below.refl _ _) _) _) (by omega) _
  have hh0 : (((w.alloc (.cells (encs64 noughts256) 75)).alloc (.cells (encs64 noughts256) 75)).setRow (w.heap.size + 1) (encs64 noughts256)).heap[w.heap.size + 1]? = some (.cells (encs64 noughts256) 75 (0, 0)) :=
    setRow_heap _ _ _ _ _ _ (heap_alloc2_new w _ _)
  have hh1 : (((w.alloc (.cells (encs64 noughts256) 75)).alloc (.cells (encs64 noughts256) 75)).setRow (w.heap.size + 1) (encs64 noughts256)).heap[w.heap.size]? = some (.cells (encs64 noughts256) 75 (0, 0)) :=
    (setRow_other _ _ _ _ (by omega)).trans (heap_alloc2_old w _ _)
  go_loopw [4] (fun i wr => ∃ (k : Nat) (c : List Int), k ≤ s.size ∧ i = .int .i64 k ∧ Aside0 (c.length = 256) ∧ Aside0 (upTo c k) ∧ Aside0 (tally k ((bytesOf s).drop k) c = tally 0 (bytesOf s) noughts256) ∧ Aside0 (wr.heap[w.heap.size + 1]? = some (.cells (encs64 c) 75 (0, 0))) ∧ Aside0 (wr.heap[w.heap.size]? = some (.cells (encs64 noughts256) 75 (0, 0))) ∧ Aside0 (Below w.heap.size w wr)) (fun i _ => s.size - (intOf i).toNat)
  case atStart => exact ⟨0, noughts256, Nat.zero_le _, rfl, ⟨rfl⟩, ⟨by intro j; unfold noughts256; rw [List.getD_eq_getElem?_getD, List.getElem?_replicate]; split <;> simp⟩, ⟨rfl⟩, ⟨hh0⟩, ⟨hh1⟩, ⟨hB0⟩⟩
  case round =>
    obtain ⟨k, c, hk, rfl, HL, HU, HT, HH, HG, HB⟩ := hrel
    clear hh0 hh1 hB0
    by_cases hlt : k < s.size
    · have hd := bytesOf_drop hlt
      have HT2 : Aside0 (tally (k + 1) ((bytesOf s).drop (k + 1)) (bump c (blankAt k ((s[k].toNat : Nat) : Int))) = tally 0 (bytesOf s) noughts256) := ⟨by have := HT.out; rw [hd] at this; exact this⟩
      clear hd HT
      have hbyte : s[k].toNat < 256 := s[k].toNat_lt
      by_cases h148 : 148 ≤ k ∧ k < 156
      · obtain ⟨h148, h156⟩ := h148
        have e1 : blankAt k ((s[k].toNat : Nat) : Int) = 32 := by unfold blankAt; rw [if_pos ⟨h148, h156⟩]
        have HT3 : Aside0 (tally (k + 1) ((bytesOf s).drop (k + 1)) (bump c 32) = tally 0 (bytesOf s) noughts256) := ⟨by rw [← e1]; exact HT2.out⟩
        have hc0 := cell_of_row wr (w.heap.size + 1) 32 _ _ _ HH.out
        rw [encs64_get (by rw [HL.out]; omega)] at hc0
        have hf0 := frozen_of_row wr (w.heap.size + 1) 32 _ _ HH.out
        have hu := HU.out 32
        obtain ⟨v, hv⟩ : ∃ v, v = c.getD 32 0 := ⟨_, rfl⟩
        rw [← hv] at hc0 hu
        have HV := Aside0.mk hv
        clear hv e1 HT2
        go_wp2
        refine ⟨⟨k + 1, bump c 32, by omega, by go_num, ⟨by rw [bump_length]; exact HL.out⟩, ⟨upTo_bump HU.out _⟩, HT3, ⟨?_⟩, ⟨(heap_setCell_other _ _ _ _ (by simp)).trans HG.out⟩, ⟨HB.out.setCell (by simp) _⟩⟩, by simp [intOf]; omega⟩
        have := heap_setCell_same wr (w.heap.size + 1) 32 _ _ (.int .i64 (v + 1)) HH.out
        rw [this, HV.out]
        exact congrArg (fun a => some (Obj.cells a 75 (0, 0))) (encs64_bump c 32)
      · have e1 : blankAt k ((s[k].toNat : Nat) : Int) = ((s[k].toNat : Nat) : Int) := by unfold blankAt; rw [if_neg h148]
        have HT3 : Aside0 (tally (k + 1) ((bytesOf s).drop (k + 1)) (bump c ((s[k].toNat : Nat) : Int)) = tally 0 (bytesOf s) noughts256) := ⟨by have := HT2.out; rw [e1] at this; exact this⟩
        have hc0 := cell_of_row wr (w.heap.size + 1) s[k].toNat _ _ _ HH.out
        rw [encs64_get (by rw [HL.out]; exact hbyte)] at hc0
        have hf0 := frozen_of_row wr (w.heap.size + 1) s[k].toNat _ _ HH.out
        have hu := HU.out s[k].toNat
        obtain ⟨v, hv⟩ : ∃ v, v = c.getD s[k].toNat 0 := ⟨_, rfl⟩
        rw [← hv] at hc0 hu
        have HV := Aside0.mk hv
        clear hv e1 HT2
        by_cases h148' : 148 ≤ k
        · have h156 : ¬ k < 156 := by omega
          clear h148
          go_wp2
          refine ⟨⟨k + 1, bump c ((s[k].toNat : Nat) : Int), by omega, by go_num, ⟨by rw [bump_length]; exact HL.out⟩, ⟨upTo_bump HU.out _⟩, HT3, ⟨?_⟩, ⟨(heap_setCell_other _ _ _ _ (by simp)).trans HG.out⟩, ⟨HB.out.setCell (by simp) _⟩⟩, by simp [intOf]; omega⟩
          have := heap_setCell_same wr (w.heap.size + 1) s[k].toNat _ _ (.int .i64 (v + 1)) HH.out
          rw [this, HV.out]
          exact congrArg (fun a => some (Obj.cells a 75 (0, 0))) (encs64_bump c s[k].toNat)
        · clear h148
          go_wp2
          refine ⟨⟨k + 1, bump c ((s[k].toNat : Nat) : Int), by omega, by go_num, ⟨by rw [bump_length]; exact HL.out⟩, ⟨upTo_bump HU.out _⟩, HT3, ⟨?_⟩, ⟨(heap_setCell_other _ _ _ _ (by simp)).trans HG.out⟩, ⟨HB.out.setCell (by simp) _⟩⟩, by simp [intOf]; omega⟩
          have := heap_setCell_same wr (w.heap.size + 1) s[k].toNat _ _ (.int .i64 (v + 1)) HH.out
          rw [this, HV.out]
          exact congrArg (fun a => some (Obj.cells a 75 (0, 0))) (encs64_bump c s[k].toNat)
    · obtain rfl : k = s.size := by omega
      have hc : c = tally 0 (bytesOf s) noughts256 := by
        have := HT.out
        rw [List.drop_eq_nil_of_le (by rw [bytesOf_length]; omega)] at this
        exact this
      have HC := Aside0.mk hc
      clear hc
      have hsz : (Try.prog.info? 75).map (·.size) = some (encs64 c).size := by rw [encs64_size, HL.out]; exact size256
      have hsz0 : (Try.prog.info? 75).map (·.size) = some (encs64 noughts256).size := by rw [encs64_size]; exact size256
      have HS := Aside0.mk hsz
      have HS0 := Aside0.mk hsz0
      have HZ := Aside0.mk (show (encs64 noughts256).size = (encs64 c).size by rw [encs64_size, encs64_size, HL.out]; rfl)
      clear hsz hsz0
      go_wp2_with (first
        | (with_reducible refine wpList_load_row rfl 75 (.tmp 3) rfl (w.heap.size + 1) rfl 75 _ _ _ HH.out Try.underlying75 rfl HS.out ?_)
        | (with_reducible refine wpList_store_row rfl 75 (.tmp 2) (.tmp 30) rfl w.heap.size (encs64 c) rfl rfl 75 _ HG.out HS.out HZ.out (encs64_one _) ?_))
      refine bodyPost_ret (v := .agg (encs64 c)) (results_cell_row rfl _ _ w.heap.size 75 _ _ _ rfl (setRow_heap _ _ _ _ _ _ HG.out) Try.underlying75 rfl HS.out) rfl ⟨by rw [HC.out], below_setRow HB.out (Nat.le_refl _) _⟩

/-! the sums over the counts, in plain words -/
def wsum : Nat → List Int → Int
  | _, [] => 0
  | i, c :: cs => (i : Int) * c + wsum (i + 1) cs
def hsum : List Int → Int
  | [] => 0
  | c :: cs => c + hsum cs
theorem wsum_bump : ∀ (c : List Int) (i j : Nat), j < c.length → wsum i (c.set j (c.getD j 0 + 1)) = wsum i c + ((i + j : Nat) : Int)
  | [], i, j, h => by simp at h
  | c :: cs, i, 0, _ => by
    simp only [List.set_cons_zero, wsum, List.getD_cons_zero]
    rw [Int.mul_add]
    omega
  | c :: cs, i, j + 1, h => by
    simp only [List.set_cons_succ, wsum, List.getD_cons_succ]
    rw [wsum_bump cs (i + 1) j (by simpa using h)]
    omega
theorem hsum_bump : ∀ (c : List Int) (j : Nat), j < c.length → hsum (c.set j (c.getD j 0 + 1)) = hsum c + 1
  | [], j, h => by simp at h
  | c :: cs, 0, _ => by simp only [List.set_cons_zero, hsum, List.getD_cons_zero]; omega
  | c :: cs, j + 1, h => by
    simp only [List.set_cons_succ, hsum, List.getD_cons_succ]
    rw [hsum_bump cs j (by simpa using h)]
    omega
theorem blankAt_range {i : Nat} {x : Int} (h0 : 0 ≤ x) (h1 : x < 256) : 0 ≤ blankAt i x ∧ blankAt i x < 256 := by unfold blankAt; split <;> omega
theorem tally_length : ∀ (l : List Int) (i : Nat) (c : List Int), (tally i l c).length = c.length
  | [], _, _ => rfl
  | x :: l, i, c => by rw [tally, tally_length l, bump_length]
theorem tally_upTo : ∀ (l : List Int) (i : Nat) (c : List Int) (k : Nat), upTo c k → upTo (tally i l c) (k + l.length)
  | [], _, _, _, h => h
  | x :: l, i, c, k, h => by
    have := tally_upTo l (i + 1) _ (k + 1) (upTo_bump h (blankAt i x))
    rw [tally, List.length_cons, show k + (l.length + 1) = k + 1 + l.length by omega]
    exact this
theorem tally_wsum : ∀ (l : List Int) (i : Nat) (c : List Int), c.length = 256 → (∀ x ∈ l, 0 ≤ x ∧ x < 256) → wsum 0 (tally i l c) = wsum 0 c + total plainOne i l
  | [], _, _, _, _ => by simp [tally, total]
  | x :: l, i, c, hc, hl => by
    have hx := hl x (by simp)
    have hr := blankAt_range (i := i) hx.1 hx.2
    rw [tally, tally_wsum l (i + 1) _ (by rw [bump_length]; exact hc) (fun y hy => hl y (by simp [hy])), bump, wsum_bump _ _ _ (by omega), total, plainOne]
    omega
theorem drop_set_ge {c : List Int} {j : Nat} (h : 128 ≤ j) (v : Int) : (c.set j v).drop 128 = (c.drop 128).set (j - 128) v := by rw [List.drop_set, if_neg (by omega)]
theorem drop_set_lt {c : List Int} {j : Nat} (h : j < 128) (v : Int) : (c.set j v).drop 128 = c.drop 128 := by rw [List.drop_set, if_pos h]
set_option maxRecDepth 100000 in
theorem tally_hsum : ∀ (l : List Int) (i : Nat) (c : List Int), c.length = 256 → (∀ x ∈ l, 0 ≤ x ∧ x < 256) → total plainOne i l - 256 * (hsum ((tally i l c).drop 128) - hsum (c.drop 128)) = total signedOne i l
  | [], _, _, _, _ => by simp [tally, total]
  | x :: l, i, c, hc, hl => by
    have hx := hl x (by simp)
    have hr := blankAt_range (i := i) hx.1 hx.2
    have ih := tally_hsum l (i + 1) (bump c (blankAt i x)) (by rw [bump_length]; exact hc) (fun y hy => hl y (by simp [hy]))
    rw [tally, total, total, plainOne, signedOne]
    by_cases h : blankAt i x < 128
    · rw [if_pos h]
      have e : (bump c (blankAt i x)).drop 128 = c.drop 128 := by unfold bump; exact drop_set_lt (by omega) _
      rw [e] at ih
      omega
    · rw [if_neg h]
      have e : hsum ((bump c (blankAt i x)).drop 128) = hsum (c.drop 128) + 1 := by
        unfold bump
        rw [drop_set_ge (by omega)]
        have e2 : c.getD (blankAt i x).toNat 0 = (c.drop 128).getD ((blankAt i x).toNat - 128) 0 := by
          rw [List.getD_eq_getElem?_getD, List.getD_eq_getElem?_getD, List.getElem?_drop]
          congr 3
          omega
        rw [e2]
        exact hsum_bump _ _ (by rw [List.length_drop]; omega)
      omega
theorem bytesOf_range (s : ByteArray) : ∀ x ∈ bytesOf s, 0 ≤ x ∧ x < 256 := by
  intro x hx
  simp only [bytesOf, List.mem_map] at hx
  obtain ⟨b, _, rfl⟩ := hx
  have := b.toNat_lt
  omega
theorem noughts_upTo : upTo noughts256 0 := by
  intro j
  unfold noughts256
  rw [List.getD_eq_getElem?_getD, List.getElem?_replicate]
  split <;> simp
def counted (s : ByteArray) : List Int := tally 0 (bytesOf s) noughts256
set_option maxRecDepth 100000 in
theorem counted_length (s : ByteArray) : (counted s).length = 256 := by rw [counted, tally_length]; rfl
theorem counted_upTo (s : ByteArray) : upTo (counted s) s.size := by
  have := tally_upTo (bytesOf s) 0 _ 0 noughts_upTo
  rw [bytesOf_length, Nat.zero_add] at this
  exact this
set_option maxRecDepth 100000 in
theorem counted_wsum (s : ByteArray) : wsum 0 (counted s) = total plainOne 0 (bytesOf s) := by
  rw [counted, tally_wsum _ _ _ rfl (bytesOf_range s)]
  have : wsum 0 noughts256 = 0 := by decide +kernel
  omega
set_option maxRecDepth 100000 in
theorem counted_hsum (s : ByteArray) : total plainOne 0 (bytesOf s) - 256 * hsum ((counted s).drop 128) = total signedOne 0 (bytesOf s) := by
  have := tally_hsum (bytesOf s) 0 noughts256 rfl (bytesOf_range s)
  have e : hsum (noughts256.drop 128) = 0 := by decide +kernel
  rw [e] at this
  rw [counted]
  omega
theorem drop_cons {c : List Int} {k : Nat} (h : k < c.length) : c.drop k = c.getD k 0 :: c.drop (k + 1) := by
  rw [List.drop_eq_getElem_cons h, List.getD_eq_getElem?_getD, List.getElem?_eq_getElem h]
  rfl

def pannierref05_Plain.f (s : ByteArray) : Option Int := if s.size ≤ 1000000 then some (total plainOne 0 (bytesOf s)) else none
def pannierref05_Signed.f (s : ByteArray) : Option Int := if s.size ≤ 1000000 then some (total signedOne 0 (bytesOf s)) else none

set_option maxHeartbeats 2000000 in
set_option maxRecDepth 100000 in
theorem pannierref05_Plain.calls (a0 : ByteArray) (r : Int) (w : World) (h : pannierref05_Plain.f a0 = some r) :
    Calls Try.prog 31 #[.string a0] w fun e w' => e = .returned (.int .i64 r) ∧ Below w.heap.size w w' := by
  have hs : a0.size ≤ 1000000 := by
    unfold pannierref05_Plain.f at h
    split at h
    · assumption
    · cases h
  have hr : r = wsum 0 (counted a0) := by
    unfold pannierref05_Plain.f at h
    rw [if_pos hs] at h
    rw [counted_wsum]
    exact (Option.some.inj h).symm
  have HR := Aside0.mk hr
  clear h hr
  have hu1 := Try.underlying75
  have hz := zero256
  have HL := Aside0.mk (counted_length a0)
  have HU := Aside0.mk (counted_upTo a0)
  go_enter Try.func31, Try.ntmps31
  go_wp2_with fail
  refine (counts_calls a0 w hs).mono ?_
  rintro e w1 ⟨rfl, hb⟩
  have HB1 := Aside0.mk hb
  clear hb
  have HC : Aside0 (tally 0 (bytesOf a0) noughts256 = counted a0) := ⟨rfl⟩
  rw [HC.out]
  obtain ⟨c, hc⟩ : ∃ c, c = counted a0 := ⟨_, rfl⟩
  rw [← hc] at HL HU HR ⊢
  clear hc HC
  have hsz : (Try.prog.info? 75).map (·.size) = some (encs64 c).size := by rw [encs64_size, HL.out]; exact size256
  have HS := Aside0.mk hsz
  have HZ := Aside0.mk (show (encs64 noughts256).size = (encs64 c).size by rw [encs64_size, encs64_size, HL.out]; rfl)
  clear hsz
  go_wp2_with (with_reducible refine wpList_store_row rfl 75 (.tmp 3) (.tmp 7) rfl w1.heap.size (encs64 c) rfl rfl 75 (encs64 noughts256) (heap_alloc_new w1 _) HS.out HZ.out (encs64_one _) ?_)
  clear hz
  have HB0 : Aside0 (Below w.heap.size w ((w1.alloc (.cells (encs64 noughts256) 75)).setRow w1.heap.size (encs64 c))) :=
    ⟨below_setRow (HB1.out.alloc HB1.out.size _) HB1.out.size _⟩
  have HH : Aside0 (((w1.alloc (.cells (encs64 noughts256) 75)).setRow w1.heap.size (encs64 c)).heap[w1.heap.size]? = some (.cells (encs64 c) 75 (0, 0))) :=
    ⟨setRow_heap _ _ _ _ _ _ (heap_alloc_new w1 _)⟩
  obtain ⟨W, hW⟩ : ∃ W, W = (w1.alloc (.cells (encs64 noughts256) 75)).setRow w1.heap.size (encs64 c) := ⟨_, rfl⟩
  rw [← hW] at HB0 HH ⊢
  clear hW
  go_loop [4, 5] (fun n i => ∃ (k : Nat) (m : Int), k ≤ 256 ∧ i = .int .i64 k ∧ n = .int .i64 m ∧ 0 ≤ m ∧ m ≤ 255000000 * (k : Int) ∧ Aside0 (m + wsum k (c.drop k) = wsum 0 c)) (fun _ i => 256 - (intOf i).toNat)
  case atStart => exact ⟨0, 0, Nat.zero_le _, rfl, rfl, by omega, by omega, ⟨by simp⟩⟩
  case round =>
    obtain ⟨k, m, hk, rfl, rfl, hm0, hm1, HT⟩ := hrel
    by_cases hlt : k < 256
    · have HT2 : Aside0 (m + ((k : Int) * c.getD k 0 + wsum (k + 1) (c.drop (k + 1))) = wsum 0 c) := ⟨by have := HT.out; rw [drop_cons (by rw [HL.out]; exact hlt)] at this; exact this⟩
      have hc0 := cell_of_row W w1.heap.size k _ _ _ HH.out
      rw [encs64_get (by rw [HL.out]; exact hlt)] at hc0
      have hu := HU.out k
      obtain ⟨v, hv⟩ : ∃ v, v = c.getD k 0 := ⟨_, rfl⟩
      rw [← hv] at hc0 hu HT2
      clear hv HT
      have hp0 : 0 ≤ (k : Int) * v := Int.mul_nonneg (by omega) (by omega)
      have hp1 : (k : Int) * v ≤ 255000000 := by
        have h1 : (k : Int) * v ≤ 255 * v := Int.mul_le_mul_of_nonneg_right (by omega) (by omega)
        omega
      go_wp2
      go_round
      case rel => exact ⟨k + 1, m + (k : Int) * v, by omega, by go_num, rfl, by omega, by omega, ⟨by have := HT2.out; omega⟩⟩
      case measure => simp [intOf]; omega
    · obtain rfl : k = 256 := by omega
      have hm : m = wsum 0 c := by
        have := HT.out
        rw [List.drop_eq_nil_of_le (by rw [HL.out]; omega)] at this
        simp only [wsum] at this
        omega
      have HM := Aside0.mk hm
      clear hm
      go_wp2
      go_ret
      exact ⟨by rw [HR.out, ← HM.out]; rfl, HB0.out⟩

set_option maxHeartbeats 2000000 in
set_option maxRecDepth 100000 in
theorem pannierref05_Signed.calls (a0 : ByteArray) (r : Int) (w : World) (h : pannierref05_Signed.f a0 = some r) :
    Calls Try.prog 37 #[.string a0] w fun e w' => e = .returned (.int .i64 r) ∧ Below w.heap.size w w' := by
  have hs : a0.size ≤ 1000000 := by
    unfold pannierref05_Signed.f at h
    split at h
    · assumption
    · cases h
  have hr : r = total plainOne 0 (bytesOf a0) - 256 * hsum ((counted a0).drop 128) := by
    unfold pannierref05_Signed.f at h
    rw [if_pos hs] at h
    rw [counted_hsum]
    exact (Option.some.inj h).symm
  have HR := Aside0.mk hr
  have HPF : Aside0 (pannierref05_Plain.f a0 = some (total plainOne 0 (bytesOf a0))) := ⟨by unfold pannierref05_Plain.f; rw [if_pos hs]⟩
  have hpb : 0 ≤ total plainOne 0 (bytesOf a0) ∧ total plainOne 0 (bytesOf a0) ≤ 256000000 := by
    have key : ∀ (l : List Int) (i : Nat), (∀ x ∈ l, 0 ≤ x ∧ x < 256) → 0 ≤ total plainOne i l ∧ total plainOne i l ≤ 256 * (l.length : Int) := by
      intro l
      induction l with
      | nil => intro i _; simp [total]
      | cons x l ih =>
        intro i hl
        have h1 := blankAt_range (i := i) (hl x (by simp)).1 (hl x (by simp)).2
        have h2 := ih (i + 1) (fun y hy => hl y (by simp [hy]))
        simp only [total, plainOne, List.length_cons]
        omega
    have := key (bytesOf a0) 0 (bytesOf_range a0)
    rw [bytesOf_length] at this
    omega
  obtain ⟨p, hp⟩ : ∃ p, p = total plainOne 0 (bytesOf a0) := ⟨_, rfl⟩
  rw [← hp] at HR HPF hpb
  clear h hr hp
  have hu1 := Try.underlying75
  have hz := zero256
  have HL := Aside0.mk (counted_length a0)
  have HU := Aside0.mk (counted_upTo a0)
  go_enter Try.func37, Try.ntmps37
  go_wp2_with fail
  refine (counts_calls a0 w hs).mono ?_
  rintro e w1 ⟨rfl, hb⟩
  have HB1 := Aside0.mk hb
  clear hb
  have HC : Aside0 (tally 0 (bytesOf a0) noughts256 = counted a0) := ⟨rfl⟩
  rw [HC.out]
  obtain ⟨c, hc⟩ : ∃ c, c = counted a0 := ⟨_, rfl⟩
  rw [← hc] at HL HU HR ⊢
  clear hc HC
  have hsz : (Try.prog.info? 75).map (·.size) = some (encs64 c).size := by rw [encs64_size, HL.out]; exact size256
  have HS := Aside0.mk hsz
  have HZ := Aside0.mk (show (encs64 noughts256).size = (encs64 c).size by rw [encs64_size, encs64_size, HL.out]; rfl)
  clear hsz
  go_wp2_with (with_reducible refine wpList_store_row rfl 75 (.tmp 3) (.tmp 7) rfl w1.heap.size (encs64 c) rfl rfl 75 (encs64 noughts256) (heap_alloc_new w1 _) HS.out HZ.out (encs64_one _) ?_)
  clear hz
  have HB0 : Aside0 (Below w.heap.size w ((w1.alloc (.cells (encs64 noughts256) 75)).setRow w1.heap.size (encs64 c))) :=
    ⟨below_setRow (HB1.out.alloc HB1.out.size _) HB1.out.size _⟩
  have HH : Aside0 (((w1.alloc (.cells (encs64 noughts256) 75)).setRow w1.heap.size (encs64 c)).heap[w1.heap.size]? = some (.cells (encs64 c) 75 (0, 0))) :=
    ⟨setRow_heap _ _ _ _ _ _ (heap_alloc_new w1 _)⟩
  obtain ⟨W, hW⟩ : ∃ W, W = (w1.alloc (.cells (encs64 noughts256) 75)).setRow w1.heap.size (encs64 c) := ⟨_, rfl⟩
  rw [← hW] at HB0 HH ⊢
  clear hW
  go_loop [4, 5] (fun n i => ∃ (k : Nat) (m : Int), 128 ≤ k ∧ k ≤ 256 ∧ i = .int .i64 k ∧ n = .int .i64 m ∧ 0 ≤ m ∧ m ≤ 1000000 * (k : Int) ∧ Aside0 (m + hsum (c.drop k) = hsum (c.drop 128))) (fun _ i => 256 - (intOf i).toNat)
  case atStart => exact ⟨128, 0, Nat.le_refl _, by omega, rfl, rfl, by omega, by omega, ⟨by omega⟩⟩
  case round =>
    obtain ⟨k, m, hk0, hk, rfl, rfl, hm0, hm1, HT⟩ := hrel
    by_cases hlt : k < 256
    · have HT2 : Aside0 (m + (c.getD k 0 + hsum (c.drop (k + 1))) = hsum (c.drop 128)) := ⟨by have := HT.out; rw [drop_cons (by rw [HL.out]; exact hlt)] at this; exact this⟩
      have hc0 := cell_of_row W w1.heap.size k _ _ _ HH.out
      rw [encs64_get (by rw [HL.out]; exact hlt)] at hc0
      have hu := HU.out k
      obtain ⟨v, hv⟩ : ∃ v, v = c.getD k 0 := ⟨_, rfl⟩
      rw [← hv] at hc0 hu HT2
      clear hv HT
      go_wp2
      go_round
      case rel => exact ⟨k + 1, m + v, by omega, by omega, by go_num, rfl, by omega, by omega, ⟨by have := HT2.out; omega⟩⟩
      case measure => simp [intOf]; omega
    · obtain rfl : k = 256 := by omega
      have hm : m = hsum (c.drop 128) := by
        have := HT.out
        rw [List.drop_eq_nil_of_le (by rw [HL.out]; omega)] at this
        simp only [hsum] at this
        omega
      have HM := Aside0.mk hm
      clear hm
      go_wp2_with (first | (go_at_call 31; refine (pannierref05_Plain.calls a0 p _ HPF.out).mono ?_; rintro e w2 ⟨rfl, hb2⟩; have HB2 := Aside0.mk hb2; clear hb2))
      go_ret
      exact ⟨by rw [HR.out, ← HM.out]; rfl, HB0.out.trans (HB2.out.mono HB0.out.size)⟩
end Go.Proofs.Ytchldbhnohicoaa.XA
