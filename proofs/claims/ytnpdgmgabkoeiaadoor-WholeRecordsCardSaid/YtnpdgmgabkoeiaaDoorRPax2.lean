/- pax.Encode: walked by hand over Mem; the builder's bytes are known beside the boxes. Printed by wip/tools/gen_pax2.py. -/
import Derived.Test.YtnpdgmgabkoeiaaDoorRPax1
import Derived.Test.YtnpdgmgabkoeiaaDoorRWriteB
import Derived.Lib.ConvBytes
namespace Go.Proofs.YtnpdgmgabkoeiaaDoor.R
open Go.RowKit Go.Proofs.YtnpdgmgabkoeiaaDoorW.PrintWords Go.Proofs.YtnpdgmgabkoeiaaDoorW.PrintLast Go.Proofs.YtnpdgmgabkoeiaaDoorW.PrintMore Go.Proofs.YtnpdgmgabkoeiaaDoor.Mem Go.Proofs.YtnpdgmgabkoeiaaDoor.Pure Go.Proofs.YtnpdgmgabkoeiaaDoor.XA
set_option linter.unusedVariables false
set_option linter.unusedSimpArgs false

/-- Records as bytes. -/
def encB (l : List S29) : List UInt8 := l.flatMap (fun r => recB r.f0.data.toList r.f1.data.toList)
theorem encB_app (a b : List S29) : encB (a ++ b) = encB a ++ encB b := by simp [encB]
theorem encB_next (l : List S29) (i : Nat) (hi : i < l.length) : encB (l.take (i + 1)) = encB (l.take i) ++ recB l[i].f0.data.toList l[i].f1.data.toList := by
  rw [List.take_succ_eq_append_getElem hi, encB_app]
  simp [encB]
theorem heap29 : Kd.Heap k29 := ⟨fun _ h => by rw [k29_open h]; exact k29_mk _ _⟩
def rec29 (r : S29) : List Value := [.string r.f0, .string r.f1]
theorem sx29 : Sx k29 rec29 := ⟨fun _ => rfl, fun x u hu => by simp [rec29] at hu; rcases hu with rfl | rfl <;> rfl, fun w x => k29_mk w x, fun h => k29_open h⟩
theorem row_at {w : World} {A : Option Addr} {xs : List S29} (h : Kd.C k29 w A xs.length xs) (i : Nat) (hi : i < xs.length) : ∃ ad, A = some ad ∧ w.cell? (ad.add (i * 2)) = some (.string xs[i].f0) ∧ w.cell? ⟨(ad.add (i * 2)).block, (ad.add (i * 2)).off + 1, none⟩ = some (.string xs[i].f1) := by
  obtain ⟨ad, e, h0, h1⟩ := at_T29 h (i : Int) (by omega) (by omega)
  have hrd : rd_T29 xs (i : Int) = xs[i] := by unfold rd_T29; rw [Int.toNat_natCast, List.getD_eq_getElem?_getD, List.getElem?_eq_getElem hi]; rfl
  rw [Int.toNat_natCast, hrd] at h0 h1
  exact ⟨ad, e, h0, h1⟩
def okS (r : S29) : Prop := okR r.f0.data.toList r.f1.data.toList
theorem okS_len {r : S29} (h : okS r) : r.f0.size + r.f1.size ≤ 4096 := ((okR_iff r).1 h).2.2
theorem recS_len {r : S29} (h : okS r) : (recB r.f0.data.toList r.f1.data.toList).length = lenR r.f0.size r.f1.size ∧ lenR r.f0.size r.f1.size ≤ 4103 := by
  have h0 : r.f0.data.toList.length = r.f0.size := by simp
  have h1 : r.f1.data.toList.length = r.f1.size := by simp
  have := recB_len r.f0.data.toList r.f1.data.toList (by rw [h0, h1]; exact okS_len h)
  rw [this, h0, h1]
  exact ⟨rfl, (lenR_eq _ _ (okS_len h)).2.1⟩
theorem encB_le : ∀ (l : List S29), (∀ r ∈ l, okS r) → (encB l).length ≤ l.length * 4103
  | [], _ => by simp [encB]
  | r :: l, h => by
    have h1 := encB_le l (fun x hx => h x (List.mem_cons_of_mem _ hx))
    have h2 := recS_len (h r List.mem_cons_self)
    have e : encB (r :: l) = recB r.f0.data.toList r.f1.data.toList ++ encB l := rfl
    rw [e, List.length_append, List.length_cons]
    omega
section
variable {w0 W W' w' : World} {P : Nat → Prop} {B : List Bx} {S S0 : World → Prop} {b : Nat} {bs bs' : List Value} {p : Value}
theorem bld_same {C : Nat} (h : Lib.IsBuilderF 43 5 C b bs W) (hs : ∀ k, C ≤ k → (∃ c t fz, W.heap[k]? = some (.cells c t fz) ∧ (t = 43 ∨ t = 5)) → W'.heap[k]? = W.heap[k]?) : Lib.IsBuilderF 43 5 C b bs W' := by
  have one : ∀ q, Lib.BuilderAtF 43 5 C b q bs W → Lib.BuilderAtF 43 5 C b q bs W' := fun q h => by
    obtain ⟨hB, v, hb, hown, hne⟩ := h
    refine ⟨hB, v, (hs b hB ⟨_, _, _, hb, .inl rfl⟩).trans hb, ⟨hown.1, ?_⟩, hne⟩
    rcases hown.2 with hn | ⟨g, cap, cur, fz, hv, hbg, hg, rest⟩
    · exact .inl hn
    · exact .inr ⟨g, cap, cur, fz, hv, hbg, (hs g hbg ⟨_, _, _, hg, .inr rfl⟩).trans hg, rest⟩
  exact h.elim (fun h => .inl (one _ h)) (fun h => .inr (one _ h))
theorem bld_at {C : Nat} (h : Lib.IsBuilderF 43 5 C b bs W) : ∃ c fz, W.heap[b]? = some (.cells c 43 fz) := by
  rcases h with ⟨_, v, hb, _⟩ | ⟨_, v, hb, _⟩ <;> exact ⟨_, _, hb⟩
/-- The builder is told anew; all else stays. -/
theorem Mem.write (HM : Mem w0 P W B (fun v => S0 v ∧ Lib.IsBuilderF 43 5 w0.heap.size b bs v)) (hS0 : ∀ W', (∀ k, k < w0.heap.size → P k → W'.heap[k]? = w0.heap[k]?) → S0 W') (hT : ∀ x ∈ B, x.2.2 = 29)
    (hb : Below w0.heap.size W w') (hk : Lib.OthersKept 5 (some b) W w') (h' : Lib.IsBuilderF 43 5 w0.heap.size b bs' w') : Mem w0 P w' B (fun v => S0 v ∧ Lib.IsBuilderF 43 5 w0.heap.size b bs' v) := by
  obtain ⟨c, fz, hbb⟩ := bld_at HM.now.2
  have hbx : ∀ x ∈ B, w'.heap[x.1]? = some (.cells x.2.1.toArray 29 (0, 0)) := fun x hx => by
    have h1 := (HM.box x hx).1
    rw [hT x hx] at h1
    refine hk x.1 _ h1 (fun e => ?_) (fun c fz e => by cases e)
    rw [Option.some.inj e, hbb] at h1
    cases h1
  refine ⟨HM.below.trans hb, fun x hx => ⟨by rw [hbx x hx, hT x hx], (HM.box x hx).2⟩, HM.apart, fun W' hW => ⟨hS0 W' (fun k hk hp => ?_), bld_same h' (fun k hk ht => hW k ?_ ?_ (.inr hk))⟩⟩
  · have hkB : k ∉ B.map (·.1) := fun hm => by
      obtain ⟨x, hx, rfl⟩ := List.mem_map.1 hm
      have := (HM.box x hx).2
      omega
    have hbl := HM.below.trans hb
    exact (hW k (Nat.lt_of_lt_of_le hk hbl.size) hkB (.inl hp)).trans (hbl.block k hk)
  · obtain ⟨c, t, fz, hc, _⟩ := ht
    exact blk_lt hc
  · intro hm
    obtain ⟨x, hx, rfl⟩ := List.mem_map.1 hm
    obtain ⟨c, t, fz, hc, ht⟩ := ht
    rw [hbx x hx] at hc
    cases hc
    rcases ht with h | h <;> cases h
theorem length_M {r : S29} (HM : Mem w0 P W B S) (hG : GG w0) (h : r.f0.size + r.f1.size ≤ 4096) :
    Calls Tryd.prog 14 #[.agg #[.string r.f0, .string r.f1]] W fun e w' => e = .returned (.int .i64 (lenR r.f0.size r.f1.size : Nat)) ∧ Mem w0 P w' B S :=
  (length_c r h W (hG.below HM.below)).mono (by rintro e w' ⟨rfl, hb⟩; exact ⟨rfl, HM.call hb⟩)
theorem itoa_M {n : Nat} (HM : Mem w0 P W B S) (hG : GG w0) (h : n ≤ 1000000) :
    Calls Tryd.prog 13 #[.int .i64 (n : Int)] W fun e w' => e = .returned (.string ⟨(Lib.decDigits n).toArray⟩) ∧ Mem w0 P w' B S :=
  (itoa_c (n : Int) (by omega) (by omega) W (hG.below HM.below)).mono (by rintro e w' ⟨rfl, hb⟩; exact ⟨by rw [Lib.itoa_nonneg], HM.call hb⟩)
theorem write_M {s : ByteArray} (HM : Mem w0 P W B (fun v => S0 v ∧ Lib.IsBuilderF 43 5 w0.heap.size b bs v)) (hS0 : ∀ W', (∀ k, k < w0.heap.size → P k → W'.heap[k]? = w0.heap[k]?) → S0 W') (hT : ∀ x ∈ B, x.2.2 = 29) (hl : bs.length + s.size ≤ 140737488355328) :
    Calls Tryd.prog 12 #[.pointer (some ⟨b, 0, none⟩), .string s] W fun e w' => e = .returned (.tuple #[.int .i64 s.size, .nilIface]) ∧ Mem w0 P w' B (fun v => S0 v ∧ Lib.IsBuilderF 43 5 w0.heap.size b (bs ++ Lib.strCells s) v) :=
  (write_c w0.heap.size b bs s W HM.now.2 hl HM.below.size).mono (by rintro e w' ⟨rfl, h1, h2, h3⟩; exact ⟨rfl, Mem.write HM hS0 hT h2 h3 (.inr h1)⟩)
end
theorem builder_M {w0 W : World} {P : Nat → Prop} {B : List Bx} {S0 : World → Prop} {b : Nat} {l : List UInt8} (HM : Mem w0 P W B (fun v => S0 v ∧ Lib.IsBuilderF 43 5 w0.heap.size b (Lib.byteCells l) v)) :
    Calls Tryd.prog 15 #[.pointer (some ⟨b, 0, none⟩)] W fun e w' => e = .returned (.string ⟨l.toArray⟩) ∧ Below w0.heap.size w0 w' :=
  (Tryd.Builder_String_any_f w0.heap.size b l W HM.now.2 HM.below.size).mono (by rintro e w' ⟨rfl, _, hb⟩; exact ⟨rfl, HM.below.trans hb⟩)
/-- Block g holds these bytes. -/
def Byts (l : List UInt8) (g : Nat) (w : World) : Prop := ∀ j (hj : j < l.length), w.cell? ⟨g, j, none⟩ = some (.int .u8 (l[j].toNat : Int))
theorem Byts.same {l : List UInt8} {g : Nat} {w w' : World} (h : Byts l g w) (he : w'.heap[g]? = w.heap[g]?) : Byts l g w' := fun j hj => by
  have := h j hj
  unfold World.cell? at this ⊢
  rw [he]; exact this
theorem bytes_new (W : World) (l : List UInt8) : Byts l W.heap.size (Lib.bytesWorld W 5 ⟨l.toArray⟩) := fun j hj => by
  rw [Lib.bytesWorld_cell W 5 ⟨l.toArray⟩ j (by rw [size_mk]; exact hj)]
  simp [hj]
def enc10T : Bool × List (List Nat × List Nat) := (true, [([], []), ([0], [0]), ([1, 1], [1]), ([2], [2]), ([], []), ([4], [4]), ([3, 5], [3, 5]), ([6], [6]), ([], []), ([8], [8]), ([7, 9], [7, 9]), ([10], [10]), ([11, 2], [11])])
def enc10B : List Nat := [0, 1, 3, 7, 0, 16, 63, 127, 0, 256, 1023, 2047, 4095]
theorem enc10Tab : rtab .any (opsOf Tryd.f5 10) = enc10T := by kernel_rfl
theorem enc10Bits : waitsOk enc10T.2 enc10B = true := by kernel_rfl
set_option maxHeartbeats 4000000 in
set_option maxRecDepth 100000 in
theorem encode_c (A : Option Addr) (c : Nat) (xs : List S29) (w : World) (hG : GG w) (hr : Kd.C k29 w A xs.length xs) (hl : xs.length ≤ 64) (hok : ∀ r ∈ xs, okS r) :
    Calls Tryd.prog 5 #[.slice A xs.length c] w fun e w' => ∃ g c', e = .returned (.tuple #[.slice (some ⟨g, 0, none⟩) (encB xs).length c', .int .i64 0]) ∧ Below w.heap.size w w' ∧ w.heap.size ≤ g ∧ g < w'.heap.size ∧ Byts (encB xs) g w' := by
  have HG := Aside0.mk hG
  have hlz : decide ((64 : Int) < (xs.length : Int)) = false := decide_eq_false (by omega)
  have HL := Aside0.mk hl
  have HOK := Aside0.mk hok
  have HR := Aside0.mk hr
  have HS0 : Aside0 (∀ W', (∀ k, k < w.heap.size → k < w.heap.size → W'.heap[k]? = w.heap[k]?) → Kd.C k29 W' A xs.length xs) := ⟨fun W' h => heap29.C (fun k hk => h k hk hk) hr⟩
  have hcv := fun W => Lib.run_convert_string_bytes (P := Tryd.prog) W 9 24 5 (⟨(encB xs).toArray⟩ : ByteArray) (by exact Tryd.underlying9) (by exact Tryd.underlying24) (by exact Tryd.underlying5)
  clear hG hl hok hr
  go_enter Tryd.func5, Tryd.ntmps5
  go_wp2
  go_loopw [13] (fun v13 wr => ∃ i : Nat, v13 = .int .i64 i ∧ Aside0 (i ≤ xs.length) ∧ Aside0 (Mem w (fun k => k < w.heap.size) wr [] (fun v => Kd.C k29 v A xs.length xs ∧ Lib.IsBuilderF 43 5 w.heap.size w.heap.size (Lib.byteCells (encB (xs.take i))) v))) (fun v13 _ => xs.length - (intOf v13).toNat)
  case atStart =>
    refine ⟨0, rfl, ⟨Nat.zero_le _⟩, ⟨?_⟩⟩
    have hM0 : Mem w (fun k => k < w.heap.size) w [] (fun v => Kd.C k29 v A xs.length xs) := Mem.start HS0.out
    refine hM0.add (below_alloc (Below.refl _ _) _) (fun W' hW => .inl ⟨Nat.le_refl _, .slice none 0 0, ?_, ⟨rfl, .inl ⟨rfl, rfl⟩⟩, by simp [Value.ownBlock]⟩)
    exact (hW w.heap.size (by simp) (.inr (Nat.le_refl _))).trans (blk_new _ _)
  case round =>
    obtain ⟨i, rfl, HI, HM⟩ := hrel
    by_cases hlt : i < xs.length
    · have hlz2 : (i : Int) < (xs.length : Int) := by omega
      have hib : (i : Int) ≤ 64 := by have := HL.out; omega
      obtain ⟨ad, ea, hx0, hx1⟩ := row_at HM.out.now.1 i hlt
      have hok := HOK.out _ (List.getElem_mem hlt)
      have HNX := Aside0.mk (encB_next xs i hlt)
      have HBL := Aside0.mk (encB_le (xs.take i) (fun r hr => HOK.out r (List.mem_of_mem_take hr)))
      generalize xs[i] = r at hx0 hx1 hok HNX
      subst ea
      have hrl := okS_len hok
      have hck : ∀ W, Calls Tryd.prog 6 #[.agg #[.string r.f0, .string r.f1]] W fun e w' => e = .returned (.int .i64 0) ∧ Below W.heap.size W w' := fun W =>
        (check_c r (by omega) (by omega) W).mono (by rintro e w' ⟨⟨z, rfl, hz⟩, hb⟩; rw [hz.2 hok]; exact ⟨rfl, hb⟩)
      have HCK := Aside0.mk hck
      have HL4 := Aside0.mk hrl
      have HLR := Aside0.mk (recS_len hok)
      have hbl0 : (Lib.byteCells (encB (xs.take i))).length ≤ 300000 := by
        rw [Lib.byteCells_length]
        have h1 := HBL.out
        have h2 := HL.out
        rw [List.length_take] at h1
        have h3 : min i xs.length ≤ 64 := by omega
        omega
      have HLEN : Aside0 (∀ s : ByteArray, s.data.toList = recB r.f0.data.toList r.f1.data.toList → (Lib.byteCells (encB (xs.take i))).length + s.size ≤ 140737488355328) := ⟨fun s hs => by
        have e : s.size = (recB r.f0.data.toList r.f1.data.toList).length := by rw [← hs]; simp
        have := HLR.out
        omega⟩
      have HREC : Aside0 (∀ s : ByteArray, s.data.toList = recB r.f0.data.toList r.f1.data.toList → Lib.byteCells (encB (xs.take i)) ++ Lib.strCells s = Lib.byteCells (encB (xs.take (i + 1)))) := ⟨fun s hs => by
        rw [HNX.out, Lib.strCells_eq, hs]; simp [Lib.byteCells]⟩
      have hd4 := (lenR_eq r.f0.size r.f1.size hrl).2.2.1
      clear hlt hck hok hbl0
      go_upto_region 10 with (first|go_skip|((with_reducible refine' lc HM ?qw rfl ?qx ?qm ?qa ?qv ?_);(case qw|qx|qa=>rfl);(case qm=>repeat constructor);(case qv=>rfl))|((with_reducible refine' la HM ?qw rfl ?qx ?qm ?qa ?_);(case qw|qx=>rfl);(case qm=>repeat constructor);(case qa=>rfl))|((with_reducible refine' pa HM ?qw rfl ?qx _ ?qy ?qm ?qa ?_);(case qw|qx|qy=>rfl);(case qm=>repeat constructor);(case qa=>rfl);clear HM;intro _ HM)|((with_reducible refine' pc HM ?qw rfl ?qx ?qa ?qy ?qm ?qo ?qi ?_);(case qw|qx|qa=>rfl);(case qy=>first|exact (rfl:_=Value.int _ _)|exact (rfl:_=Value.slice _ _ _)|exact (rfl:_=Value.string _)|exact (rfl:_=Value.bool _));(case qm=>repeat constructor);(case qo=>exact ⟨rfl,rfl⟩);(case qi=>rfl);clear HM;intro _ HM;try simp only [List.set_cons_zero,List.set_cons_succ] at HM)|((with_reducible refine' bz HM ?qw rfl ?qa ?qc ?_);(case qw|qa|qc=>rfl);clear HM;intro _ _ HM)|((with_reducible refine' bn HM ?qw rfl _ ?qx ?_);(case qw|qx=>rfl);clear HM;intro _ _ HM)|(go_at_call 6;refine (HCK.out _).mono ?_;rintro e _ ⟨rfl, hb⟩;have hM:=HM.out.call hb;clear hb;clear HM;have HM:=Aside0.mk hM;clear hM))
      clear hx0 hx1
      refine r_start (ds := []) HM.out #[false, false, false, false, false, false, false, false, false, false, false, false, false] (by kernel_rfl) rfl rfl (fun _ hM => ?_)
      refine with_tabW enc10Tab enc10Bits (fun HT_ HW_ => ?_)
      clear HM
      have HM := Aside0.mk hM
      clear hM
      refine pure_ (i:=4) (N:=(some 26)) (v:=?_) (a':=?_) #[false, false, false, false, true, false, false, false, false, false, false, false, false] rfl rfl (any_of HT_.out (by kernel_rfl)) (fun _ _ _ h=>h) (Or.inl ⟨by rfl,?_⟩) ?_ ?_
      rotate_left
      · intro w';go_simp;with_reducible rfl
      rotate_left
      · (simp only [Act.put, fillAll, List.setIfInBounds_toArray, List.set_cons_zero, List.set_cons_succ, i64_w, i32_w]; rfl)
      refine pure_ (i:=8) (N:=(some 30)) (v:=?_) (a':=?_) #[false, false, false, false, true, false, false, false, true, false, false, false, false] rfl rfl (any_of HT_.out (by kernel_rfl)) (fun _ _ _ h=>h) (Or.inl ⟨by rfl,?_⟩) ?_ ?_
      rotate_left
      · intro w';go_simp;with_reducible rfl
      rotate_left
      · (simp only [Act.put, fillAll, List.setIfInBounds_toArray, List.set_cons_zero, List.set_cons_succ, i64_w, i32_w]; rfl)
      apply r_all (i:=0) (N:=(some 22)) #[true, false, false, false, true, false, false, false, true, false, false, false, false]
      (case hi=>rfl)
      (case hN=>rfl)
      (case hc=>exact take_ofW HT_.out HW_.out (by kernel_rfl))
      (case hQ=>exact fun _ _ _ h=>h)
      (case ho=>rfl)
      (case hw=>rfl)
      (case hx=>rfl)
      (case ha=>exact agg29)
      (case hH=>first|exact HM.out.held|exact HM.out.heldTail|exact HM.out.heldTail2)
      (case hm=>first | exact m0)
      (case hl=>rfl)
      (case hp=>(simp only [Act.put, fillAll, List.setIfInBounds_toArray, List.set_cons_zero, List.set_cons_succ, i64_w, i32_w]; rfl))
      apply r_cell (i:=5) (N:=(some 27)) #[true, false, false, false, true, true, false, false, true, false, false, false, false]
      (case hi=>rfl)
      (case hN=>rfl)
      (case hc=>exact take_ofW HT_.out HW_.out (by kernel_rfl))
      (case hQ=>exact fun _ _ _ h=>h)
      (case ho=>rfl)
      (case hw=>rfl)
      (case hx=>rfl)
      (case ha=>exact nag _ (by decide))
      (case hH=>first|exact HM.out.held|exact HM.out.heldTail|exact HM.out.heldTail2)
      (case hm=>first | exact m0)
      (case hv=>rfl)
      (case hp=>(simp only [Act.put, fillAll, List.setIfInBounds_toArray, List.set_cons_zero, List.set_cons_succ, i64_w, i32_w]; rfl))
      apply r_cell (i:=9) (N:=(some 31)) #[true, false, false, false, true, true, false, false, true, true, false, false, false]
      (case hi=>rfl)
      (case hN=>rfl)
      (case hc=>exact take_ofW HT_.out HW_.out (by kernel_rfl))
      (case hQ=>exact fun _ _ _ h=>h)
      (case ho=>rfl)
      (case hw=>rfl)
      (case hx=>rfl)
      (case ha=>exact nag _ (by decide))
      (case hH=>first|exact HM.out.held|exact HM.out.heldTail|exact HM.out.heldTail2)
      (case hm=>first | exact m0)
      (case hv=>rfl)
      (case hp=>(simp only [Act.put, fillAll, List.setIfInBounds_toArray, List.set_cons_zero, List.set_cons_succ, i64_w, i32_w]; rfl))
      refine one_ (i := 1) (N := (some 23)) #[true, true, false, false, true, true, false, false, true, true, false, false, false] rfl rfl (one_of HT_.out (by kernel_rfl)) (by decide) (fun K hK => ?_)
      refine goes_ Tryd.func14 (by kernel_rfl) rfl _ (by rfl) rfl rfl (by simp only [List.map_toArray, List.map_cons, List.map_nil]; rfl) ?_
      refine (length_M HM.out HG.out HL4.out).mono ?_
      rintro e w_ ⟨rfl, hM⟩
      refine ⟨_, rfl, ?_⟩
      refine hK.out _ _ hM.held (fun _ => ?_)
      clear hK K
      clear HM
      have HM := Aside0.mk hM
      clear hM
      refine norm_ (a' := ?_) ?_ ?_
      rotate_left
      · (simp only [Act.put, fillAll, List.setIfInBounds_toArray, List.set_cons_zero, List.set_cons_succ, i64_w, i32_w]; rfl)
      refine one_ (i := 2) (N := (some 24)) #[true, true, true, false, true, true, false, false, true, true, false, false, false] rfl rfl (one_of HT_.out (by kernel_rfl)) (by decide) (fun K hK => ?_)
      refine goes_ Tryd.func13 (by kernel_rfl) rfl _ (by rfl) rfl rfl (by simp only [List.map_toArray, List.map_cons, List.map_nil]; rfl) ?_
      refine (itoa_M HM.out HG.out (by have := HLR.out; omega)).mono ?_
      rintro e w_ ⟨rfl, hM⟩
      refine ⟨_, rfl, ?_⟩
      refine hK.out _ _ hM.held (fun _ => ?_)
      clear hK K
      clear HM
      have HM := Aside0.mk hM
      clear hM
      refine norm_ (a' := ?_) ?_ ?_
      rotate_left
      · (simp only [Act.put, fillAll, List.setIfInBounds_toArray, List.set_cons_zero, List.set_cons_succ, i64_w, i32_w]; rfl)
      refine pure_ (i:=3) (N:=(some 25)) (v:=?_) (a':=?_) #[true, true, true, true, true, true, false, false, true, true, false, false, false] rfl rfl (any_of HT_.out (by kernel_rfl)) (fun _ _ _ h=>h) (Or.inl ⟨by rfl,?_⟩) ?_ ?_
      rotate_left
      · intro w';go_simp;first|(rw [if_neg (by omega)];done)|(rw [if_neg (by omega)];with_reducible rfl)
      rotate_left
      · (simp only [Act.put, fillAll, List.setIfInBounds_toArray, List.set_cons_zero, List.set_cons_succ, i64_w, i32_w]; rfl)
      refine pure_ (i:=6) (N:=(some 28)) (v:=?_) (a':=?_) #[true, true, true, true, true, true, true, false, true, true, false, false, false] rfl rfl (any_of HT_.out (by kernel_rfl)) (fun _ _ _ h=>h) (Or.inl ⟨by rfl,?_⟩) ?_ ?_
      rotate_left
      · intro w';go_simp;first|(rw [if_neg (by omega)];done)|(rw [if_neg (by omega)];with_reducible rfl)
      rotate_left
      · (simp only [Act.put, fillAll, List.setIfInBounds_toArray, List.set_cons_zero, List.set_cons_succ, i64_w, i32_w]; rfl)
      refine pure_ (i:=7) (N:=(some 29)) (v:=?_) (a':=?_) #[true, true, true, true, true, true, true, true, true, true, false, false, false] rfl rfl (any_of HT_.out (by kernel_rfl)) (fun _ _ _ h=>h) (Or.inl ⟨by rfl,?_⟩) ?_ ?_
      rotate_left
      · intro w';go_simp;first|(rw [if_neg (by omega)];done)|(rw [if_neg (by omega)];with_reducible rfl)
      rotate_left
      · (simp only [Act.put, fillAll, List.setIfInBounds_toArray, List.set_cons_zero, List.set_cons_succ, i64_w, i32_w]; rfl)
      refine pure_ (i:=10) (N:=(some 32)) (v:=?_) (a':=?_) #[true, true, true, true, true, true, true, true, true, true, true, false, false] rfl rfl (any_of HT_.out (by kernel_rfl)) (fun _ _ _ h=>h) (Or.inl ⟨by rfl,?_⟩) ?_ ?_
      rotate_left
      · intro w';go_simp;first|(rw [if_neg (by omega)];done)|(rw [if_neg (by omega)];with_reducible rfl)
      rotate_left
      · (simp only [Act.put, fillAll, List.setIfInBounds_toArray, List.set_cons_zero, List.set_cons_succ, i64_w, i32_w]; rfl)
      refine pure_ (i:=11) (N:=(some 33)) (v:=?_) (a':=?_) #[true, true, true, true, true, true, true, true, true, true, true, true, false] rfl rfl (any_of HT_.out (by kernel_rfl)) (fun _ _ _ h=>h) (Or.inl ⟨by rfl,?_⟩) ?_ ?_
      rotate_left
      · intro w';go_simp;first|(rw [if_neg (by omega)];done)|(rw [if_neg (by omega)];with_reducible rfl)
      rotate_left
      · (simp only [Act.put, fillAll, List.setIfInBounds_toArray, List.set_cons_zero, List.set_cons_succ, i64_w, i32_w]; rfl)
      refine one_ (i := 12) (N := (some 34)) #[true, true, true, true, true, true, true, true, true, true, true, true, true] rfl rfl (one_of HT_.out (by kernel_rfl)) (by decide) (fun K hK => ?_)
      refine goes_ Tryd.func12 (by kernel_rfl) rfl _ (by rfl) rfl rfl (by simp only [List.map_toArray, List.map_cons, List.map_nil]; rfl) ?_
      refine (write_M HM.out HS0.out (by simp) (HLEN.out _ (by simp [recB]))).mono ?_
      rintro e w_ ⟨rfl, hM⟩
      refine ⟨_, rfl, ?_⟩
      refine hK.out _ _ hM.held (fun _ => ?_)
      clear hK K
      clear HM
      have HM := Aside0.mk hM
      clear hM
      refine norm_ (a' := ?_) ?_ ?_
      rotate_left
      · (simp only [Act.put, fillAll, List.setIfInBounds_toArray, List.set_cons_zero, List.set_cons_succ, i64_w, i32_w]; rfl)
      refine done_ (done_of HT_.out (by kernel_rfl)) ?_
      go_wp2
      refine ⟨⟨i + 1, by go_num, ⟨by omega⟩, ⟨?_⟩⟩, by simp [intOf]; omega⟩
      have h := HM.out.drop
      rw [HREC.out _ (by simp [recB])] at h
      exact h
    · have hil : i = xs.length := by have := HI.out; omega
      have hlz2 : ¬ ((i : Int) < (xs.length : Int)) := by omega
      go_wp2_with (first|go_skip|(go_at_call 15;refine (builder_M HM.out).mono ?_;rintro e _ ⟨rfl, hbb⟩;have HBB:=Aside0.mk hbb;clear hbb))
      go_ret2
      exact ⟨_, _, rfl, HBB.out.trans ((Lib.bytesWorld_below _ _ _).mono HBB.out.size), HBB.out.size, by rw [Lib.bytesWorld_size]; omega, bytes_new _ _⟩
end Go.Proofs.YtnpdgmgabkoeiaaDoor.R
