/- WholeRecords' walk over Mem. Printed by wip/tools/gen_wrec.py. -/
import Derived.Test.YtnpdgmgabkoeiaaDoorRPax4
namespace Go.Proofs.YtnpdgmgabkoeiaaDoor.R
open Go.RowKit Go.Proofs.YtnpdgmgabkoeiaaDoorW.PrintWords Go.Proofs.YtnpdgmgabkoeiaaDoorW.PrintLast Go.Proofs.YtnpdgmgabkoeiaaDoorW.PrintMore Go.Proofs.YtnpdgmgabkoeiaaDoor.Mem Go.Proofs.YtnpdgmgabkoeiaaDoor.Pure Go.Proofs.YtnpdgmgabkoeiaaDoor.XA
set_option linter.unusedVariables false
set_option linter.unusedSimpArgs false

theorem str_at {w : World} {A : Option Addr} {xs : List ByteArray} (h : Kd.C Kd.string w A xs.length xs) (i : Nat) (hi : i < xs.length) : ∃ ad, A = some ad ∧ w.cell? (ad.add i) = some (.string xs[i]) := by
  obtain ⟨ad, c, e, h1, h2, h3⟩ := Kd.C_get h ByteArray.empty (i : Int) (by omega) (by omega)
  have h2' : c = [Value.string (xs.getD (i : Int).toNat ByteArray.empty)] := h2
  subst h2'
  have := h3 0 _ rfl
  rw [Int.toNat_natCast, List.getD_eq_getElem?_getD, List.getElem?_eq_getElem hi] at this
  exact ⟨ad, e, by simpa [Kd.string, Kd.scalar] using this⟩
theorem str_here {w : World} {ad : Addr} {xs : List ByteArray} (h : Kd.C Kd.string w (some ad) xs.length xs) {i : Nat} {v : ByteArray} (hv : xs[i]? = some v) : w.cell? (ad.add i) = some (.string v) := by
  obtain ⟨hi, hv⟩ := List.getElem?_eq_some_iff.1 hv
  obtain ⟨ad', e, h1⟩ := str_at h i hi
  cases e
  rw [h1, hv]
theorem MapT.le {w : World} {b n m : Nat} {f : List UInt8 → Option ByteArray} (h : MapT w b n f) (hm : n ≤ m) : MapT w b m f := by
  obtain ⟨k, D, h1, h2, h3⟩ := h
  exact ⟨k, D, h1, by omega, h3⟩
section
variable {w0 W w' : World} {P : Nat → Prop} {B : List Bx} {S : World → Prop} {g : Nat} {l : List UInt8} {r : S29}
theorem box_C (HM : Mem w0 P W ((g, rec29 r, 29) :: B) S) : Kd.C k29 W (some ⟨g, 0, none⟩) 1 [r] := by
  have hb := (HM.box _ List.mem_cons_self).1
  obtain ⟨A, c, e, _, h⟩ := own_trX (e := 29) (W := W) (l := [r]) (v := .slice (some ⟨g, 0, none⟩) 1 1) (X := [(g, rec29 r, 29)]) sx29 (.inr ⟨g, 1, [], rfl, by simp [cellsX], rfl, rfl, Nat.le_refl _, by decide⟩) (fun x hx => by rw [List.mem_singleton.1 hx]; exact hb)
  injection e with e1 e2 e3
  rw [← e1] at h
  exact h
theorem add_byts (HM : Mem w0 P W B S) (hb : Below W.heap.size W w') (h0 : W.heap.size ≤ g) (h1 : g < w'.heap.size) (h : Byts l g w') : Mem w0 P w' B (fun v => S v ∧ Byts l g v) :=
  HM.add hb (fun W' hW => h.same (hW g h1 (.inr h0)))
end
def ra : S29 := ⟨⟨#[97]⟩, ⟨#[49]⟩⟩
theorem ra_ok : ∀ r ∈ [ra], okS r := fun r hr => by
  rw [List.mem_singleton.1 hr]
  exact (okR_iff ra).2 ⟨by decide, by decide, by decide⟩
theorem ra_enc : encB [ra] = [54, 32, 97, 61, 49, 10] := by
  have h : lenR 1 1 = 6 := by
    have h5 : (Lib.decDigits 5).length = 1 := by rw [dl 5 (by omega)]; rfl
    have h6 : (Lib.decDigits 6).length = 1 := by rw [dl 6 (by omega)]; rfl
    show (if (Lib.decDigits 5).length < (Lib.decDigits (5 + (Lib.decDigits 5).length)).length then 5 + (Lib.decDigits 5).length + 1 else 5 + (Lib.decDigits 5).length) = 6
    rw [h5]
    show (if 1 < (Lib.decDigits 6).length then 7 else 6) = 6
    rw [h6]
    rfl
  show recB [97] [49] ++ [] = _
  unfold recB
  rw [show ([97] : List UInt8).length = 1 from rfl, show ([49] : List UInt8).length = 1 from rfl, h, dd_small (by omega)]
  rfl
theorem mapOf_mem (l : List S29) (x : List UInt8) (z : ByteArray) (h : mapOf l x = some z) : ∃ r ∈ l, r.f1 = z := by
  have gen : ∀ (l : List S29) (f : List UInt8 → Option ByteArray), l.foldl (fun f r => putT f r.f0.data.toList r.f1) f x = some z → (∃ r ∈ l, r.f1 = z) ∨ f x = some z := by
    intro l
    induction l with
    | nil => intro f h; exact .inr h
    | cons r l ih =>
      intro f h
      rcases ih _ h with ⟨r', h1, h2⟩ | h
      · exact .inl ⟨r', List.mem_cons_of_mem _ h1, h2⟩
      · replace h : (if x = r.f0.data.toList then some r.f1 else f x) = some z := h
        split at h
        · exact .inl ⟨r, List.mem_cons_self, Option.some.inj h⟩
        · exact .inr h
  rcases gen l _ h with h | h
  · exact h
  · cases h
theorem z_size {l : List S29} {x : List UInt8} {z : ByteArray} (hok : ∀ r ∈ l, okS r) (h : mapOf l x = some z) : z.size ≤ 1000000 := by
  obtain ⟨r, hr, rfl⟩ := mapOf_mem l x z h
  have := okS_len (hok r hr)
  omega
set_option maxHeartbeats 8000000 in
set_option maxRecDepth 100000 in
theorem WholeRecords_walk (w : World) (HG0 : GG w) (A0 : Option Addr) (c0 : Nat) (ks : List ByteArray) (hr0 : Kd.C Kd.string w A0 ks.length ks) (hm0 : ks.length ≤ 9223372036854775807) (hw0 : ∀ x ∈ ks, x.size ≤ 9223372036854775807)
    (A1 : Option Addr) (c1 : Nat) (vs : List ByteArray) (hr1 : Kd.C Kd.string w A1 vs.length vs) (hm1 : vs.length ≤ 9223372036854775807) (hw1 : ∀ x ∈ vs, x.size ≤ 9223372036854775807) (a : Int) (hwa : (Lit.int .u8 a).wf = true) :
    Calls Tryd.prog 3 #[.slice A0 ks.length c0, .slice A1 vs.length c1, .int .u8 a] w fun e w' => e = .returned (.bool true) ∧ Below w.heap.size w w' := by
  have HM : Aside0 (Mem w (fun k => k < w.heap.size) w [] (fun v => (Kd.C Kd.string v A0 ks.length ks ∧ Kd.C Kd.string v A1 vs.length vs))) := ⟨Mem.start (fun W' h => ⟨Kd.heap_string.C (fun k hk => h k hk hk) hr0, Kd.heap_string.C (fun k hk => h k hk hk) hr1⟩)⟩
  have HS : Aside0 (∀ W', (∀ k, k < w.heap.size → k < w.heap.size → W'.heap[k]? = w.heap[k]?) → (fun v => (Kd.C Kd.string v A0 ks.length ks ∧ Kd.C Kd.string v A1 vs.length vs)) W') := ⟨fun W' h => ⟨Kd.heap_string.C (fun k hk => h k hk hk) hr0, Kd.heap_string.C (fun k hk => h k hk hk) hr1⟩⟩
  have HG := Aside0.mk HG0
  have HRA := Aside0.mk ra_ok
  have HSZ := Aside0.mk (And.intro hw0 hw1)
  have HCL : Aside0 (∀ (z c : Int) (W : World), kind_Class.f z = some c → Calls Tryd.prog 4 #[.int .u8 z] W fun e w' => e = .returned (.int .i64 c) ∧ Below W.heap.size W w') := ⟨fun z c W h => (kind_Class.calls z c W h).mono (by rintro e w' ⟨rfl, n, rfl⟩; exact ⟨rfl, below_dN _ _⟩)⟩
  have HTK : Aside0 (∀ (z : Int) (c : Bool) (W : World), kind_Takes.f z = some c → Calls Tryd.prog 10 #[.int .u8 z] W fun e w' => e = .returned (.bool c) ∧ Below W.heap.size W w') := ⟨fun z c W h => (kind_Takes.calls z c W h).mono (by rintro e w' ⟨rfl, n, rfl⟩; exact ⟨rfl, below_dN _ _⟩)⟩
  have h120 : kind_Class.f 120 = some 2 := rfl
  have H120 := Aside0.mk h120
  have HCLS := Aside0.mk (classes a)
  clear HG0 hr0 hr1 hw0 hw1 hwa h120
  go_enter Tryd.func3, Tryd.ntmps3
  go_upto_region 4 with (first|go_skip|((with_reducible refine' lc HM ?qw rfl ?qx ?qm ?qa ?qv ?_);(case qw|qx|qa=>rfl);(case qm=>repeat constructor);(case qv=>rfl))|((with_reducible refine' la HM ?qw rfl ?qx ?qm ?qa ?_);(case qw|qx=>rfl);(case qm=>repeat constructor);(case qa=>rfl))|((with_reducible refine' bn HM ?qw rfl _ ?qx ?_);(case qw|qx=>rfl);clear HM;intro _ _ HM)|((with_reducible refine' bsG HM rfl rfl ?qx (fun w=>run_bs29 w ra) ?_);(case qx=>rfl);clear HM;intro _ _ HM)|(go_at_call 4;refine (HCL.out 120 2 _ H120.out).mono ?_;rintro e _ ⟨rfl, hb⟩;have hM:=HM.out.call hb;clear hb;clear HM;have HM:=Aside0.mk hM;clear hM)|(go_at_call 5;refine (encode_c _ 1 [ra] _ (HG.out.below HM.out.below) (box_C HM.out) (by decide) HRA.out).mono ?_;rintro e we ⟨g7, c7, rfl, hb, hg0, hg1, hby⟩;have hM:=add_byts HM.out hb hg0 hg1 hby;clear hb hg0 hg1 hby;clear HM;have HM:=Aside0.mk hM;clear hM))
  have hcv : (convert 24 9 (.slice (some ⟨g7, 0, none⟩) (encB [ra]).length c7)).run Tryd.prog we = .ok (.string ⟨#[54, 32, 97, 61, 49, 10]⟩) we := by
    rw [run_convert_bytes_back we 24 9 5 ⟨g7, 0, none⟩ c7 (encB [ra]) (by exact Tryd.underlying24) (by exact Tryd.underlying5) (by exact Tryd.underlying9) (fun j hj => by
      have hadd : (⟨g7, 0, none⟩ : Addr).add j = ⟨g7, j, none⟩ := by unfold Addr.add; split <;> simp_all
      rw [hadd]
      exact HM.out.now.2 j hj)]
    rw [ra_enc]
  go_upto_region 6 with (fail)
  clear hcv
  have HM0 : Aside0 (Mem w (fun k => k < w.heap.size) we [] (fun v => Kd.C Kd.string v A0 ks.length ks ∧ Kd.C Kd.string v A1 vs.length vs)) := ⟨HM.out.bare.imp (fun w h => h.1)⟩
  clear HM
  have HM := HM0
  clear HM0
  by_cases hle : ks.length = vs.length
  case neg =>
    have b1 : ((ks.length : Int) != (vs.length : Int)) = true := bne_iff_ne.2 (by omega)
    clear hle
    go_wp2
    go_ret
    exact ⟨rfl, HM.out.below⟩
  have b1 : ((ks.length : Int) != (vs.length : Int)) = false := by rw [bne, show ((ks.length : Int) == (vs.length : Int)) = true from beq_iff_eq.2 (by omega)]; rfl
  have HLE := Aside0.mk hle
  clear hle
  by_cases h20 : 20 < ks.length
  case pos =>
    have b2 : decide ((20 : Int) < (ks.length : Int)) = true := decide_eq_true (by omega)
    clear h20
    go_wp2
    go_ret
    exact ⟨rfl, HM.out.below⟩
  have b2 : decide ((20 : Int) < (ks.length : Int)) = false := decide_eq_false (by omega)
  have H20 : Aside0 (ks.length ≤ 20) := ⟨by omega⟩
  clear h20
  go_wp2_with (first|go_skip|((with_reducible refine' make_mapT HM.out ?hw rfl ?_);(case hw=>rfl);intro b _ hb hM;clear HM;have HM:=Aside0.mk hM;clear hM;have HB:=Aside0.mk hb;clear hb))
  go_loopw [9, 54] (fun v9 v54 wr => ∃ (i : Nat) (l : List S29) (X : List Bx), v54 = .int .i64 i ∧ Aside0 (i ≤ ks.length ∧ l.length ≤ i ∧ ∀ r ∈ l, okS r) ∧ Aside0 (OwnB 29 2 v9 l.length (cellsX rec29 l) X) ∧
    Aside0 (Mem w (fun k => k < w.heap.size) wr X (fun v => (Kd.C Kd.string v A0 ks.length ks ∧ Kd.C Kd.string v A1 vs.length vs) ∧ True ∧ MapT v b i (mapOf l)))) (fun _ v54 _ => ks.length - (intOf v54).toNat)
  case atStart => exact ⟨0, [], [], rfl, ⟨Nat.zero_le _, Nat.le_refl _, fun r hr => by cases hr⟩, ⟨OwnB.nil 29 2⟩, ⟨HM.out.imp (fun v h => ⟨h.1, trivial, h.2⟩)⟩⟩
  case round =>
    clear HM
    obtain ⟨i, l, X, rfl, HI, HO, HM⟩ := hrel
    by_cases hlt : i < ks.length
    · have hlt1 : i < vs.length := by have := HLE.out; omega
      have hlz : (i : Int) < (ks.length : Int) := by omega
      have hlz1 : (i : Int) < (vs.length : Int) := by omega
      have hib : (i : Int) ≤ 20 := by have := H20.out; omega
      have HNB : Aside0 (i ≤ 1000000) := ⟨by omega⟩
      have HIN : Aside0 (l.length ≤ 900000) := ⟨by have := HI.out; omega⟩
      obtain ⟨r, hk, hv⟩ : ∃ r : S29, ks[i] = r.f0 ∧ vs[i] = r.f1 := ⟨⟨ks[i], vs[i]⟩, rfl, rfl⟩
      obtain ⟨ad, ea, hx⟩ := str_at HM.out.now.1.1 i hlt
      obtain ⟨ad1, ea1, hx1⟩ := str_at HM.out.now.1.2 i hlt1
      rw [hk] at hx
      rw [hv] at hx1
      have HV := Aside0.mk (show vs[i]? = some r.f1 by rw [List.getElem?_eq_getElem hlt1, hv])
      obtain ⟨A9, c9, hv9⟩ := HO.out.slice
      subst hv9 ea ea1
      clear hlt hlt1 hk hv
      go_upto_region 14 with (first|go_skip|((with_reducible refine' lc HM ?qw rfl ?qx ?qm ?qa ?qv ?_);(case qw|qx|qa=>rfl);(case qm=>repeat constructor);(case qv=>rfl))|((with_reducible refine' la HM ?qw rfl ?qx ?qm ?qa ?_);(case qw|qx=>rfl);(case qm=>repeat constructor);(case qa=>rfl))|((with_reducible refine' pa HM ?qw rfl ?qx _ ?qy ?qm ?qa ?_);(case qw|qx|qy=>rfl);(case qm=>repeat constructor);(case qa=>rfl);clear HM;intro _ HM)|((with_reducible refine' pc HM ?qw rfl ?qx ?qa ?qy ?qm ?qo ?qi ?_);(case qw|qx|qa=>rfl);(case qy=>first|exact (rfl:_=Value.int _ _)|exact (rfl:_=Value.slice _ _ _)|exact (rfl:_=Value.string _)|exact (rfl:_=Value.bool _));(case qm=>repeat constructor);(case qo=>exact ⟨rfl,rfl⟩);(case qi=>rfl);clear HM;intro _ HM;try simp only [List.set_cons_zero,List.set_cons_succ] at HM)|((with_reducible refine' bz HM ?qw rfl ?qa ?qc ?_);(case qw|qa|qc=>rfl);clear HM;intro _ _ HM)|((with_reducible refine' bn HM ?qw rfl _ ?qx ?_);(case qw|qx=>rfl);clear HM;intro _ _ HM))
      clear hx hx1
      have hx1 := str_here HM.out.now.1.2 HV.out
      by_cases hk5 : 500 < r.f0.size
      case pos =>
        have z1 : decide ((500 : Int) < (r.f0.size : Int)) = true := decide_eq_true (by omega)
        clear hk5
        go_wp2_with (first|go_skip|((with_reducible refine' lc HM ?qw rfl ?qx ?qm ?qa ?qv ?_);(case qw|qx|qa=>rfl);(case qm=>repeat constructor);(case qv=>rfl))|((with_reducible refine' la HM ?qw rfl ?qx ?qm ?qa ?_);(case qw|qx=>rfl);(case qm=>repeat constructor);(case qa=>rfl))|((with_reducible refine' pa HM ?qw rfl ?qx _ ?qy ?qm ?qa ?_);(case qw|qx|qy=>rfl);(case qm=>repeat constructor);(case qa=>rfl);clear HM;intro _ HM)|((with_reducible refine' pc HM ?qw rfl ?qx ?qa ?qy ?qm ?qo ?qi ?_);(case qw|qx|qa=>rfl);(case qy=>first|exact (rfl:_=Value.int _ _)|exact (rfl:_=Value.slice _ _ _)|exact (rfl:_=Value.string _)|exact (rfl:_=Value.bool _));(case qm=>repeat constructor);(case qo=>exact ⟨rfl,rfl⟩);(case qi=>rfl);clear HM;intro _ HM;try simp only [List.set_cons_zero,List.set_cons_succ] at HM)|((with_reducible refine' bz HM ?qw rfl ?qa ?qc ?_);(case qw|qa|qc=>rfl);clear HM;intro _ _ HM)|((with_reducible refine' bn HM ?qw rfl _ ?qx ?_);(case qw|qx=>rfl);clear HM;intro _ _ HM))
        go_ret
        exact ⟨rfl, HM.out.below⟩
      have z1 : decide ((500 : Int) < (r.f0.size : Int)) = false := decide_eq_false (by omega)
      by_cases hv5 : 500 < r.f1.size
      case pos =>
        have z2 : decide ((500 : Int) < (r.f1.size : Int)) = true := decide_eq_true (by omega)
        clear hv5 hk5
        go_wp2_with (first|go_skip|((with_reducible refine' lc HM ?qw rfl ?qx ?qm ?qa ?qv ?_);(case qw|qx|qa=>rfl);(case qm=>repeat constructor);(case qv=>rfl))|((with_reducible refine' la HM ?qw rfl ?qx ?qm ?qa ?_);(case qw|qx=>rfl);(case qm=>repeat constructor);(case qa=>rfl))|((with_reducible refine' pa HM ?qw rfl ?qx _ ?qy ?qm ?qa ?_);(case qw|qx|qy=>rfl);(case qm=>repeat constructor);(case qa=>rfl);clear HM;intro _ HM)|((with_reducible refine' pc HM ?qw rfl ?qx ?qa ?qy ?qm ?qo ?qi ?_);(case qw|qx|qa=>rfl);(case qy=>first|exact (rfl:_=Value.int _ _)|exact (rfl:_=Value.slice _ _ _)|exact (rfl:_=Value.string _)|exact (rfl:_=Value.bool _));(case qm=>repeat constructor);(case qo=>exact ⟨rfl,rfl⟩);(case qi=>rfl);clear HM;intro _ HM;try simp only [List.set_cons_zero,List.set_cons_succ] at HM)|((with_reducible refine' bz HM ?qw rfl ?qa ?qc ?_);(case qw|qa|qc=>rfl);clear HM;intro _ _ HM)|((with_reducible refine' bn HM ?qw rfl _ ?qx ?_);(case qw|qx=>rfl);clear HM;intro _ _ HM))
        go_ret
        exact ⟨rfl, HM.out.below⟩
      have z2 : decide ((500 : Int) < (r.f1.size : Int)) = false := decide_eq_false (by omega)
      have HKZ : Aside0 (r.f0.size ≤ maxLen) := ⟨by unfold maxLen; omega⟩
      have HVZ : Aside0 (r.f1.size ≤ maxLen) := ⟨by unfold maxLen; omega⟩
      have hck := check_c r (by omega) (by omega)
      have HCK := Aside0.mk hck
      clear hck hv5 hk5
      by_cases hok : okS r
      · have HOKR := Aside0.mk hok
        clear hok
        go_upto_region 18 with (first|go_skip|((with_reducible refine' lc HM ?qw rfl ?qx ?qm ?qa ?qv ?_);(case qw|qx|qa=>rfl);(case qm=>repeat constructor);(case qv=>rfl))|((with_reducible refine' la HM ?qw rfl ?qx ?qm ?qa ?_);(case qw|qx=>rfl);(case qm=>repeat constructor);(case qa=>rfl))|((with_reducible refine' bsG HM rfl rfl ?qx (fun w=>run_bs29 w r) ?_);(case qx=>rfl);clear HM;intro _ _ HM)|((with_reducible refine gate_builtin (b:=.append) rfl ?_);go_loud (refine' addG (cs:=rec29 r) under30 inf29 rfl (by decide) (by decide) [_] HM HO rfl (rec29_one r) rfl rfl ?qs ?qx ?qn ?_;(case qs|qx=>rfl);(case qn=>exact HIN.out);clear HM;clear HO;intro vN XN _ HO HM;have hM:=HM.out;simp only [List.cons_append,List.nil_append] at hM;clear HM;have HM:=Aside0.mk hM;clear hM))|(go_at_call 6;refine (HCK.out _).mono ?_;rintro e _ ⟨⟨z, rfl, hz⟩, hb⟩;have hM:=HM.out.call hb;clear hb;obtain rfl := hz.2 HOKR.out;clear hz;clear HM;have HM:=Aside0.mk hM;clear hM))
        clear hx1
        have hx1 := str_here HM.out.now.1.2 HV.out
        go_wp2_with (first|go_skip|((with_reducible refine' lc HM ?qw rfl ?qx ?qm ?qa ?qv ?_);(case qw|qx|qa=>rfl);(case qm=>repeat constructor);(case qv=>rfl))|((with_reducible refine' la HM ?qw rfl ?qx ?qm ?qa ?_);(case qw|qx=>rfl);(case qm=>repeat constructor);(case qa=>rfl))|((with_reducible refine' pa HM ?qw rfl ?qx _ ?qy ?qm ?qa ?_);(case qw|qx|qy=>rfl);(case qm=>repeat constructor);(case qa=>rfl);clear HM;intro _ HM)|((with_reducible refine' pc HM ?qw rfl ?qx ?qa ?qy ?qm ?qo ?qi ?_);(case qw|qx|qa=>rfl);(case qy=>first|exact (rfl:_=Value.int _ _)|exact (rfl:_=Value.slice _ _ _)|exact (rfl:_=Value.string _)|exact (rfl:_=Value.bool _));(case qm=>repeat constructor);(case qo=>exact ⟨rfl,rfl⟩);(case qi=>rfl);clear HM;intro _ HM;try simp only [List.set_cons_zero,List.set_cons_succ] at HM)|((with_reducible refine' bz HM ?qw rfl ?qa ?qc ?_);(case qw|qa|qc=>rfl);clear HM;intro _ _ HM)|((with_reducible refine' bn HM ?qw rfl _ ?qx ?_);(case qw|qx=>rfl);clear HM;intro _ _ HM)|(at_mapUpdate;((with_reducible refine' update_mapT (K:=[]) (Φ:=fun _=>True) HM.out HS.out (fun _ _ _ h=>h) (fun k hk=>absurd hk List.not_mem_nil) HB.out HNB.out rfl rfl ?hm ?hx HKZ.out ?hv HVZ.out ?_);(case hm=>rfl);(case hx=>rfl);(case hv=>rfl);intro _ hM;clear HM;have HM:=Aside0.mk hM;clear hM)))
        go_roundw
        case rel =>
          refine ⟨i + 1, l ++ [r], XN, by go_num, ⟨by have := HI.out; omega, by rw [List.length_append]; have := HI.out; simp; omega, fun q hq => ?_⟩, ⟨?_⟩, ⟨HM.out.drop.drop.imp (fun v h => by rw [mapOf_snoc]; exact h)⟩⟩
          · rcases List.mem_append.1 hq with h | h
            · exact HI.out.2.2 q h
            · rw [List.mem_singleton.1 h]; exact HOKR.out
          · have e1 : cellsX rec29 [r] = rec29 r := by simp [cellsX]
            rw [cellsX_app, e1, List.length_append]
            exact HO.out
        case measure => simp [intOf]; omega
      · have HOKR := Aside0.mk hok
        clear hok
        go_wp2_with (first|go_skip|((with_reducible refine' lc HM ?qw rfl ?qx ?qm ?qa ?qv ?_);(case qw|qx|qa=>rfl);(case qm=>repeat constructor);(case qv=>rfl))|((with_reducible refine' la HM ?qw rfl ?qx ?qm ?qa ?_);(case qw|qx=>rfl);(case qm=>repeat constructor);(case qa=>rfl))|(go_at_call 6;refine (HCK.out _).mono ?_;rintro e _ ⟨⟨z, rfl, hz⟩, hb⟩;have hM:=HM.out.call hb;clear hb;have hz0 : (z != 0) = true := bne_iff_ne.2 (fun h => HOKR.out (hz.1 h));clear hz;clear HM;have HM:=Aside0.mk hM;clear hM))
        go_roundw
        case rel => exact ⟨i + 1, l, X, by go_num, ⟨by have := HI.out; omega, by have := HI.out; omega, HI.out.2.2⟩, HO, ⟨HM.out.drop.imp (fun v h => ⟨h.1, h.2.1, h.2.2.le (Nat.le_succ _)⟩)⟩⟩
        case measure => simp [intOf]; omega
    · have hlz : ¬ ((i : Int) < (ks.length : Int)) := by omega
      have HOK : Aside0 (∀ r ∈ l, okS r) := ⟨HI.out.2.2⟩
      have HLL : Aside0 (l.length ≤ 64) := ⟨by have := HI.out; have := H20.out; omega⟩
      obtain ⟨A9, c9, hv9, hc9, hM9⟩ := handX (B := []) sx29 HM.out HO.out
      subst hv9
      clear HM hlt hc9
      have HM := Aside0.mk hM9
      clear hM9
      go_upto_region 22 with (first|go_skip|(go_at_call 5;refine (encode_c _ _ l _ (HG.out.below HM.out.below) HM.out.now.2 HLL.out HOK.out).mono ?_;rintro e we ⟨g8, c8, rfl, hb, hg0, hg1, hby⟩;have hM:=add_byts HM.out hb hg0 hg1 hby;clear hb hg0 hg1 hby;clear HM;have HM:=Aside0.mk hM;clear hM)|(go_at_call 7;refine (decode_c l _ _ _ (HG.out.below HM.out.below) HM.out.now.2 HLL.out HOK.out).mono ?_;rintro e we ⟨Ab, cb, rfl, hcb, hb, htold⟩;have HCB:=Aside0.mk hcb;have hM:=HM.out.add hb (S':=fun v=>Kd.C k29 v Ab l.length l) (fun W' hW=>htold W' (fun k hk hlt=>hW k hlt (.inr hk)));clear hb htold hcb;clear HM;have HM:=Aside0.mk hM;clear hM))
      have HM0 : Aside0 (Mem w (fun k => k < w.heap.size) _ [] (fun v => Kd.C k29 v Ab l.length l ∧ MapT v b i (mapOf l))) := ⟨HM.out.imp (fun v h => ⟨h.2, h.1.1.1.2.2⟩)⟩
      clear HM
      have HM := HM0
      clear HM0
      go_wp2_with (first|go_skip|(at_range;(with_reducible refine' range_mapT HM.out HB.out rfl rfl ?hm ?_);(case hm=>rfl);intro rb cnt0 _ hr hbr hbx hag hM;clear HM;have HM:=Aside0.mk hM;clear hM;have HR:=Aside0.mk hr;have HBR:=Aside0.mk hbr;have HAG:=Aside0.mk hag;clear hr hbr hbx hag))
      go_frame
      have HLT := True.intro
      clear HLT
      go_loopw [18] (fun _ wr => ∃ (cnt : Nat) (fl : List UInt8 → Bool), Aside0 (∀ x, fl x = true → (mapOf l x).isSome = true) ∧ Aside0 (Mem w (fun k => k < w.heap.size) wr [] (fun v => Ag w (fun k => k < w.heap.size) [] rb _ v ∧ RgT v b rb (mapOf l) fl cnt))) (fun _ wr => wr.rangeLeft b rb)
      case atStart => exact ⟨cnt0, _, ⟨fun x h => h⟩, HM⟩
      case round =>
        clear HM
        obtain ⟨cnt, fl, HFL, HM⟩ := hrel
        have HB0 := Aside0.mk (fun k (_ : k < rb) (h : k ∈ List.map (·.1) ([] : List Bx)) => h)
        have HLFT := Aside0.mk (RgT.left HM.out.now.2)
        obtain ⟨cc, bb, hcc, hbb, hor⟩ := HCLS.out
        have HCC := Aside0.mk hcc
        have HBBV := Aside0.mk hbb
        clear hcc hbb
        cases bb with
        | true =>
          clear hor
          go_wp2_with (first|go_skip|(at_next;(with_reducible refine' next_mapT HM.out HB0.out HB.out HR.out HFL.out rfl rfl ?hit ?hd ?hmo);(case hit=>rfl);intro hd;clear hd;rotate_left;intro x z _ cnt1 hfx hfz hlt1 hM hen;have HX:=Aside0.mk (And.intro hfx hfz);have HLT:=Aside0.mk hlt1;clear hfx hfz hlt1;clear HM;have HM:=Aside0.mk hM;clear hM;rotate_left)|(go_at_call 10;refine (HTK.out a _ _ HBBV.out).mono ?_;rintro e _ ⟨rfl, hb⟩;have hM:=HM.out.call hb;clear hb;clear HM;have HM:=Aside0.mk hM;clear hM)|(go_at_call 4;refine (HCL.out a cc _ HCC.out).mono ?_;rintro e _ ⟨rfl, hb⟩;have hM:=HM.out.call hb;clear hb;clear HM;have HM:=Aside0.mk hM;clear hM)|(go_at_call 8;refine (get_c _ _ l x z HX.out.2 (by have := HLL.out; omega) HCB.out _ (HAG.out _ HM.out.now.1)).mono ?_;rintro e _ ⟨rfl, hb⟩;have hM:=HM.out.call hb;clear hb;clear HM;have HM:=Aside0.mk hM;clear hM)|(go_at_call 9;refine (number_c z (z_size HOK.out HX.out.2) _ (HG.out.below HM.out.below)).mono ?_;rintro e _ ⟨rfl, hb⟩;have hM:=HM.out.call hb;clear hb;clear HM;have HM:=Aside0.mk hM;clear hM))
          · go_ret
            exact ⟨rfl, HM.out.below⟩
          · refine ⟨⟨cnt1, _, ⟨fun y h => HFL.out y (by simp only [Bool.and_eq_true] at h; exact h.1)⟩, HM⟩, ?_⟩
            rw [RgT.left HM.out.now.2, HLFT.out]
            exact HLT.out
        | false =>
          have HC1 := Aside0.mk (show cc ≤ 1 from hor.resolve_left (by simp))
          clear hor
          go_wp2_with (first|go_skip|(at_next;(with_reducible refine' next_mapT HM.out HB0.out HB.out HR.out HFL.out rfl rfl ?hiu ?he ?hmp);(case hiu=>rfl);intro hd;clear hd;rotate_left;intro x z _ cnt1 hfx hfz hlt1 hM hen;have HX:=Aside0.mk (And.intro hfx hfz);have HLT:=Aside0.mk hlt1;clear hfx hfz hlt1;clear HM;have HM:=Aside0.mk hM;clear hM;rotate_left)|(go_at_call 10;refine (HTK.out a _ _ HBBV.out).mono ?_;rintro e _ ⟨rfl, hb⟩;have hM:=HM.out.call hb;clear hb;clear HM;have HM:=Aside0.mk hM;clear hM)|(go_at_call 4;refine (HCL.out a cc _ HCC.out).mono ?_;rintro e _ ⟨rfl, hb⟩;have hM:=HM.out.call hb;clear hb;clear HM;have HM:=Aside0.mk hM;clear hM)|(go_at_call 8;refine (get_c _ _ l x z HX.out.2 (by have := HLL.out; omega) HCB.out _ (HAG.out _ HM.out.now.1)).mono ?_;rintro e _ ⟨rfl, hb⟩;have hM:=HM.out.call hb;clear hb;clear HM;have HM:=Aside0.mk hM;clear hM)|(go_at_call 9;refine (number_c z (z_size HOK.out HX.out.2) _ (HG.out.below HM.out.below)).mono ?_;rintro e _ ⟨rfl, hb⟩;have hM:=HM.out.call hb;clear hb;clear HM;have HM:=Aside0.mk hM;clear hM))
          · go_ret
            refine ⟨?_, HM.out.below⟩
            have e1 : decide (cc ≤ 1) = true := decide_eq_true HC1.out
            first | exact congrArg (fun z => Ending.returned (Value.bool z)) e1 | (simp [HC1.out])
          · refine ⟨⟨cnt1, _, ⟨fun y h => HFL.out y (by simp only [Bool.and_eq_true] at h; exact h.1)⟩, HM⟩, ?_⟩
            rw [RgT.left HM.out.now.2, HLFT.out]
            exact HLT.out
end Go.Proofs.YtnpdgmgabkoeiaaDoor.R
