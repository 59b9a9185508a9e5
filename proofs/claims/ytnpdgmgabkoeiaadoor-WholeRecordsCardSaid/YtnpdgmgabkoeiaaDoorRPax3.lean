/- pax.one, pax.Decode: walked by hand over Mem. Printed by wip/tools/gen_pax3.py. -/
import Derived.Test.YtnpdgmgabkoeiaaDoorRRows
namespace Go.Proofs.YtnpdgmgabkoeiaaDoor.R
open Go.RowKit Go.Proofs.YtnpdgmgabkoeiaaDoorW.PrintWords Go.Proofs.YtnpdgmgabkoeiaaDoorW.PrintLast Go.Proofs.YtnpdgmgabkoeiaaDoorW.PrintMore Go.Proofs.YtnpdgmgabkoeiaaDoor.Mem Go.Proofs.YtnpdgmgabkoeiaaDoor.Pure Go.Proofs.YtnpdgmgabkoeiaaDoor.XA
set_option linter.unusedVariables false
set_option linter.unusedSimpArgs false

theorem ret_ctt {Pr : Program} {fn : Func} {p u u2 : Tmp} {ty : TypeId} {tmps : Array Value} {w0 W : World} {P : Nat → Prop} {B : List Bx} {S : World → Prop} {g : Nat} {cs : List Value} {t : TypeId} (HM : Mem w0 P W B S) (h : fn.results = #[.cell p ty, .tmp u, .tmp u2]) (hp : tmps.getD p undef = .pointer (some ⟨g, 0, none⟩)) (hm : (g, cs, t) ∈ B) (ha : aggN Pr ty cs.length = true) :
    (results fn tmps).run Pr W = .ok (.tuple #[.agg cs.toArray, tmps.getD u undef, tmps.getD u2 undef]) W := by
  have hp' : tmps[p]?.getD undef = .pointer (some ⟨g, 0, none⟩) := by simpa using hp
  simp [results, h, hp', asAddr, loadVar_box HM hm ha]
def one14T : Bool × List (List Nat × List Nat) := (true, [([], []), ([], []), ([], []), ([1, 2], [1, 2]), ([0, 0], [0]), ([3, 4, 0, 1, 2, 3, 4], [3]), ([5, 0, 1, 2, 3, 4, 5], [])])
def one14B : List Nat := [0, 0, 0, 6, 1, 31, 63]
theorem one14Tab : rtab .any (opsOf Tryd.f17 14) = one14T := by kernel_rfl
theorem one14Bits : waitsOk one14T.2 one14B = true := by kernel_rfl
set_option maxHeartbeats 4000000 in
set_option maxRecDepth 100000 in
theorem one_c (r : S29) (rest : List UInt8) (s : ByteArray) (hs : s.data.toList = recB r.f0.data.toList r.f1.data.toList ++ rest) (hz : s.size ≤ 1000000) (hok : okS r) (w : World) (hG : GG w) :
    Calls Tryd.prog 17 #[.string s] w fun e w' => e = .returned (.tuple #[.agg #[.string r.f0, .string r.f1], .string ⟨rest.toArray⟩, .int .i64 0]) ∧ Below w.heap.size w w' := by
  have HG := Aside0.mk hG
  have HM : Aside0 (Mem w (fun k => k < w.heap.size) w [] (fun _ => True)) := ⟨Mem.start (fun _ _ => trivial)⟩
  have hrl := okS_len hok
  have k0 : r.f0.data.toList.length = r.f0.size := by simp
  have k1 : r.f1.data.toList.length = r.f1.size := by simp
  have hlr := lenR_eq r.f0.size r.f1.size hrl
  have hh := one_head r.f0.data.toList r.f1.data.toList rest
  have hm1 := one_mid r.f0.data.toList r.f1.data.toList rest (by rw [k0, k1]; exact hrl)
  have he1 := one_end r.f0.data.toList r.f1.data.toList rest (by rw [k0, k1]; exact hrl)
  have hrb := recB_len r.f0.data.toList r.f1.data.toList (by rw [k0, k1]; exact hrl)
  have hL := length_c r hrl
  rw [k0, k1] at hh hm1 he1 hrb
  rw [← hs] at hm1 he1
  have hsz : s.size = lenR r.f0.size r.f1.size + rest.length := by
    have := congrArg List.length hs
    rw [List.length_append, hrb] at this
    simpa using this
  obtain ⟨n, hn⟩ : ∃ n, n = lenR r.f0.size r.f1.size := ⟨_, rfl⟩
  rw [← hn] at hh hm1 he1 hsz hlr hL
  obtain ⟨hd, hhd⟩ : ∃ hd : ByteArray, hd = ⟨(Lib.decDigits n).toArray⟩ := ⟨_, rfl⟩
  obtain ⟨d, hdd⟩ : ∃ d, d = (Lib.decDigits n).length := ⟨_, rfl⟩
  rw [← hdd] at hm1 hlr
  obtain ⟨m, hm⟩ : ∃ m : Nat, n = m + 1 := ⟨n - 1, by omega⟩
  obtain ⟨d1, hd1⟩ : ∃ d1 : Nat, d1 = d + 1 := ⟨_, rfl⟩
  rw [← hd1] at hm1
  have hdz : (hd.size : Int) = (d : Int) := by rw [hhd, size_mk, hdd]
  have hd4 : (d : Int) ≤ 4 := by omega
  have hdl : hd.data.toList = Lib.decDigits n := by rw [hhd]
  have hC1 : ∀ W, Calls Tryd.prog 23 #[.string s, .string ⟨#[32]⟩] W fun e w' => e = .returned (.tuple #[.string hd, .string ⟨(r.f0.data.toList ++ 61 :: (r.f1.data.toList ++ [10]) ++ rest).toArray⟩, .bool true]) ∧ Below W.heap.size W w' := fun W => by
    rw [hhd]
    refine cut_c s 32 (Lib.decDigits n) _ ?_ (fun h => ?_) hz W
    · rw [hs]; unfold recB; rw [k0, k1, ← hn]; simp
    · have := dd_bytes _ _ h
      revert this; decide
  have hA : ∀ W, Calls Tryd.prog 24 #[.string hd] W fun e w' => e = .returned (.tuple #[.int .i64 (n : Int), .nilIface]) ∧ Below W.heap.size W w' := fun W =>
    atoi_c hd (by omega) (n : Int) (by rw [hdl]; exact atoi_dd (by omega)) W
  have hI : ∀ W, GG W → Calls Tryd.prog 13 #[.int .i64 (n : Int)] W fun e w' => e = .returned (.string hd) ∧ Below W.heap.size W w' := fun W hG =>
    (itoa_c (n : Int) (by omega) (by omega) W hG).mono (by rintro e w' ⟨rfl, hb⟩; exact ⟨by rw [Lib.itoa_nonneg, hhd], hb⟩)
  have hex : (s.extract d1 m).data.toList = r.f0.data.toList ++ 61 :: r.f1.data.toList := by
    rw [piece]
    rw [hm, Nat.add_sub_cancel] at hm1
    exact hm1
  have hno61 : (61 : UInt8) ∉ r.f0.data.toList := fun h => (hok.2.1 _ h).1 rfl
  have hC2 : ∀ W, Calls Tryd.prog 23 #[.string (s.extract d1 m), .string ⟨#[61]⟩] W fun e w' => e = .returned (.tuple #[.string r.f0, .string r.f1, .bool true]) ∧ Below W.heap.size W w' := fun W => by
    have := cut_c (s.extract d1 m) 61 r.f0.data.toList r.f1.data.toList hex hno61 (by simp; omega) W
    rw [← ba_of rfl, ← ba_of rfl] at this
    exact this
  have hms : m < s.size := by omega
  have hix : ((s[m]'hms).toNat : Int) = 10 := by
    have h1 := he1.1
    rw [hm, Nat.add_sub_cancel, List.getElem?_eq_getElem (by simpa using hms)] at h1
    have h2 : s.data.toList[m]'(by simpa using hms) = s[m]'hms := by simp; rfl
    rw [h2] at h1
    rw [Option.some.inj h1]
    rfl
  have hrest : s.extract n s.size = ⟨rest.toArray⟩ := by
    rw [piece, List.take_of_length_le (by simp), he1.2]
  have hCK : ∀ W, Calls Tryd.prog 6 #[.agg #[.string r.f0, .string r.f1]] W fun e w' => e = .returned (.int .i64 0) ∧ Below W.heap.size W w' := fun W =>
        (check_c r (by omega) (by omega) W).mono (by rintro e w' ⟨⟨z, rfl, hz⟩, hb⟩; rw [hz.2 hok]; exact ⟨rfl, hb⟩)
  have z1 : ¬ ((n : Int) ≤ (d1 : Int)) := by omega
  have z2 : ¬ ((s.size : Int) < (n : Int)) := by omega
  have z3 : (n : Int) - 1 = (m : Int) := by omega
  have z4 : (m : Int) < (s.size : Int) := by omega
  have z5 : (d1 : Int) ≤ (m : Int) := by omega
  have z6 : (d : Int) + 1 = (d1 : Int) := by omega
  have hnb : (n : Int) ≤ 4103 := by omega
  have z7 : (n : Int) ≤ (s.size : Int) := by omega
  have z8 : (m : Int) ≤ (s.size : Int) := by omega
  have y5 : d1 ≤ m := by omega
  have y8 : m ≤ s.size := by omega
  have y7 : n ≤ s.size := by omega
  have HC1 := Aside0.mk hC1
  have HC2 := Aside0.mk hC2
  have HA := Aside0.mk hA
  have HI := Aside0.mk hI
  have HCK := Aside0.mk hCK
  have HL := Aside0.mk hL
  have HRS := Aside0.mk hrest
  clear hs hz hok hG k0 k1 hh hm1 he1 hrb hsz hn hhd hdd hm hdl hC1 hC2 hA hI hCK hL hrest hlr hrl hex hno61 hd1
  go_enter Tryd.func17, Tryd.ntmps17
  go_upto_region 5 with (first|go_skip|((with_reducible refine' lc HM ?qw rfl ?qx ?qm ?qa ?qv ?_);(case qw|qx|qa=>rfl);(case qm=>repeat constructor);(case qv=>rfl))|((with_reducible refine' la HM ?qw rfl ?qx ?qm ?qa ?_);(case qw|qx=>rfl);(case qm=>repeat constructor);(case qa=>rfl))|((with_reducible refine' pa HM ?qw rfl ?qx _ ?qy ?qm ?qa ?_);(case qw|qx|qy=>rfl);(case qm=>repeat constructor);(case qa=>rfl);clear HM;intro _ HM)|((with_reducible refine' pc HM ?qw rfl ?qx ?qa ?qy ?qm ?qo ?qi ?_);(case qw|qx|qa=>rfl);(case qy=>first|exact (rfl:_=Value.int _ _)|exact (rfl:_=Value.slice _ _ _)|exact (rfl:_=Value.string _)|exact (rfl:_=Value.bool _));(case qm=>repeat constructor);(case qo=>exact ⟨rfl,rfl⟩);(case qi=>rfl);clear HM;intro _ HM;try simp only [List.set_cons_zero,List.set_cons_succ] at HM)|((with_reducible refine' bz HM ?qw rfl ?qa ?qc ?_);(case qw|qa|qc=>rfl);clear HM;intro _ _ HM)|((with_reducible refine' bn HM ?qw rfl _ ?qx ?_);(case qw|qx=>rfl);clear HM;intro _ _ HM)|(go_at_call 23;refine (HC1.out _).mono ?_;rintro e _ ⟨rfl, hb⟩;have hM:=HM.out.call hb;clear hb;clear HM;have HM:=Aside0.mk hM;clear hM)|(go_at_call 24;refine (HA.out _).mono ?_;rintro e _ ⟨rfl, hb⟩;have hM:=HM.out.call hb;clear hb;clear HM;have HM:=Aside0.mk hM;clear hM))
  go_upto_region 7 with (first|go_skip|((with_reducible refine' lc HM ?qw rfl ?qx ?qm ?qa ?qv ?_);(case qw|qx|qa=>rfl);(case qm=>repeat constructor);(case qv=>rfl))|((with_reducible refine' la HM ?qw rfl ?qx ?qm ?qa ?_);(case qw|qx=>rfl);(case qm=>repeat constructor);(case qa=>rfl))|((with_reducible refine' pa HM ?qw rfl ?qx _ ?qy ?qm ?qa ?_);(case qw|qx|qy=>rfl);(case qm=>repeat constructor);(case qa=>rfl);clear HM;intro _ HM)|((with_reducible refine' pc HM ?qw rfl ?qx ?qa ?qy ?qm ?qo ?qi ?_);(case qw|qx|qa=>rfl);(case qy=>first|exact (rfl:_=Value.int _ _)|exact (rfl:_=Value.slice _ _ _)|exact (rfl:_=Value.string _)|exact (rfl:_=Value.bool _));(case qm=>repeat constructor);(case qo=>exact ⟨rfl,rfl⟩);(case qi=>rfl);clear HM;intro _ HM;try simp only [List.set_cons_zero,List.set_cons_succ] at HM)|((with_reducible refine' bz HM ?qw rfl ?qa ?qc ?_);(case qw|qa|qc=>rfl);clear HM;intro _ _ HM)|((with_reducible refine' bn HM ?qw rfl _ ?qx ?_);(case qw|qx=>rfl);clear HM;intro _ _ HM)|(go_at_call 13;refine (HI.out _ (HG.out.below HM.out.below)).mono ?_;rintro e _ ⟨rfl, hb⟩;have hM:=HM.out.call hb;clear hb;clear HM;have HM:=Aside0.mk hM;clear hM))
  clear hix HC1 HA HI
  go_upto_region 14 with (first|go_skip|((with_reducible refine' lc HM ?qw rfl ?qx ?qm ?qa ?qv ?_);(case qw|qx|qa=>rfl);(case qm=>repeat constructor);(case qv=>rfl))|((with_reducible refine' la HM ?qw rfl ?qx ?qm ?qa ?_);(case qw|qx=>rfl);(case qm=>repeat constructor);(case qa=>rfl))|((with_reducible refine' pa HM ?qw rfl ?qx _ ?qy ?qm ?qa ?_);(case qw|qx|qy=>rfl);(case qm=>repeat constructor);(case qa=>rfl);clear HM;intro _ HM)|((with_reducible refine' pc HM ?qw rfl ?qx ?qa ?qy ?qm ?qo ?qi ?_);(case qw|qx|qa=>rfl);(case qy=>first|exact (rfl:_=Value.int _ _)|exact (rfl:_=Value.slice _ _ _)|exact (rfl:_=Value.string _)|exact (rfl:_=Value.bool _));(case qm=>repeat constructor);(case qo=>exact ⟨rfl,rfl⟩);(case qi=>rfl);clear HM;intro _ HM;try simp only [List.set_cons_zero,List.set_cons_succ] at HM)|((with_reducible refine' bz HM ?qw rfl ?qa ?qc ?_);(case qw|qa|qc=>rfl);clear HM;intro _ _ HM)|((with_reducible refine' bn HM ?qw rfl _ ?qx ?_);(case qw|qx=>rfl);clear HM;intro _ _ HM)|(go_at_call 23;refine (HC2.out _).mono ?_;rintro e _ ⟨rfl, hb⟩;have hM:=HM.out.call hb;clear hb;clear HM;have HM:=Aside0.mk hM;clear hM)|(go_at_call 14;refine (HL.out _ (HG.out.below HM.out.below)).mono ?_;rintro e _ ⟨rfl, hb⟩;have hM:=HM.out.call hb;clear hb;clear HM;have HM:=Aside0.mk hM;clear hM)|(go_at_call 6;refine (HCK.out _).mono ?_;rintro e _ ⟨rfl, hb⟩;have hM:=HM.out.call hb;clear hb;clear HM;have HM:=Aside0.mk hM;clear hM))
  refine r_start (ds := [4]) HM.out #[false, false, false, false, false, false, false] (by kernel_rfl) rfl rfl (fun _ hM => ?_)
  refine with_tabW one14Tab one14Bits (fun HT_ HW_ => ?_)
  clear HM
  have HM := Aside0.mk hM
  clear hM
  refine pure_ (i:=1) (N:=(some 93)) (v:=?_) (a':=?_) #[false, true, false, false, false, false, false] rfl rfl (any_of HT_.out (by kernel_rfl)) (fun _ _ _ h=>h) (Or.inl ⟨by rfl,?_⟩) ?_ ?_
  rotate_left
  · intro w';go_simp;with_reducible rfl
  rotate_left
  · (simp only [Act.put, fillAll, List.setIfInBounds_toArray, List.set_cons_zero, List.set_cons_succ, i64_w, i32_w]; rfl)
  refine pure_ (i:=2) (N:=(some 94)) (v:=?_) (a':=?_) #[false, true, true, false, false, false, false] rfl rfl (any_of HT_.out (by kernel_rfl)) (fun _ _ _ h=>h) (Or.inl ⟨by rfl,?_⟩) ?_ ?_
  rotate_left
  · intro w';go_simp;with_reducible rfl
  rotate_left
  · (simp only [Act.put, fillAll, List.setIfInBounds_toArray, List.set_cons_zero, List.set_cons_succ, i64_w, i32_w]; rfl)
  refine pure_ (i:=3) (N:=(some 95)) (v:=?_) (a':=?_) #[false, true, true, true, false, false, false] rfl rfl (any_of HT_.out (by kernel_rfl)) (fun _ _ _ h=>h) (Or.inl ⟨by rfl,?_⟩) ?_ ?_
  rotate_left
  · intro w';go_simp;with_reducible rfl
  rotate_left
  · (simp only [Act.put, fillAll, List.setIfInBounds_toArray, List.set_cons_zero, List.set_cons_succ, i64_w, i32_w]; rfl)
  apply r_all (i:=0) (N:=(some 92)) #[true, true, true, true, false, false, false]
  (case hi=>rfl)
  (case hN=>rfl)
  (case hc=>exact take_ofW HT_.out HW_.out (by kernel_rfl))
  (case hQ=>exact fun _ _ _ h=>h)
  (case ho=>rfl)
  (case hw=>rfl)
  (case hx=>rfl)
  (case ha=>exact agg29)
  (case hH=>first|exact HM.out.held|exact HM.out.heldTail|exact HM.out.heldTail2)
  (case hm=>first | exact m0 | exact m1)
  (case hl=>rfl)
  (case hp=>(simp only [Act.put, fillAll, List.setIfInBounds_toArray, List.set_cons_zero, List.set_cons_succ, i64_w, i32_w]; rfl))
  refine last_ (i := 4) (N := none) #[true, true, true, true, true, false, false] rfl rfl (one_of HT_.out (by kernel_rfl)) (by decide) (fun K hK => ?_)
  apply r_put HM.out
  (case ho => rfl)
  (case hw => rfl)
  (case hN => rfl)
  (case hx => rfl)
  (case hm => first | exact at0 | exact at1)
  (case hy => rfl)
  (case hs => exact size29)
  (case h1 => first | exact rowL_one _ | exact nodeL_one _ | simp [Value.oneCell'])
  (case hi => rfl)
  intro _ hM
  refine hK.out _ _ ?_
  clear hK K
  simp only [List.set_cons_zero, List.set_cons_succ] at hM
  clear HM
  have HM := Aside0.mk hM
  clear hM
  refine pure_ (i:=5) (N:=(some 3)) (v:=?_) (a':=?_) #[true, true, true, true, true, true, false] rfl rfl (any_of HT_.out (by kernel_rfl)) (fun _ _ _ h=>h) (Or.inl ⟨by rfl,?_⟩) ?_ ?_
  rotate_left
  · intro w';go_simp;with_reducible rfl
  rotate_left
  · (simp only [Act.put, fillAll, List.setIfInBounds_toArray, List.set_cons_zero, List.set_cons_succ, i64_w, i32_w]; rfl)
  refine pure_ (i:=6) (N:=(some 4)) (v:=?_) (a':=?_) #[true, true, true, true, true, true, true] rfl rfl (any_of HT_.out (by kernel_rfl)) (fun _ _ _ h=>h) (Or.inl ⟨by rfl,?_⟩) ?_ ?_
  rotate_left
  · intro w';go_simp;with_reducible rfl
  rotate_left
  · (simp only [Act.put, fillAll, List.setIfInBounds_toArray, List.set_cons_zero, List.set_cons_succ, i64_w, i32_w]; rfl)
  refine done_ (done_of HT_.out (by kernel_rfl)) ?_
  go_wp2
  refine bodyPost_ret (ret_ctt (cs := [.string r.f0, .string r.f1]) HM.out rfl rfl m1 agg29) rfl ?_
  refine ⟨?_, HM.out.below⟩
  show Ending.returned (.tuple #[_, .string (s.extract n s.size), _]) = _
  rw [HRS.out]
  rfl
set_option maxHeartbeats 4000000 in
set_option maxRecDepth 100000 in
theorem decode_c (xs : List S29) (g c : Nat) (w : World) (hG : GG w) (hb : Byts (encB xs) g w) (hl : xs.length ≤ 64) (hok : ∀ r ∈ xs, okS r) :
    Calls Tryd.prog 7 #[.slice (some ⟨g, 0, none⟩) (encB xs).length c] w fun e w' => ∃ A c', e = .returned (.tuple #[.slice A xs.length c', .int .i64 0]) ∧ xs.length ≤ c' ∧ Below w.heap.size w w' ∧
      ∀ W', (∀ k, w.heap.size ≤ k → k < w'.heap.size → W'.heap[k]? = w'.heap[k]?) → Kd.C k29 W' A xs.length xs := by
  have HG := Aside0.mk hG
  have HM : Aside0 (Mem w (fun _ => False) w [] (fun _ => True)) := ⟨Mem.start (fun _ _ => trivial)⟩
  have HL := Aside0.mk hl
  have HOK := Aside0.mk hok
  have HEL := Aside0.mk (encB_le xs hok)
  obtain ⟨s0, hs0⟩ : ∃ s0 : ByteArray, s0 = ⟨(encB xs).toArray⟩ := ⟨_, rfl⟩
  have hcv : (convert 24 9 (.slice (some ⟨g, 0, none⟩) (encB xs).length c)).run Tryd.prog w = .ok (.string s0) w := by
    rw [hs0]
    refine run_convert_bytes_back w 24 9 5 ⟨g, 0, none⟩ c (encB xs) (by exact Tryd.underlying24) (by exact Tryd.underlying5) (by exact Tryd.underlying9) (fun j hj => ?_)
    have hadd : (⟨g, 0, none⟩ : Addr).add j = ⟨g, j, none⟩ := by unfold Addr.add; split <;> simp_all
    rw [hadd]
    exact hb j hj
  have HS0 := Aside0.mk (show s0.data.toList = encB (xs.drop 0) by rw [hs0]; simp)
  clear hG hl hok hb hs0
  go_enter Tryd.func7, Tryd.ntmps7
  go_wp2
  clear hcv
  go_loopg [4, 5] xs.length (fun kx v4 v5 wr => ∃ (i : Nat) (s : ByteArray) (X : List Bx), v5 = .string s ∧ Aside0 (s.data.toList = encB (xs.drop i)) ∧ Aside0 (i + kx = xs.length) ∧ Aside0 (OwnB 29 2 v4 i (cellsX rec29 (xs.take i)) X) ∧ Aside0 (Mem w (fun _ => False) wr X (fun _ => True)))
  case atStart => exact ⟨0, s0, [], rfl, HS0, ⟨by omega⟩, ⟨OwnB.nil 29 2⟩, HM⟩
  case round =>
    clear HM HS0
    obtain ⟨i, s, X, rfl, HS, HI, HO, HM⟩ := hrel
    cases gk with
    | zero =>
      have hi : i = xs.length := by have := HI.out; omega
      have hs : s.data.toList = [] := by rw [HS.out, hi, List.drop_length]; rfl
      have e1 : (s.toList == ([] : List UInt8)) = true := by rw [Lib.toList_data, hs]; rfl
      have e2 : s.toList.isEmpty = true := by rw [Lib.toList_data, hs]; rfl
      have HII := Aside0.mk hi
      clear hs hi
      go_wp2
      go_ret2
      have hO := HO.out
      rw [HII.out, List.take_length] at hO
      obtain ⟨A, c', e, hc', hM⟩ := handX (B := []) sx29 HM.out hO
      exact ⟨A, c', by subst e; rfl, hc', hM.below, fun W' hW => (hM.last W' (fun k hk hlt => hW k (hk.resolve_left (fun h => h)) hlt)).2⟩
    | succ gq =>
      have hi : i < xs.length := by have := HI.out; omega
      have hdr : xs.drop i = xs[i] :: xs.drop (i + 1) := List.drop_eq_getElem_cons hi
      have hsr : s.data.toList = recB xs[i].f0.data.toList xs[i].f1.data.toList ++ encB (xs.drop (i + 1)) := by rw [HS.out, hdr]; rfl
      have hok := HOK.out _ (List.getElem_mem hi)
      have htk : xs.take (i + 1) = xs.take i ++ [xs[i]] := List.take_succ_eq_append_getElem hi
      have HTK := Aside0.mk htk
      have hib : (i : Int) < 64 := by have := HL.out; omega
      have hi64 : ((i : Int) == 64) = false := beq_eq_false_iff_ne.2 (by omega)
      have HIN : Aside0 (i ≤ 900000) := ⟨by omega⟩
      have hssz : s.size ≤ 1000000 := by
        have h1 := congrArg List.length HS.out
        have h2 := encB_le (xs.drop i) (fun r hr => HOK.out r (List.mem_of_mem_drop hr))
        have h3 := HL.out
        rw [List.length_drop] at h2
        have h4 : xs.length - i ≤ 64 := by omega
        have h5 : s.data.toList.length = s.size := by simp
        omega
      have hne : s.data.toList ≠ [] := by
        rw [hsr]
        simp [recB]
      have e1 : (s.toList == ([] : List UInt8)) = false := by rw [Lib.toList_data]; exact beq_eq_false_iff_ne.2 hne
      have e2 : s.toList.isEmpty = false := by rw [Lib.toList_data]; exact List.isEmpty_eq_false_iff.2 hne
      generalize xs[i] = r at hsr hok HTK
      have hone : ∀ W, GG W → Calls Tryd.prog 17 #[.string s] W fun e w' => e = .returned (.tuple #[.agg #[.string r.f0, .string r.f1], .string ⟨(encB (xs.drop (i + 1))).toArray⟩, .int .i64 0]) ∧ Below W.heap.size W w' := fun W hG => one_c r _ s hsr hssz hok W hG
      have HONE := Aside0.mk hone
      obtain ⟨A0, c0, hv4⟩ := HO.out.slice
      subst hv4
      clear hdr hsr hok htk hssz hne hone
      go_wp2_with (first|go_skip|((with_reducible refine' lc HM ?qw rfl ?qx ?qm ?qa ?qv ?_);(case qw|qx|qa=>rfl);(case qm=>repeat constructor);(case qv=>rfl))|((with_reducible refine' la HM ?qw rfl ?qx ?qm ?qa ?_);(case qw|qx=>rfl);(case qm=>repeat constructor);(case qa=>rfl))|((with_reducible refine' pa HM ?qw rfl ?qx _ ?qy ?qm ?qa ?_);(case qw|qx|qy=>rfl);(case qm=>repeat constructor);(case qa=>rfl);clear HM;intro _ HM)|((with_reducible refine' pc HM ?qw rfl ?qx ?qa ?qy ?qm ?qo ?qi ?_);(case qw|qx|qa=>rfl);(case qy=>first|exact (rfl:_=Value.int _ _)|exact (rfl:_=Value.slice _ _ _)|exact (rfl:_=Value.string _)|exact (rfl:_=Value.bool _));(case qm=>repeat constructor);(case qo=>exact ⟨rfl,rfl⟩);(case qi=>rfl);clear HM;intro _ HM;try simp only [List.set_cons_zero,List.set_cons_succ] at HM)|((with_reducible refine' bz HM ?qw rfl ?qa ?qc ?_);(case qw|qa|qc=>rfl);clear HM;intro _ _ HM)|(go_at_call 17;refine (HONE.out _ (HG.out.below HM.out.below)).mono ?_;rintro e _ ⟨rfl, hb⟩;have hM:=HM.out.call hb;clear hb;clear HM;have HM:=Aside0.mk hM;clear hM)|((with_reducible refine' bsG HM rfl rfl ?qx (fun w=>run_bs29 w r) ?_);(case qx=>rfl);clear HM;intro _ _ HM)|((with_reducible refine gate_builtin (b:=.append) rfl ?_);go_loud (refine' addG (cs:=rec29 r) under30 inf29 rfl (by decide) (by decide) [_] HM HO rfl (rec29_one r) rfl rfl ?qs ?qx ?qn ?_;(case qs|qx=>rfl);(case qn=>exact HIN.out);clear HM;clear HO;intro vN XN _ HO HM;have hM:=HM.out;simp only [List.cons_append,List.nil_append] at hM;clear HM;have HM:=Aside0.mk hM;clear hM)))
      go_roundg gq
      case measure => omega
      case rel =>
        have e1 : cellsX rec29 [r] = rec29 r := by simp [cellsX]
        exact ⟨i + 1, _, XN, rfl, ⟨rfl⟩, ⟨by have := HI.out; omega⟩, ⟨by rw [HTK.out, cellsX_app, e1]; exact HO.out⟩, ⟨HM.out.drop.drop⟩⟩
end Go.Proofs.YtnpdgmgabkoeiaaDoor.R
