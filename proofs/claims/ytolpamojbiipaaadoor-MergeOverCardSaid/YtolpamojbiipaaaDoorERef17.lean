/- pannierref17.Over, walked by hand over Mem. Printed by wip/tools/gen_ref17.py. -/
import Derived.Test.YtolpamojbiipaaaDoorEMemWith
import Derived.Test.YtolpamojbiipaaaDoorEMemRelG
import Derived.Test.YtolpamojbiipaaaDoorUOverW
namespace Go.Proofs.YtolpamojbiipaaaDoor.XA
open Go.RowKit Go.Proofs.YtolpamojbiipaaaDoorW.PrintWords Go.Proofs.YtolpamojbiipaaaDoorW.PrintLast Go.Proofs.YtolpamojbiipaaaDoorW.PrintMore Go.Proofs.YtolpamojbiipaaaDoor.Mem Go.Proofs.YtolpamojbiipaaaDoor.Pure
set_option linter.unusedVariables false
set_option linter.unusedSimpArgs false

def rf17r7T : Bool × List (List Nat × List Nat) := (true, [([], []), ([0], [0]), ([1], [1]), ([2], [2]), ([3, 2], [2, 3]), ([2], [2]), ([4, 5, 2], [2, 4, 5]), ([6, 2], [2, 6]), ([7, 2], [2, 7]), ([8, 2], [2, 8]), ([2], [2]), ([10, 2], [2, 10]), ([11, 2], [2, 11]), ([9, 12, 2], [2, 9, 12]), ([2, 13], [2, 13])])
def rf17r7B : List Nat := [0, 1, 3, 7, 15, 7, 63, 127, 255, 511, 7, 1031, 3079, 8191, 16383]
theorem rf17r7Tab : rtab .any (opsOf Tryd.f30 7) = rf17r7T := by kernel_rfl
theorem rf17r7Bits : waitsOk rf17r7T.2 rf17r7B = true := by kernel_rfl
theorem any_to {ws xs : List S73} {i : Nat} (h : i < xs.length) (hb : badW ws xs[i] = true) : xs.any (badW ws) = true := List.any_eq_true.2 ⟨_, List.getElem_mem h, hb⟩
theorem any_no {ws xs : List S73} (h : ∀ (j : Nat) (hj : j < xs.length), badW ws xs[j] = false) : xs.any (badW ws) = false := by
  rw [← Bool.not_eq_true, List.any_eq_true]
  rintro ⟨x, hx, hb⟩
  obtain ⟨j, hj, rfl⟩ := List.getElem_of_mem hx
  rw [h j hj] at hb
  cases hb
theorem ix_at {ws : List S73} {s : ByteArray} {j : Nat} (h : ixW ws s = some j) : ws.getD j z73 = ws[j]'(ix_lt h) := by rw [List.getD_eq_getElem?_getD, List.getElem?_eq_getElem (ix_lt h)]; rfl
theorem st_take {base xs : List S73} {nw more : Int} {i : Nat} (h : i < xs.length) : (xs.take (i + 1)).foldl (stW base nw more) base = stW base nw more ((xs.take i).foldl (stW base nw more) base) xs[i] := by
  rw [List.take_succ_eq_append_getElem h, List.foldl_append]; rfl
theorem st_len (base out : List S73) (nw more : Int) (x : S73) : out.length ≤ (stW base nw more out x).length ∧ (stW base nw more out x).length ≤ out.length + 1 := by
  unfold stW
  split
  · split <;> simp
  · simp
set_option maxHeartbeats 8000000 in
set_option maxRecDepth 100000 in
theorem over17_M {w0 W : World} {P : Nat → Prop} {B : List Bx} {S : World → Prop} {Aw Ax : Option Addr} {cw cx : Nat} {ws xs : List S73} {nw nx more : Int} (hM : Mem w0 P W B S) (hSa : ∀ w, S w → Wr Aw ws w) (hSb : ∀ w, S w → Wr Ax xs w) (hca : ws.length ≤ cw) (hcb : xs.length ≤ cx)
    (hl : ws.length ≤ 4530) (hlx : xs.length ≤ 4530) (hn : 0 ≤ nw ∧ nw ≤ 4530) (hnx : 0 ≤ nx ∧ nx ≤ 4530) (hmo : 0 ≤ more ∧ more ≤ 5000) (hb : ∀ x ∈ xs, 0 ≤ x.f2 ∧ x.f2 ≤ 1000 ∧ 0 ≤ x.f4 ∧ x.f4 ≤ 4530) :
    Calls Tryd.prog 30 #[.agg #[.slice Aw ws.length cw, .int .i64 nw], .agg #[.slice Ax xs.length cx, .int .i64 nx], .int .i64 more] W fun e w' => ∃ A' c', e = .returned (.tuple #[.agg #[.slice A' (ovW ws nw xs nx more).1.length c', .int .i64 (ovW ws nw xs nx more).2.1], .int .i64 (ovW ws nw xs nx more).2.2]) ∧ (ovW ws nw xs nx more).1.length ≤ c' ∧ Mem w0 P w' B (fun w => S w ∧ Wr A' (ovW ws nw xs nx more).1 w) := by
  have HM := Aside0.mk hM
  have HSA := Aside0.mk hSa
  have HSB := Aside0.mk hSb
  have HCA := Aside0.mk hca
  have HLA := Aside0.mk (show ws.length ≤ 1000000 by omega)
  have HLW := Aside0.mk hl
  have HLX := Aside0.mk hlx
  have HB := Aside0.mk hb
  have HNB := Aside0.mk (And.intro hn (And.intro hnx hmo))
  obtain ⟨res, hres⟩ : ∃ res, res = ovW ws nw xs nx more := ⟨_, rfl⟩
  rw [← hres]
  have HR := Aside0.mk hres
  have hlzw : (ws.length : Int) ≤ 4530 := by omega
  have hlzx : (xs.length : Int) ≤ 4530 := by omega
  clear hM hSa hSb hca hcb hl hlx hn hnx hmo hb hres
  go_enter Tryd.func30, Tryd.ntmps30
  go_wp2_with (first|go_skip|((with_reducible refine gate_dst (N := 3) rfl ?_);(with_reducible refine' bn HM ?qw rfl _ ?qx ?_);(case qw|qx=>rfl);clear HM;intro g3 _ HM)|((with_reducible refine gate_dst (N := 4) rfl ?_);(with_reducible refine' bn HM ?qw rfl _ ?qx ?_);(case qw|qx=>rfl);clear HM;intro g4 _ HM)|((with_reducible refine gate_dst (N := 6) rfl ?_);(with_reducible refine' bz HM ?qw rfl ?qa ?qc ?_);(case qw|qa|qc=>rfl);clear HM;intro g6 _ HM)|((with_reducible refine gate_dst (N := 8) rfl ?_);(with_reducible refine' bz HM ?qw rfl ?qa ?qc ?_);(case qw|qa|qc=>rfl);clear HM;intro g8 _ HM)|((with_reducible refine' lc HM ?qw rfl ?qx ?qm ?qa ?qv ?_);(case qw|qx|qa=>rfl);(case qm=>repeat constructor);(case qv=>rfl))|((with_reducible refine' la HM ?qw rfl ?qx ?qm ?qa ?_);(case qw|qx=>rfl);(case qm=>repeat constructor);(case qa=>rfl))|((with_reducible refine' pa HM ?qw rfl ?qx _ ?qy ?qm ?qa ?_);(case qw|qx|qy=>rfl);(case qm=>repeat constructor);(case qa=>rfl);clear HM;intro _ HM)|((with_reducible refine' pc HM ?qw rfl ?qx ?qa ?qy ?qm ?qo ?qi ?_);(case qw|qx|qa=>rfl);(case qy=>first|exact (rfl:_=Value.int _ _)|exact (rfl:_=Value.slice _ _ _)|exact (rfl:_=Value.string _)|exact (rfl:_=Value.bool _));(case qm=>repeat constructor);(case qo=>exact ⟨rfl,rfl⟩);(case qi=>rfl);clear HM;intro _ HM;try simp only [List.set_cons_zero,List.set_cons_succ] at HM))
  go_loopw [9] (fun v9 wr => ∃ (i : Nat), v9 = .int .i64 i ∧ Aside0 (i ≤ xs.length) ∧ Aside0 (∀ (j : Nat) (hj : j < i) (h : j < xs.length), badW ws xs[j] = false) ∧ Aside0 (Mem w0 P wr ((g8, [.slice Aw ws.length cw, .int .i64 nw], 64) :: (g6, [.slice none 0 0, .int .i64 0], 64) :: (g4, [.slice Ax xs.length cx, .int .i64 nx], 64) :: (g3, [.slice Aw ws.length cw, .int .i64 nw], 64) :: B) S)) (fun v9 _ => xs.length - (intOf v9).toNat)
  case atStart => exact ⟨0, rfl, ⟨Nat.zero_le _⟩, ⟨fun j hj => absurd hj (Nat.not_lt_zero _)⟩, HM⟩
  case round =>
    clear HM
    obtain ⟨i, rfl, HII, HNO, HM⟩ := hrel
    have hib : (i : Int) ≤ 4530 := by have := HII.out; omega
    by_cases hlt : i < xs.length
    · obtain ⟨bd, hbd⟩ : ∃ bd, badW ws xs[i] = bd := ⟨_, rfl⟩
      have HBD := Aside0.mk hbd
      have hlz : (i : Int) < (xs.length : Int) := by omega
      obtain ⟨ad, ea, hx0, hx1, hx2, hx3, hx4⟩ := at_T73 (HSB.out _ HM.out.now) (i : Int) (by omega) (by omega)
      have hrd : rd_T73 xs (i : Int) = xs[i] := by unfold rd_T73; rw [Int.toNat_natCast, List.getD_eq_getElem?_getD, List.getElem?_eq_getElem hlt]; rfl
      rw [Int.toNat_natCast, hrd] at hx0 hx1 hx2 hx3 hx4
      generalize xs[i] = y at hx0 hx1 hx2 hx3 hx4 hbd
      clear hrd
      subst ea
      go_upto_region 6 with (first|go_skip|((with_reducible refine gate_dst (N := 10) rfl ?_);(with_reducible refine' bz HM ?qw rfl ?qa ?qc ?_);(case qw|qa|qc=>rfl);clear HM;intro g10 _ HM)|((with_reducible refine' lc HM ?qw rfl ?qx ?qm ?qa ?qv ?_);(case qw|qx|qa=>rfl);(case qm=>repeat constructor);(case qv=>rfl))|((with_reducible refine' la HM ?qw rfl ?qx ?qm ?qa ?_);(case qw|qx=>rfl);(case qm=>repeat constructor);(case qa=>rfl))|((with_reducible refine' pa HM ?qw rfl ?qx _ ?qy ?qm ?qa ?_);(case qw|qx|qy=>rfl);(case qm=>repeat constructor);(case qa=>rfl);clear HM;intro _ HM)|((with_reducible refine' pc HM ?qw rfl ?qx ?qa ?qy ?qm ?qo ?qi ?_);(case qw|qx|qa=>rfl);(case qy=>first|exact (rfl:_=Value.int _ _)|exact (rfl:_=Value.slice _ _ _)|exact (rfl:_=Value.string _)|exact (rfl:_=Value.bool _));(case qm=>repeat constructor);(case qo=>exact ⟨rfl,rfl⟩);(case qi=>rfl);clear HM;intro _ HM;try simp only [List.set_cons_zero,List.set_cons_succ] at HM))
      clear hx0 hx1 hx2 hx3 hx4
      cases hix : ixW ws y.f0 with
      | none =>
        have HIX := Aside0.mk hix
        unfold badW at hbd
        rw [hix] at hbd
        simp only at hbd
        subst hbd
        clear hix
        go_upto_region 7 with (first|go_skip|((with_reducible refine' lc HM ?qw rfl ?qx ?qm ?qa ?qv ?_);(case qw|qx|qa=>rfl);(case qm=>repeat constructor);(case qv=>rfl))|((with_reducible refine' la HM ?qw rfl ?qx ?qm ?qa ?_);(case qw|qx=>rfl);(case qm=>repeat constructor);(case qa=>rfl))|((with_reducible refine' pa HM ?qw rfl ?qx _ ?qy ?qm ?qa ?_);(case qw|qx|qy=>rfl);(case qm=>repeat constructor);(case qa=>rfl);clear HM;intro _ HM)|((with_reducible refine' pc HM ?qw rfl ?qx ?qa ?qy ?qm ?qo ?qi ?_);(case qw|qx|qa=>rfl);(case qy=>first|exact (rfl:_=Value.int _ _)|exact (rfl:_=Value.slice _ _ _)|exact (rfl:_=Value.string _)|exact (rfl:_=Value.bool _));(case qm=>repeat constructor);(case qo=>exact ⟨rfl,rfl⟩);(case qi=>rfl);clear HM;intro _ HM;try simp only [List.set_cons_zero,List.set_cons_succ] at HM)|(go_at_call 31; (refine (rfind_none HM.out (fun w h => HSA.out w (h)) HCA.out HLA.out HIX.out).mono ?_); rintro e _ ⟨rfl, hM⟩; clear HM;have HM:=Aside0.mk hM;clear hM))
        refine r_relA (n := 15) (fun q0 l q_ w' => Mem w0 P w' (((g10, thL y, 73) :: (g8, [.slice Aw ws.length cw, .int .i64 nw], 64) :: (g6, [.slice none 0 0, .int .i64 0], 64) :: (g4, [.slice (some ad) xs.length cx, .int .i64 nx], 64) :: (g3, [.slice Aw ws.length cw, .int .i64 nw], 64) :: B)) S ∧ Frm q0 q_ [33, 34, 35, 36, 37, 38, 39, 40, 41, 42, 43, 44, 45, 46, 47] ∧ Slots q_ l [(0, 33, Value.int .i64 (-1)), (1, 34, Value.bool false), (2, 35, Value.bool false), (3, 36, undef), (4, 37, undef), (5, 38, undef), (6, 39, undef), (7, 40, undef), (8, 41, undef), (9, 42, undef), (10, 43, undef), (11, 44, undef), (12, 45, undef), (13, 46, undef), (14, 47, Value.bool false)]) (by kernel_rfl) rf17r7Tab (by kernel_rfl) rfl rfl ?_ ?_ ?_
        · exact ⟨HM.out.drew, Frm.refl _ _, Slots.start⟩
        rotate_left
        · intro l q_ w' i o hl hi ho hr ⟨hM, hF, hS⟩ K hK
          clear HM
          obtain ⟨_, rfl⟩ := Array.getElem?_eq_some_iff.1 ho
          clear ho
          have x3 := hF.get (N:=3) (by decide) (rfl:_=Value.pointer (some ⟨g3, 0, none⟩))
          have x10 := hF.get (N:=10) (by decide) (rfl:_=Value.pointer (some ⟨g10, 0, none⟩))
          have x11 := hF.get (N:=11) (by decide) (rfl:_=Value.int .i64 (-1))
          have hz : q_.tmps.size = _ := hF.z
          have HF := Aside0.mk hF
          clear hF
          have hi2 : i < 15 := hi
          have hc : i = 0 ∨ i = 1 ∨ i = 2 ∨ i = 3 ∨ i = 4 ∨ i = 5 ∨ i = 6 ∨ i = 7 ∨ i = 8 ∨ i = 9 ∨ i = 10 ∨ i = 11 ∨ i = 12 ∨ i = 13 ∨ i = 14 := by omega
          rcases hc with rfl | rfl | rfl | rfl | rfl | rfl | rfl | rfl | rfl | rfl | rfl | rfl | rfl | rfl | rfl
          · refine k_mv (Value.int .i64 (-1)) (wanted_none rfl) (by first|exact .inl rfl|exact .inr rfl) x11 ?_
            exact hK _ _ ⟨hM, HF.out.put _ (by decide), hS.set 0 rfl (by omega) (by rw [hz]; exact Nat.le_of_ble_eq_true rfl) (show ([0, 1, 2, 3, 4, 5, 6, 7, 8, 9, 10, 11, 12, 13, 14] : List Nat).Nodup by decide) (show ([33, 34, 35, 36, 37, 38, 39, 40, 41, 42, 43, 44, 45, 46, 47] : List Nat).Nodup by decide)⟩
          · have x33 := hS.nth 0 rfl (ready_dep hr rfl (show 0 ∈ _ by decide))
            have y33 := slot_get x33
            refine k_pure (Value.bool false) (wanted_none rfl) (by first|(go_simp;done)|(go_simp;simp only [y33];done)|(go_simp;rfl)|(go_simp;simp [bne];done)|(go_simp;rw [IntKind.wrap_i64];omega)|(go_simp;simp only [y33];go_simp)) ?_
            exact hK _ _ ⟨hM, HF.out.put _ (by decide), hS.set 1 rfl (by omega) (by rw [hz]; exact Nat.le_of_ble_eq_true rfl) (show ([0, 1, 2, 3, 4, 5, 6, 7, 8, 9, 10, 11, 12, 13, 14] : List Nat).Nodup by decide) (show ([33, 34, 35, 36, 37, 38, 39, 40, 41, 42, 43, 44, 45, 46, 47] : List Nat).Nodup by decide)⟩
          · have x34 := hS.nth 1 rfl (ready_dep hr rfl (show 1 ∈ _ by decide))
            refine k_mv (Value.bool false) (wanted_none rfl) (by first|exact .inl rfl|exact .inr rfl) x34 ?_
            exact hK _ _ ⟨hM, HF.out.put _ (by decide), hS.set 2 rfl (by omega) (by rw [hz]; exact Nat.le_of_ble_eq_true rfl) (show ([0, 1, 2, 3, 4, 5, 6, 7, 8, 9, 10, 11, 12, 13, 14] : List Nat).Nodup by decide) (show ([33, 34, 35, 36, 37, 38, 39, 40, 41, 42, 43, 44, 45, 46, 47] : List Nat).Nodup by decide)⟩
          · have x35 := hS.nth 2 rfl (ready_dep hr rfl (show 2 ∈ _ by decide))
            refine k_skip (wanted_at (want := true) (b := false) rfl rfl rfl x35 (by rw [hz]; exact Nat.le_of_ble_eq_true rfl)) ?_
            exact hK _ _ ⟨hM, HF.out.put _ (by decide), hS.set 3 rfl (by omega) (by rw [hz]; exact Nat.le_of_ble_eq_true rfl) (show ([0, 1, 2, 3, 4, 5, 6, 7, 8, 9, 10, 11, 12, 13, 14] : List Nat).Nodup by decide) (show ([33, 34, 35, 36, 37, 38, 39, 40, 41, 42, 43, 44, 45, 46, 47] : List Nat).Nodup by decide)⟩
          · have x35 := hS.nth 2 rfl (ready_dep hr rfl (show 2 ∈ _ by decide))
            refine k_skip (wanted_at (want := true) (b := false) rfl rfl rfl x35 (by rw [hz]; exact Nat.le_of_ble_eq_true rfl)) ?_
            exact hK _ _ ⟨hM, HF.out.put _ (by decide), hS.set 4 rfl (by omega) (by rw [hz]; exact Nat.le_of_ble_eq_true rfl) (show ([0, 1, 2, 3, 4, 5, 6, 7, 8, 9, 10, 11, 12, 13, 14] : List Nat).Nodup by decide) (show ([33, 34, 35, 36, 37, 38, 39, 40, 41, 42, 43, 44, 45, 46, 47] : List Nat).Nodup by decide)⟩
          · have x35 := hS.nth 2 rfl (ready_dep hr rfl (show 2 ∈ _ by decide))
            refine k_skip (wanted_at (want := true) (b := false) rfl rfl rfl x35 (by rw [hz]; exact Nat.le_of_ble_eq_true rfl)) ?_
            exact hK _ _ ⟨hM, HF.out.put _ (by decide), hS.set 5 rfl (by omega) (by rw [hz]; exact Nat.le_of_ble_eq_true rfl) (show ([0, 1, 2, 3, 4, 5, 6, 7, 8, 9, 10, 11, 12, 13, 14] : List Nat).Nodup by decide) (show ([33, 34, 35, 36, 37, 38, 39, 40, 41, 42, 43, 44, 45, 46, 47] : List Nat).Nodup by decide)⟩
          · have x35 := hS.nth 2 rfl (ready_dep hr rfl (show 2 ∈ _ by decide))
            refine k_skip (wanted_at (want := true) (b := false) rfl rfl rfl x35 (by rw [hz]; exact Nat.le_of_ble_eq_true rfl)) ?_
            exact hK _ _ ⟨hM, HF.out.put _ (by decide), hS.set 6 rfl (by omega) (by rw [hz]; exact Nat.le_of_ble_eq_true rfl) (show ([0, 1, 2, 3, 4, 5, 6, 7, 8, 9, 10, 11, 12, 13, 14] : List Nat).Nodup by decide) (show ([33, 34, 35, 36, 37, 38, 39, 40, 41, 42, 43, 44, 45, 46, 47] : List Nat).Nodup by decide)⟩
          · have x35 := hS.nth 2 rfl (ready_dep hr rfl (show 2 ∈ _ by decide))
            refine k_skip (wanted_at (want := true) (b := false) rfl rfl rfl x35 (by rw [hz]; exact Nat.le_of_ble_eq_true rfl)) ?_
            exact hK _ _ ⟨hM, HF.out.put _ (by decide), hS.set 7 rfl (by omega) (by rw [hz]; exact Nat.le_of_ble_eq_true rfl) (show ([0, 1, 2, 3, 4, 5, 6, 7, 8, 9, 10, 11, 12, 13, 14] : List Nat).Nodup by decide) (show ([33, 34, 35, 36, 37, 38, 39, 40, 41, 42, 43, 44, 45, 46, 47] : List Nat).Nodup by decide)⟩
          · have x35 := hS.nth 2 rfl (ready_dep hr rfl (show 2 ∈ _ by decide))
            refine k_skip (wanted_at (want := true) (b := false) rfl rfl rfl x35 (by rw [hz]; exact Nat.le_of_ble_eq_true rfl)) ?_
            exact hK _ _ ⟨hM, HF.out.put _ (by decide), hS.set 8 rfl (by omega) (by rw [hz]; exact Nat.le_of_ble_eq_true rfl) (show ([0, 1, 2, 3, 4, 5, 6, 7, 8, 9, 10, 11, 12, 13, 14] : List Nat).Nodup by decide) (show ([33, 34, 35, 36, 37, 38, 39, 40, 41, 42, 43, 44, 45, 46, 47] : List Nat).Nodup by decide)⟩
          · have x35 := hS.nth 2 rfl (ready_dep hr rfl (show 2 ∈ _ by decide))
            refine k_skip (wanted_at (want := true) (b := false) rfl rfl rfl x35 (by rw [hz]; exact Nat.le_of_ble_eq_true rfl)) ?_
            exact hK _ _ ⟨hM, HF.out.put _ (by decide), hS.set 9 rfl (by omega) (by rw [hz]; exact Nat.le_of_ble_eq_true rfl) (show ([0, 1, 2, 3, 4, 5, 6, 7, 8, 9, 10, 11, 12, 13, 14] : List Nat).Nodup by decide) (show ([33, 34, 35, 36, 37, 38, 39, 40, 41, 42, 43, 44, 45, 46, 47] : List Nat).Nodup by decide)⟩
          · have x35 := hS.nth 2 rfl (ready_dep hr rfl (show 2 ∈ _ by decide))
            refine k_skip (wanted_at (want := true) (b := false) rfl rfl rfl x35 (by rw [hz]; exact Nat.le_of_ble_eq_true rfl)) ?_
            exact hK _ _ ⟨hM, HF.out.put _ (by decide), hS.set 10 rfl (by omega) (by rw [hz]; exact Nat.le_of_ble_eq_true rfl) (show ([0, 1, 2, 3, 4, 5, 6, 7, 8, 9, 10, 11, 12, 13, 14] : List Nat).Nodup by decide) (show ([33, 34, 35, 36, 37, 38, 39, 40, 41, 42, 43, 44, 45, 46, 47] : List Nat).Nodup by decide)⟩
          · have x35 := hS.nth 2 rfl (ready_dep hr rfl (show 2 ∈ _ by decide))
            refine k_skip (wanted_at (want := true) (b := false) rfl rfl rfl x35 (by rw [hz]; exact Nat.le_of_ble_eq_true rfl)) ?_
            exact hK _ _ ⟨hM, HF.out.put _ (by decide), hS.set 11 rfl (by omega) (by rw [hz]; exact Nat.le_of_ble_eq_true rfl) (show ([0, 1, 2, 3, 4, 5, 6, 7, 8, 9, 10, 11, 12, 13, 14] : List Nat).Nodup by decide) (show ([33, 34, 35, 36, 37, 38, 39, 40, 41, 42, 43, 44, 45, 46, 47] : List Nat).Nodup by decide)⟩
          · have x35 := hS.nth 2 rfl (ready_dep hr rfl (show 2 ∈ _ by decide))
            refine k_skip (wanted_at (want := true) (b := false) rfl rfl rfl x35 (by rw [hz]; exact Nat.le_of_ble_eq_true rfl)) ?_
            exact hK _ _ ⟨hM, HF.out.put _ (by decide), hS.set 12 rfl (by omega) (by rw [hz]; exact Nat.le_of_ble_eq_true rfl) (show ([0, 1, 2, 3, 4, 5, 6, 7, 8, 9, 10, 11, 12, 13, 14] : List Nat).Nodup by decide) (show ([33, 34, 35, 36, 37, 38, 39, 40, 41, 42, 43, 44, 45, 46, 47] : List Nat).Nodup by decide)⟩
          · have x35 := hS.nth 2 rfl (ready_dep hr rfl (show 2 ∈ _ by decide))
            refine k_skip (wanted_at (want := true) (b := false) rfl rfl rfl x35 (by rw [hz]; exact Nat.le_of_ble_eq_true rfl)) ?_
            exact hK _ _ ⟨hM, HF.out.put _ (by decide), hS.set 13 rfl (by omega) (by rw [hz]; exact Nat.le_of_ble_eq_true rfl) (show ([0, 1, 2, 3, 4, 5, 6, 7, 8, 9, 10, 11, 12, 13, 14] : List Nat).Nodup by decide) (show ([33, 34, 35, 36, 37, 38, 39, 40, 41, 42, 43, 44, 45, 46, 47] : List Nat).Nodup by decide)⟩
          · have x35 := hS.nth 2 rfl (ready_dep hr rfl (show 2 ∈ _ by decide))
            have x46 := hS.nth 13 rfl (ready_dep hr rfl (show 13 ∈ _ by decide))
            have y35 := slot_get x35
            have y46 := slot_get x46
            refine k_pure (Value.bool false) (wanted_none rfl) (by first|(go_simp;done)|(go_simp;simp only [y35, y46];done)|(go_simp;rfl)|(go_simp;simp [bne];done)|(go_simp;rw [IntKind.wrap_i64];omega)|(go_simp;simp only [y35, y46];go_simp)) ?_
            exact hK _ _ ⟨hM, HF.out.put _ (by decide), hS.set 14 rfl (by omega) (by rw [hz]; exact Nat.le_of_ble_eq_true rfl) (show ([0, 1, 2, 3, 4, 5, 6, 7, 8, 9, 10, 11, 12, 13, 14] : List Nat).Nodup by decide) (show ([33, 34, 35, 36, 37, 38, 39, 40, 41, 42, 43, 44, 45, 46, 47] : List Nat).Nodup by decide)⟩
        intro q_ w' ⟨hM, hF, hS⟩
        have hA := hS.all hF (by intro e he; simp only [List.mem_cons, List.not_mem_nil, or_false] at he; rcases he with rfl | rfl | rfl | rfl | rfl | rfl | rfl | rfl | rfl | rfl | rfl | rfl | rfl | rfl | rfl <;> exact Nat.le_of_ble_eq_true rfl) (by intro e he; simp only [List.mem_cons, List.not_mem_nil, or_false] at he; rcases he with rfl | rfl | rfl | rfl | rfl | rfl | rfl | rfl | rfl | rfl | rfl | rfl | rfl | rfl | rfl <;> exact Nat.le_of_ble_eq_true rfl) (show ([33, 34, 35, 36, 37, 38, 39, 40, 41, 42, 43, 44, 45, 46, 47] : List Nat).Nodup by decide)
        subst hA
        clear HM
        have HM := Aside0.mk hM
        clear hM hF hS
        simp only [fillAll, List.map_cons, List.map_nil, Act.put, List.setIfInBounds_toArray, List.set_cons_zero, List.set_cons_succ]
        go_wp2_with (first|go_skip|((with_reducible refine' lc HM ?qw rfl ?qx ?qm ?qa ?qv ?_);(case qw|qx|qa=>rfl);(case qm=>repeat constructor);(case qv=>rfl))|((with_reducible refine' la HM ?qw rfl ?qx ?qm ?qa ?_);(case qw|qx=>rfl);(case qm=>repeat constructor);(case qa=>rfl))|((with_reducible refine' pa HM ?qw rfl ?qx _ ?qy ?qm ?qa ?_);(case qw|qx|qy=>rfl);(case qm=>repeat constructor);(case qa=>rfl);clear HM;intro _ HM)|((with_reducible refine' pc HM ?qw rfl ?qx ?qa ?qy ?qm ?qo ?qi ?_);(case qw|qx|qa=>rfl);(case qy=>first|exact (rfl:_=Value.int _ _)|exact (rfl:_=Value.slice _ _ _)|exact (rfl:_=Value.string _)|exact (rfl:_=Value.bool _));(case qm=>repeat constructor);(case qo=>exact ⟨rfl,rfl⟩);(case qi=>rfl);clear HM;intro _ HM;try simp only [List.set_cons_zero,List.set_cons_succ] at HM))
        go_roundw
        case rel =>
          refine ⟨i + 1, by go_num, ⟨by omega⟩, ⟨fun j hj h => ?_⟩, ⟨HM.out.drop⟩⟩
          by_cases e : j = i
          · subst e; exact HBD.out
          · exact HNO.out j (by omega) h
        case measure => simp [intOf]; omega
      | some j =>
        have HIX := Aside0.mk hix
        have hjl := ix_lt hix
        have hjz : (j : Int) < (ws.length : Int) := by omega
        have hj0 : (0 : Int) ≤ (j : Int) := by omega
        obtain ⟨aw, ew, hw0, hw1, _⟩ := at_T73 (HSA.out _ HM.out.now) (j : Int) (by omega) (by omega)
        clear hw0
        subst ew
        obtain ⟨yw, hyw⟩ : ∃ yw, ws.getD j z73 = yw := ⟨_, rfl⟩
        have HSW : Aside0 (∀ w, S w → w.cell? ⟨(aw.add (j * 5)).block, (aw.add (j * 5)).off + 1, none⟩ = some (.int .i64 yw.f1)) := ⟨fun w hw => by
          obtain ⟨aw2, ew2, _, hw1, _⟩ := at_T73 (HSA.out _ hw) (j : Int) (by omega) (by omega)
          injection ew2 with ew2
          subst ew2
          rw [rd_nat73, hyw, Int.toNat_natCast] at hw1
          exact hw1⟩
        clear hw1
        unfold badW at hbd
        rw [hix] at hbd
        simp only at hbd
        rw [hyw] at hbd
        clear hix hjl
        go_upto_region 7 with (first|go_skip|((with_reducible refine' lc HM ?qw rfl ?qx ?qm ?qa ?qv ?_);(case qw|qx|qa=>rfl);(case qm=>repeat constructor);(case qv=>rfl))|((with_reducible refine' la HM ?qw rfl ?qx ?qm ?qa ?_);(case qw|qx=>rfl);(case qm=>repeat constructor);(case qa=>rfl))|((with_reducible refine' pa HM ?qw rfl ?qx _ ?qy ?qm ?qa ?_);(case qw|qx|qy=>rfl);(case qm=>repeat constructor);(case qa=>rfl);clear HM;intro _ HM)|((with_reducible refine' pc HM ?qw rfl ?qx ?qa ?qy ?qm ?qo ?qi ?_);(case qw|qx|qa=>rfl);(case qy=>first|exact (rfl:_=Value.int _ _)|exact (rfl:_=Value.slice _ _ _)|exact (rfl:_=Value.string _)|exact (rfl:_=Value.bool _));(case qm=>repeat constructor);(case qo=>exact ⟨rfl,rfl⟩);(case qi=>rfl);clear HM;intro _ HM;try simp only [List.set_cons_zero,List.set_cons_succ] at HM)|(go_at_call 31; (refine (rfind_some HM.out (fun w h => HSA.out w (h)) HCA.out HLA.out HIX.out).mono ?_); rintro e _ ⟨rfl, hM⟩; clear HM;have HM:=Aside0.mk hM;clear hM))
        have HBE := Aside0.mk hbd
        clear hbd
        refine r_relA (n := 15) (fun q0 l q_ w' => Mem w0 P w' (((g10, thL y, 73) :: (g8, [.slice (some aw) ws.length cw, .int .i64 nw], 64) :: (g6, [.slice none 0 0, .int .i64 0], 64) :: (g4, [.slice (some ad) xs.length cx, .int .i64 nx], 64) :: (g3, [.slice (some aw) ws.length cw, .int .i64 nw], 64) :: B)) S ∧ Frm q0 q_ [33, 34, 35, 36, 37, 38, 39, 40, 41, 42, 43, 44, 45, 46, 47] ∧ Slots q_ l [(0, 33, Value.int .i64 (j : Int)), (1, 34, Value.bool true), (2, 35, Value.bool true), (3, 36, Value.pointer (some ⟨g3, 0, none⟩)), (4, 37, Value.slice (some aw) ws.length cw), (5, 38, Value.int .i64 (j : Int)), (6, 39, Value.pointer (some (aw.add (j * 5)))), (7, 40, Value.pointer (some ⟨(aw.add (j * 5)).block, (aw.add (j * 5)).off + 1, none⟩)), (8, 41, Value.int .i64 yw.f1), (9, 42, Value.bool (yw.f1 == 4)), (10, 43, Value.pointer (some ⟨g10, 1, none⟩)), (11, 44, Value.int .i64 y.f1), (12, 45, Value.bool (y.f1 == 4)), (13, 46, Value.bool ((yw.f1 == 4) != (y.f1 == 4))), (14, 47, Value.bool ((yw.f1 == 4) != (y.f1 == 4)))]) (by kernel_rfl) rf17r7Tab (by kernel_rfl) rfl rfl ?_ ?_ ?_
        · exact ⟨HM.out.drew, Frm.refl _ _, Slots.start⟩
        rotate_left
        · intro l q_ w' i o hl hi ho hr ⟨hM, hF, hS⟩ K hK
          clear HM
          obtain ⟨_, rfl⟩ := Array.getElem?_eq_some_iff.1 ho
          clear ho
          have x3 := hF.get (N:=3) (by decide) (rfl:_=Value.pointer (some ⟨g3, 0, none⟩))
          have x10 := hF.get (N:=10) (by decide) (rfl:_=Value.pointer (some ⟨g10, 0, none⟩))
          have x11 := hF.get (N:=11) (by decide) (rfl:_=Value.int .i64 (j : Int))
          have hz : q_.tmps.size = _ := hF.z
          have HF := Aside0.mk hF
          clear hF
          have hi2 : i < 15 := hi
          have hc : i = 0 ∨ i = 1 ∨ i = 2 ∨ i = 3 ∨ i = 4 ∨ i = 5 ∨ i = 6 ∨ i = 7 ∨ i = 8 ∨ i = 9 ∨ i = 10 ∨ i = 11 ∨ i = 12 ∨ i = 13 ∨ i = 14 := by omega
          rcases hc with rfl | rfl | rfl | rfl | rfl | rfl | rfl | rfl | rfl | rfl | rfl | rfl | rfl | rfl | rfl
          · refine k_mv (Value.int .i64 (j : Int)) (wanted_none rfl) (by first|exact .inl rfl|exact .inr rfl) x11 ?_
            exact hK _ _ ⟨hM, HF.out.put _ (by decide), hS.set 0 rfl (by omega) (by rw [hz]; exact Nat.le_of_ble_eq_true rfl) (show ([0, 1, 2, 3, 4, 5, 6, 7, 8, 9, 10, 11, 12, 13, 14] : List Nat).Nodup by decide) (show ([33, 34, 35, 36, 37, 38, 39, 40, 41, 42, 43, 44, 45, 46, 47] : List Nat).Nodup by decide)⟩
          · have x33 := hS.nth 0 rfl (ready_dep hr rfl (show 0 ∈ _ by decide))
            have y33 := slot_get x33
            refine k_pure (Value.bool true) (wanted_none rfl) (by first|(go_simp;done)|(go_simp;simp only [y33];done)|(go_simp;rfl)|(go_simp;simp [bne];done)|(go_simp;rw [IntKind.wrap_i64];omega)|(go_simp;simp only [y33];go_simp)) ?_
            exact hK _ _ ⟨hM, HF.out.put _ (by decide), hS.set 1 rfl (by omega) (by rw [hz]; exact Nat.le_of_ble_eq_true rfl) (show ([0, 1, 2, 3, 4, 5, 6, 7, 8, 9, 10, 11, 12, 13, 14] : List Nat).Nodup by decide) (show ([33, 34, 35, 36, 37, 38, 39, 40, 41, 42, 43, 44, 45, 46, 47] : List Nat).Nodup by decide)⟩
          · have x34 := hS.nth 1 rfl (ready_dep hr rfl (show 1 ∈ _ by decide))
            refine k_mv (Value.bool true) (wanted_none rfl) (by first|exact .inl rfl|exact .inr rfl) x34 ?_
            exact hK _ _ ⟨hM, HF.out.put _ (by decide), hS.set 2 rfl (by omega) (by rw [hz]; exact Nat.le_of_ble_eq_true rfl) (show ([0, 1, 2, 3, 4, 5, 6, 7, 8, 9, 10, 11, 12, 13, 14] : List Nat).Nodup by decide) (show ([33, 34, 35, 36, 37, 38, 39, 40, 41, 42, 43, 44, 45, 46, 47] : List Nat).Nodup by decide)⟩
          · have x35 := hS.nth 2 rfl (ready_dep hr rfl (show 2 ∈ _ by decide))
            refine k_fa (Value.pointer (some ⟨g3, 0, none⟩)) (wanted_at (want := true) (b := true) rfl rfl rfl x35 (by rw [hz]; exact Nat.le_of_ble_eq_true rfl)) rfl x3 (fun w => by go_simp) ?_
            exact hK _ _ ⟨hM, HF.out.put _ (by decide), hS.set 3 rfl (by omega) (by rw [hz]; exact Nat.le_of_ble_eq_true rfl) (show ([0, 1, 2, 3, 4, 5, 6, 7, 8, 9, 10, 11, 12, 13, 14] : List Nat).Nodup by decide) (show ([33, 34, 35, 36, 37, 38, 39, 40, 41, 42, 43, 44, 45, 46, 47] : List Nat).Nodup by decide)⟩
          · have x35 := hS.nth 2 rfl (ready_dep hr rfl (show 2 ∈ _ by decide))
            have x36 := hS.nth 3 rfl (ready_dep hr rfl (show 3 ∈ _ by decide))
            refine k_cell hM (wanted_at (want := true) (b := true) rfl rfl rfl x35 (by rw [hz]; exact Nat.le_of_ble_eq_true rfl)) rfl x36 (by repeat constructor) rfl rfl ?_
            exact hK _ _ ⟨hM, HF.out.put _ (by decide), hS.set 4 rfl (by omega) (by rw [hz]; exact Nat.le_of_ble_eq_true rfl) (show ([0, 1, 2, 3, 4, 5, 6, 7, 8, 9, 10, 11, 12, 13, 14] : List Nat).Nodup by decide) (show ([33, 34, 35, 36, 37, 38, 39, 40, 41, 42, 43, 44, 45, 46, 47] : List Nat).Nodup by decide)⟩
          · have x35 := hS.nth 2 rfl (ready_dep hr rfl (show 2 ∈ _ by decide))
            refine k_mv (Value.int .i64 (j : Int)) (wanted_at (want := true) (b := true) rfl rfl rfl x35 (by rw [hz]; exact Nat.le_of_ble_eq_true rfl)) (by first|exact .inl rfl|exact .inr rfl) x11 ?_
            exact hK _ _ ⟨hM, HF.out.put _ (by decide), hS.set 5 rfl (by omega) (by rw [hz]; exact Nat.le_of_ble_eq_true rfl) (show ([0, 1, 2, 3, 4, 5, 6, 7, 8, 9, 10, 11, 12, 13, 14] : List Nat).Nodup by decide) (show ([33, 34, 35, 36, 37, 38, 39, 40, 41, 42, 43, 44, 45, 46, 47] : List Nat).Nodup by decide)⟩
          · have x35 := hS.nth 2 rfl (ready_dep hr rfl (show 2 ∈ _ by decide))
            have x37 := hS.nth 4 rfl (ready_dep hr rfl (show 4 ∈ _ by decide))
            have x38 := hS.nth 5 rfl (ready_dep hr rfl (show 5 ∈ _ by decide))
            have y37 := slot_get x37
            have y38 := slot_get x38
            refine k_pure (Value.pointer (some (aw.add (j * 5)))) (wanted_at (want := true) (b := true) rfl rfl rfl x35 (by rw [hz]; exact Nat.le_of_ble_eq_true rfl)) (by first|(go_simp;done)|(go_simp;simp only [y37, y38];done)|(go_simp;rfl)|(go_simp;simp [bne];done)|(go_simp;rw [IntKind.wrap_i64];omega)|(go_simp;simp only [y37, y38];go_simp)) ?_
            exact hK _ _ ⟨hM, HF.out.put _ (by decide), hS.set 6 rfl (by omega) (by rw [hz]; exact Nat.le_of_ble_eq_true rfl) (show ([0, 1, 2, 3, 4, 5, 6, 7, 8, 9, 10, 11, 12, 13, 14] : List Nat).Nodup by decide) (show ([33, 34, 35, 36, 37, 38, 39, 40, 41, 42, 43, 44, 45, 46, 47] : List Nat).Nodup by decide)⟩
          · have x35 := hS.nth 2 rfl (ready_dep hr rfl (show 2 ∈ _ by decide))
            have x39 := hS.nth 6 rfl (ready_dep hr rfl (show 6 ∈ _ by decide))
            refine k_fa (Value.pointer (some ⟨(aw.add (j * 5)).block, (aw.add (j * 5)).off + 1, none⟩)) (wanted_at (want := true) (b := true) rfl rfl rfl x35 (by rw [hz]; exact Nat.le_of_ble_eq_true rfl)) rfl x39 (fun w => by go_simp) ?_
            exact hK _ _ ⟨hM, HF.out.put _ (by decide), hS.set 7 rfl (by omega) (by rw [hz]; exact Nat.le_of_ble_eq_true rfl) (show ([0, 1, 2, 3, 4, 5, 6, 7, 8, 9, 10, 11, 12, 13, 14] : List Nat).Nodup by decide) (show ([33, 34, 35, 36, 37, 38, 39, 40, 41, 42, 43, 44, 45, 46, 47] : List Nat).Nodup by decide)⟩
          · have x35 := hS.nth 2 rfl (ready_dep hr rfl (show 2 ∈ _ by decide))
            have x40 := hS.nth 7 rfl (ready_dep hr rfl (show 7 ∈ _ by decide))
            refine k_ld (wanted_at (want := true) (b := true) rfl rfl rfl x35 (by rw [hz]; exact Nat.le_of_ble_eq_true rfl)) rfl x40 rfl ((HSW.out _ hM.now)) ?_
            exact hK _ _ ⟨hM, HF.out.put _ (by decide), hS.set 8 rfl (by omega) (by rw [hz]; exact Nat.le_of_ble_eq_true rfl) (show ([0, 1, 2, 3, 4, 5, 6, 7, 8, 9, 10, 11, 12, 13, 14] : List Nat).Nodup by decide) (show ([33, 34, 35, 36, 37, 38, 39, 40, 41, 42, 43, 44, 45, 46, 47] : List Nat).Nodup by decide)⟩
          · have x35 := hS.nth 2 rfl (ready_dep hr rfl (show 2 ∈ _ by decide))
            have x41 := hS.nth 8 rfl (ready_dep hr rfl (show 8 ∈ _ by decide))
            have y41 := slot_get x41
            refine k_pure (Value.bool (yw.f1 == 4)) (wanted_at (want := true) (b := true) rfl rfl rfl x35 (by rw [hz]; exact Nat.le_of_ble_eq_true rfl)) (by first|(go_simp;done)|(go_simp;simp only [y41];done)|(go_simp;rfl)|(go_simp;simp [bne];done)|(go_simp;rw [IntKind.wrap_i64];omega)|(go_simp;simp only [y41];go_simp)) ?_
            exact hK _ _ ⟨hM, HF.out.put _ (by decide), hS.set 9 rfl (by omega) (by rw [hz]; exact Nat.le_of_ble_eq_true rfl) (show ([0, 1, 2, 3, 4, 5, 6, 7, 8, 9, 10, 11, 12, 13, 14] : List Nat).Nodup by decide) (show ([33, 34, 35, 36, 37, 38, 39, 40, 41, 42, 43, 44, 45, 46, 47] : List Nat).Nodup by decide)⟩
          · have x35 := hS.nth 2 rfl (ready_dep hr rfl (show 2 ∈ _ by decide))
            refine k_fa (Value.pointer (some ⟨g10, 1, none⟩)) (wanted_at (want := true) (b := true) rfl rfl rfl x35 (by rw [hz]; exact Nat.le_of_ble_eq_true rfl)) rfl x10 (fun w => by go_simp) ?_
            exact hK _ _ ⟨hM, HF.out.put _ (by decide), hS.set 10 rfl (by omega) (by rw [hz]; exact Nat.le_of_ble_eq_true rfl) (show ([0, 1, 2, 3, 4, 5, 6, 7, 8, 9, 10, 11, 12, 13, 14] : List Nat).Nodup by decide) (show ([33, 34, 35, 36, 37, 38, 39, 40, 41, 42, 43, 44, 45, 46, 47] : List Nat).Nodup by decide)⟩
          · have x35 := hS.nth 2 rfl (ready_dep hr rfl (show 2 ∈ _ by decide))
            have x43 := hS.nth 10 rfl (ready_dep hr rfl (show 10 ∈ _ by decide))
            refine k_cell hM (wanted_at (want := true) (b := true) rfl rfl rfl x35 (by rw [hz]; exact Nat.le_of_ble_eq_true rfl)) rfl x43 (by repeat constructor) rfl rfl ?_
            exact hK _ _ ⟨hM, HF.out.put _ (by decide), hS.set 11 rfl (by omega) (by rw [hz]; exact Nat.le_of_ble_eq_true rfl) (show ([0, 1, 2, 3, 4, 5, 6, 7, 8, 9, 10, 11, 12, 13, 14] : List Nat).Nodup by decide) (show ([33, 34, 35, 36, 37, 38, 39, 40, 41, 42, 43, 44, 45, 46, 47] : List Nat).Nodup by decide)⟩
          · have x35 := hS.nth 2 rfl (ready_dep hr rfl (show 2 ∈ _ by decide))
            have x44 := hS.nth 11 rfl (ready_dep hr rfl (show 11 ∈ _ by decide))
            have y44 := slot_get x44
            refine k_pure (Value.bool (y.f1 == 4)) (wanted_at (want := true) (b := true) rfl rfl rfl x35 (by rw [hz]; exact Nat.le_of_ble_eq_true rfl)) (by first|(go_simp;done)|(go_simp;simp only [y44];done)|(go_simp;rfl)|(go_simp;simp [bne];done)|(go_simp;rw [IntKind.wrap_i64];omega)|(go_simp;simp only [y44];go_simp)) ?_
            exact hK _ _ ⟨hM, HF.out.put _ (by decide), hS.set 12 rfl (by omega) (by rw [hz]; exact Nat.le_of_ble_eq_true rfl) (show ([0, 1, 2, 3, 4, 5, 6, 7, 8, 9, 10, 11, 12, 13, 14] : List Nat).Nodup by decide) (show ([33, 34, 35, 36, 37, 38, 39, 40, 41, 42, 43, 44, 45, 46, 47] : List Nat).Nodup by decide)⟩
          · have x35 := hS.nth 2 rfl (ready_dep hr rfl (show 2 ∈ _ by decide))
            have x42 := hS.nth 9 rfl (ready_dep hr rfl (show 9 ∈ _ by decide))
            have x45 := hS.nth 12 rfl (ready_dep hr rfl (show 12 ∈ _ by decide))
            have y42 := slot_get x42
            have y45 := slot_get x45
            refine k_pure (Value.bool ((yw.f1 == 4) != (y.f1 == 4))) (wanted_at (want := true) (b := true) rfl rfl rfl x35 (by rw [hz]; exact Nat.le_of_ble_eq_true rfl)) (by first|(go_simp;done)|(go_simp;simp only [y42, y45];done)|(go_simp;rfl)|(go_simp;simp [bne];done)|(go_simp;rw [IntKind.wrap_i64];omega)|(go_simp;simp only [y42, y45];go_simp)) ?_
            exact hK _ _ ⟨hM, HF.out.put _ (by decide), hS.set 13 rfl (by omega) (by rw [hz]; exact Nat.le_of_ble_eq_true rfl) (show ([0, 1, 2, 3, 4, 5, 6, 7, 8, 9, 10, 11, 12, 13, 14] : List Nat).Nodup by decide) (show ([33, 34, 35, 36, 37, 38, 39, 40, 41, 42, 43, 44, 45, 46, 47] : List Nat).Nodup by decide)⟩
          · have x35 := hS.nth 2 rfl (ready_dep hr rfl (show 2 ∈ _ by decide))
            have x46 := hS.nth 13 rfl (ready_dep hr rfl (show 13 ∈ _ by decide))
            have y35 := slot_get x35
            have y46 := slot_get x46
            refine k_pure (Value.bool ((yw.f1 == 4) != (y.f1 == 4))) (wanted_none rfl) (by first|(go_simp;done)|(go_simp;simp only [y35, y46];done)|(go_simp;rfl)|(go_simp;simp [bne];done)|(go_simp;rw [IntKind.wrap_i64];omega)|(go_simp;simp only [y35, y46];go_simp)) ?_
            exact hK _ _ ⟨hM, HF.out.put _ (by decide), hS.set 14 rfl (by omega) (by rw [hz]; exact Nat.le_of_ble_eq_true rfl) (show ([0, 1, 2, 3, 4, 5, 6, 7, 8, 9, 10, 11, 12, 13, 14] : List Nat).Nodup by decide) (show ([33, 34, 35, 36, 37, 38, 39, 40, 41, 42, 43, 44, 45, 46, 47] : List Nat).Nodup by decide)⟩
        intro q_ w' ⟨hM, hF, hS⟩
        have hA := hS.all hF (by intro e he; simp only [List.mem_cons, List.not_mem_nil, or_false] at he; rcases he with rfl | rfl | rfl | rfl | rfl | rfl | rfl | rfl | rfl | rfl | rfl | rfl | rfl | rfl | rfl <;> exact Nat.le_of_ble_eq_true rfl) (by intro e he; simp only [List.mem_cons, List.not_mem_nil, or_false] at he; rcases he with rfl | rfl | rfl | rfl | rfl | rfl | rfl | rfl | rfl | rfl | rfl | rfl | rfl | rfl | rfl <;> exact Nat.le_of_ble_eq_true rfl) (show ([33, 34, 35, 36, 37, 38, 39, 40, 41, 42, 43, 44, 45, 46, 47] : List Nat).Nodup by decide)
        subst hA
        clear HM
        have HM := Aside0.mk hM
        clear hM hF hS
        simp only [fillAll, List.map_cons, List.map_nil, Act.put, List.setIfInBounds_toArray, List.set_cons_zero, List.set_cons_succ]
        have hbd := HBE.out
        rw [hbd]
        cases bd with
        | true =>
          have HOV : Aside0 (res = (ws, nw, 130)) := ⟨by rw [HR.out]; unfold ovW; rw [if_pos (any_to hlt HBD.out)]⟩
          clear hbd
          go_wp2_with (first|go_skip|((with_reducible refine' lc HM ?qw rfl ?qx ?qm ?qa ?qv ?_);(case qw|qx|qa=>rfl);(case qm=>repeat constructor);(case qv=>rfl))|((with_reducible refine' la HM ?qw rfl ?qx ?qm ?qa ?_);(case qw|qx=>rfl);(case qm=>repeat constructor);(case qa=>rfl))|((with_reducible refine' pa HM ?qw rfl ?qx _ ?qy ?qm ?qa ?_);(case qw|qx|qy=>rfl);(case qm=>repeat constructor);(case qa=>rfl);clear HM;intro _ HM)|((with_reducible refine' pc HM ?qw rfl ?qx ?qa ?qy ?qm ?qo ?qi ?_);(case qw|qx|qa=>rfl);(case qy=>first|exact (rfl:_=Value.int _ _)|exact (rfl:_=Value.slice _ _ _)|exact (rfl:_=Value.string _)|exact (rfl:_=Value.bool _));(case qm=>repeat constructor);(case qo=>exact ⟨rfl,rfl⟩);(case qi=>rfl);clear HM;intro _ HM;try simp only [List.set_cons_zero,List.set_cons_succ] at HM))
          refine bodyPost_ret (ret_ct HM.out rfl rfl (by first | exact m0 | exact m1 | exact m2 | exact m3) (by exact agg64)) rfl ?_
          rw [HOV.out]
          exact ⟨_, _, rfl, HCA.out, (HM.out.drop.drop.drop.drop.drop).imp (fun w h => ⟨h, HSA.out w h⟩)⟩
        | false =>
          clear hbd
          go_wp2_with (first|go_skip|((with_reducible refine' lc HM ?qw rfl ?qx ?qm ?qa ?qv ?_);(case qw|qx|qa=>rfl);(case qm=>repeat constructor);(case qv=>rfl))|((with_reducible refine' la HM ?qw rfl ?qx ?qm ?qa ?_);(case qw|qx=>rfl);(case qm=>repeat constructor);(case qa=>rfl))|((with_reducible refine' pa HM ?qw rfl ?qx _ ?qy ?qm ?qa ?_);(case qw|qx|qy=>rfl);(case qm=>repeat constructor);(case qa=>rfl);clear HM;intro _ HM)|((with_reducible refine' pc HM ?qw rfl ?qx ?qa ?qy ?qm ?qo ?qi ?_);(case qw|qx|qa=>rfl);(case qy=>first|exact (rfl:_=Value.int _ _)|exact (rfl:_=Value.slice _ _ _)|exact (rfl:_=Value.string _)|exact (rfl:_=Value.bool _));(case qm=>repeat constructor);(case qo=>exact ⟨rfl,rfl⟩);(case qi=>rfl);clear HM;intro _ HM;try simp only [List.set_cons_zero,List.set_cons_succ] at HM))
          go_roundw
          case rel =>
            refine ⟨i + 1, by go_num, ⟨by omega⟩, ⟨fun j hj h => ?_⟩, ⟨HM.out.drop⟩⟩
            by_cases e : j = i
            · subst e; exact HBD.out
            · exact HNO.out j (by omega) h
          case measure => simp [intOf]; omega
    · have hil : i = xs.length := by have := HII.out; omega
      subst hil
      have HOV : Aside0 (res = ((xs.foldl (stW ws nw more) ws), nw + nx, 0)) := ⟨by rw [HR.out]; unfold ovW; rw [if_neg (by rw [any_no (fun j hj => HNO.out j hj hj)]; decide)]⟩
      have hlz : ¬ ((xs.length : Int) < (xs.length : Int)) := by omega
      clear HNO HII HR
      have HM2 := HM.out.imp (S' := fun w => S w ∧ Wr Aw ws w) (fun w h => ⟨h, HSA.out w h⟩)
      clear HM
      have HM := Aside0.mk HM2
      clear HM2
      go_wp2_with (first|go_skip|((with_reducible refine' lc HM ?qw rfl ?qx ?qm ?qa ?qv ?_);(case qw|qx|qa=>rfl);(case qm=>repeat constructor);(case qv=>rfl))|((with_reducible refine' la HM ?qw rfl ?qx ?qm ?qa ?_);(case qw|qx=>rfl);(case qm=>repeat constructor);(case qa=>rfl))|((with_reducible refine' pa HM ?qw rfl ?qx _ ?qy ?qm ?qa ?_);(case qw|qx|qy=>rfl);(case qm=>repeat constructor);(case qa=>rfl);clear HM;intro _ HM)|((with_reducible refine' pc HM ?qw rfl ?qx ?qa ?qy ?qm ?qo ?qi ?_);(case qw|qx|qa=>rfl);(case qy=>first|exact (rfl:_=Value.int _ _)|exact (rfl:_=Value.slice _ _ _)|exact (rfl:_=Value.string _)|exact (rfl:_=Value.bool _));(case qm=>repeat constructor);(case qo=>exact ⟨rfl,rfl⟩);(case qi=>rfl);clear HM;intro _ HM;try simp only [List.set_cons_zero,List.set_cons_succ] at HM))
      go_loopw [12] (fun v12 wr => ∃ (i : Nat) (O : List S73) (A : Option Addr) (c : Nat), v12 = .int .i64 i ∧ Aside0 (i ≤ xs.length) ∧ Aside0 ((xs.take i).foldl (stW ws nw more) ws = O) ∧ Aside0 (O.length ≤ c) ∧ Aside0 (ws.length ≤ O.length ∧ O.length ≤ ws.length + i) ∧ Aside0 (Mem w0 P wr ((g8, [.slice A O.length c, .int .i64 nw], 64) :: (g6, [.slice none 0 0, .int .i64 0], 64) :: (g4, [.slice Ax xs.length cx, .int .i64 nx], 64) :: (g3, [.slice Aw ws.length cw, .int .i64 nw], 64) :: B) (fun w => S w ∧ Wr A O w))) (fun v12 _ => xs.length - (intOf v12).toNat)
      case atStart => exact ⟨0, ws, Aw, cw, rfl, ⟨Nat.zero_le _⟩, ⟨rfl⟩, HCA, ⟨Nat.le_refl _, Nat.le_refl _⟩, HM⟩
      case round =>
        clear HM
        obtain ⟨i, O, A, c, rfl, HII, HO, HC, HLO1, HM⟩ := hrel
        have hib : (i : Int) ≤ 4530 := by have := HII.out; have := HLX.out; omega
        have hoz : (O.length : Int) ≤ 9060 := by have := HLO1.out; have := HLX.out; have := HLW.out; have := HII.out; omega
        have HLO := Aside0.mk (show O.length ≤ 100000 by omega)
        have HLO2 := Aside0.mk (show O.length ≤ 90000 by omega)
        by_cases hlt : i < xs.length
        · have hst := st_take (base := ws) (nw := nw) (more := more) hlt
          rw [HO.out] at hst
          have hbx := HB.out _ (List.getElem_mem hlt)
          have hlz : (i : Int) < (xs.length : Int) := by omega
          obtain ⟨ad, ea, hx0, hx1, hx2, hx3, hx4⟩ := at_T73 (HSB.out _ HM.out.now.1) (i : Int) (by omega) (by omega)
          have hrd : rd_T73 xs (i : Int) = xs[i] := by unfold rd_T73; rw [Int.toNat_natCast, List.getD_eq_getElem?_getD, List.getElem?_eq_getElem hlt]; rfl
          rw [Int.toNat_natCast, hrd] at hx0 hx1 hx2 hx3 hx4
          generalize xs[i] = y at hx0 hx1 hx2 hx3 hx4 hst hbx
          clear hrd
          subst ea
          have HLL := st_len ws O nw more y
          have HNX : Aside0 (ws.length ≤ (stW ws nw more O y).length ∧ (stW ws nw more O y).length ≤ ws.length + (i + 1)) := ⟨by have := HLO1.out; omega⟩
          clear HLL
          have HST := Aside0.mk hst
          have HBX := Aside0.mk hbx
          clear hst hbx
          go_upto_region 13 with (first|go_skip|((with_reducible refine gate_dst (N := 13) rfl ?_);(with_reducible refine' bz HM ?qw rfl ?qa ?qc ?_);(case qw|qa|qc=>rfl);clear HM;intro g13 _ HM)|((with_reducible refine' lc HM ?qw rfl ?qx ?qm ?qa ?qv ?_);(case qw|qx|qa=>rfl);(case qm=>repeat constructor);(case qv=>rfl))|((with_reducible refine' la HM ?qw rfl ?qx ?qm ?qa ?_);(case qw|qx=>rfl);(case qm=>repeat constructor);(case qa=>rfl))|((with_reducible refine' pa HM ?qw rfl ?qx _ ?qy ?qm ?qa ?_);(case qw|qx|qy=>rfl);(case qm=>repeat constructor);(case qa=>rfl);clear HM;intro _ HM)|((with_reducible refine' pc HM ?qw rfl ?qx ?qa ?qy ?qm ?qo ?qi ?_);(case qw|qx|qa=>rfl);(case qy=>first|exact (rfl:_=Value.int _ _)|exact (rfl:_=Value.slice _ _ _)|exact (rfl:_=Value.string _)|exact (rfl:_=Value.bool _));(case qm=>repeat constructor);(case qo=>exact ⟨rfl,rfl⟩);(case qi=>rfl);clear HM;intro _ HM;try simp only [List.set_cons_zero,List.set_cons_succ] at HM))
          clear hx0 hx1 hx2 hx3 hx4
          have hw1 : wrap64 (y.f4 + nw) = y.f4 + nw := by have := HBX.out; have := HNB.out; exact w64 (by omega) (by omega)
          have hw2 : wrap64 (y.f2 + more) = y.f2 + more := by have := HBX.out; have := HNB.out; exact w64 (by omega) (by omega)
          have HW1 := Aside0.mk hw1
          have HW2 := Aside0.mk hw2
          clear hw1 hw2
          cases hix : ixW ws y.f0 with
          | none =>
            have HIX := Aside0.mk hix
            have HEQ : Aside0 (stW ws nw more O y = O ++ [⟨y.f0, y.f1, y.f2 + more, y.f3, y.f4 + nw⟩]) := ⟨by unfold stW mgW; rw [hix]⟩
            clear hix
            go_upto_region 17 with (first|go_skip|((with_reducible refine' lc HM ?qw rfl ?qx ?qm ?qa ?qv ?_);(case qw|qx|qa=>rfl);(case qm=>repeat constructor);(case qv=>rfl))|((with_reducible refine' la HM ?qw rfl ?qx ?qm ?qa ?_);(case qw|qx=>rfl);(case qm=>repeat constructor);(case qa=>rfl))|((with_reducible refine' pa HM ?qw rfl ?qx _ ?qy ?qm ?qa ?_);(case qw|qx|qy=>rfl);(case qm=>repeat constructor);(case qa=>rfl);clear HM;intro _ HM)|((with_reducible refine' pc HM ?qw rfl ?qx ?qa ?qy ?qm ?qo ?qi ?_);(case qw|qx|qa=>rfl);(case qy=>first|exact (rfl:_=Value.int _ _)|exact (rfl:_=Value.slice _ _ _)|exact (rfl:_=Value.string _)|exact (rfl:_=Value.bool _));(case qm=>repeat constructor);(case qo=>exact ⟨rfl,rfl⟩);(case qi=>rfl);clear HM;intro _ HM;try simp only [List.set_cons_zero,List.set_cons_succ] at HM)|(go_at_call 31; (refine (rfind_none HM.out (fun w h => HSA.out w (h.1)) HCA.out HLA.out HIX.out).mono ?_); rintro e _ ⟨rfl, hM⟩; clear HM;have HM:=Aside0.mk hM;clear hM))
            obtain ⟨y2, hy2⟩ : ∃ y2 : S73, y2 = ⟨y.f0, y.f1, y.f2 + more, y.f3, y.f4 + nw⟩ := ⟨_, rfl⟩
            rw [← hy2] at HEQ
            have hM := HM.out
            rw [HW1.out, HW2.out, show [Value.string y.f0, .int .i64 y.f1, .int .i64 (y.f2 + more), .bool y.f3, .int .i64 (y.f4 + nw)] = thL y2 by rw [hy2]; rfl] at hM
            clear HM hy2
            have HM := Aside0.mk hM
            clear hM
            go_upto_region 20 with (first|go_skip|((with_reducible refine' lc HM ?qw rfl ?qx ?qm ?qa ?qv ?_);(case qw|qx|qa=>rfl);(case qm=>repeat constructor);(case qv=>rfl))|((with_reducible refine' la HM ?qw rfl ?qx ?qm ?qa ?_);(case qw|qx=>rfl);(case qm=>repeat constructor);(case qa=>rfl))|((with_reducible refine' pa HM ?qw rfl ?qx _ ?qy ?qm ?qa ?_);(case qw|qx|qy=>rfl);(case qm=>repeat constructor);(case qa=>rfl);clear HM;intro _ HM)|((with_reducible refine' pc HM ?qw rfl ?qx ?qa ?qy ?qm ?qo ?qi ?_);(case qw|qx|qa=>rfl);(case qy=>first|exact (rfl:_=Value.int _ _)|exact (rfl:_=Value.slice _ _ _)|exact (rfl:_=Value.string _)|exact (rfl:_=Value.bool _));(case qm=>repeat constructor);(case qo=>exact ⟨rfl,rfl⟩);(case qi=>rfl);clear HM;intro _ HM;try simp only [List.set_cons_zero,List.set_cons_succ] at HM)|((with_reducible refine' bs0L HM rfl rfl ?_);clear HM;intro _ _ HM)|((with_reducible refine gate_builtin (b:=.append) rfl ?_);(with_reducible refine' copy73 HM rfl rfl ?qs ?qx ?qS ?qn ?_);(case qs|qx=>rfl);(case qS=>exact fun _ h=>h.2);(case qn=>exact HLO.out);clear HM;intro vO XO _ HOW HM;obtain ⟨AO,cO,rfl⟩:=HOW.out.slice;have hM:=HM.out;simp only [List.cons_append,List.nil_append] at hM;clear HM;have HM:=Aside0.mk hM;clear hM))
            go_wp2_with (first|go_skip|((with_reducible refine' lc HM ?qw rfl ?qx ?qm ?qa ?qv ?_);(case qw|qx|qa=>rfl);(case qm=>repeat constructor);(case qv=>rfl))|((with_reducible refine' la HM ?qw rfl ?qx ?qm ?qa ?_);(case qw|qx=>rfl);(case qm=>repeat constructor);(case qa=>rfl))|((with_reducible refine' pa HM ?qw rfl ?qx _ ?qy ?qm ?qa ?_);(case qw|qx|qy=>rfl);(case qm=>repeat constructor);(case qa=>rfl);clear HM;intro _ HM)|((with_reducible refine' pc HM ?qw rfl ?qx ?qa ?qy ?qm ?qo ?qi ?_);(case qw|qx|qa=>rfl);(case qy=>first|exact (rfl:_=Value.int _ _)|exact (rfl:_=Value.slice _ _ _)|exact (rfl:_=Value.string _)|exact (rfl:_=Value.bool _));(case qm=>repeat constructor);(case qo=>exact ⟨rfl,rfl⟩);(case qi=>rfl);clear HM;intro _ HM;try simp only [List.set_cons_zero,List.set_cons_succ] at HM)|((with_reducible refine' bs1L (z:=y2) HM rfl rfl ?qx ?_);(case qx=>rfl);clear HM;intro _ _ HM)|((with_reducible refine gate_builtin (b:=.append) rfl ?_);refine' add73 (z:=y2) ((g13, thL y2, 73) :: (g8, [.slice A O.length c, .int .i64 nw], 64) :: (g6, [.slice none 0 0, .int .i64 0], 64) :: (g4, [.slice (some ad) xs.length cx, .int .i64 nx], 64) :: (g3, [.slice Aw ws.length cw, .int .i64 nw], 64) :: B) HM HOW rfl rfl ?qs ?qx ?qn ?_;(case qs|qx=>rfl);(case qn=>exact HLO2.out);clear HM;clear HOW;intro vN XN _ HOW HM;obtain ⟨AN,cN,rfl⟩:=HOW.out.slice;have hM:=HM.out;simp only [List.cons_append,List.nil_append] at hM;clear HM;have HM:=Aside0.mk hM;clear hM))
            obtain ⟨A2, c2, hv, hc2, hM2⟩ := handX sx73 (B := _ :: _ :: _ :: _ :: _ :: _ :: B) (by simpa only [List.cons_append] using HM.out) HOW.out
            injection hv with e1 e2 e3
            subst e1 e3
            have hM3 := hM2.drop.drop.imp (S' := fun w => S w ∧ Wr _ (O ++ [y2]) w) (fun w h => ⟨h.1.1, h.2⟩)
            rw [show O.length + 1 = (O ++ [y2]).length by simp] at hM3
            go_roundw
            case rel => exact ⟨i + 1, O ++ [y2], _, _, by go_num, ⟨by omega⟩, ⟨HST.out.trans HEQ.out⟩, ⟨hc2⟩, ⟨by have := HNX.out; rw [HEQ.out] at this; exact this⟩, ⟨hM3⟩⟩
            case measure => simp [intOf]; omega
          | some j =>
            have HIX := Aside0.mk hix
            have hjl := ix_lt hix
            have hjo : j < O.length := by have := HLO1.out; omega
            have hjz : (j : Int) < (ws.length : Int) := by omega
            have hjoz : (j : Int) < (O.length : Int) := by omega
            have hj0 : (0 : Int) ≤ (j : Int) := by omega
            have HEQ := Aside0.mk (show stW ws nw more O y = if y.f3 = true then O else O.set j (mgW (some (ws.getD j z73)) y nw more) by unfold stW; rw [hix])
            obtain ⟨aw, ew, hw0, hw1, hw2, hw3, hw4⟩ := at_T73 (HSA.out _ HM.out.now.1) (j : Int) (by omega) (by omega)
            clear hw0 hw1 hw2 hw3
            rw [rd_nat73, Int.toNat_natCast] at hw4
            subst ew
            obtain ⟨yw, hyw⟩ : ∃ yw, ws.getD j z73 = yw := ⟨_, rfl⟩
            have HYW := Aside0.mk hyw
            rw [hyw] at HEQ hw4
            clear hyw
            clear hix hjl
            cases h3 : y.f3 with
            | true =>
              rw [h3, if_pos rfl] at HEQ
              have hM := HM.out
              go_upto_region 14 with (first|go_skip|((with_reducible refine' lc HM ?qw rfl ?qx ?qm ?qa ?qv ?_);(case qw|qx|qa=>rfl);(case qm=>repeat constructor);(case qv=>rfl))|((with_reducible refine' la HM ?qw rfl ?qx ?qm ?qa ?_);(case qw|qx=>rfl);(case qm=>repeat constructor);(case qa=>rfl))|((with_reducible refine' pa HM ?qw rfl ?qx _ ?qy ?qm ?qa ?_);(case qw|qx|qy=>rfl);(case qm=>repeat constructor);(case qa=>rfl);clear HM;intro _ HM)|((with_reducible refine' pc HM ?qw rfl ?qx ?qa ?qy ?qm ?qo ?qi ?_);(case qw|qx|qa=>rfl);(case qy=>first|exact (rfl:_=Value.int _ _)|exact (rfl:_=Value.slice _ _ _)|exact (rfl:_=Value.string _)|exact (rfl:_=Value.bool _));(case qm=>repeat constructor);(case qo=>exact ⟨rfl,rfl⟩);(case qi=>rfl);clear HM;intro _ HM;try simp only [List.set_cons_zero,List.set_cons_succ] at HM)|(go_at_call 31; (refine (rfind_some HM.out (fun w h => HSA.out w (h.1)) HCA.out HLA.out HIX.out).mono ?_); rintro e _ ⟨rfl, hM⟩; clear HM;have HM:=Aside0.mk hM;clear hM))
              clear hw4 hM
              go_wp2_with (first|go_skip|((with_reducible refine' lc HM ?qw rfl ?qx ?qm ?qa ?qv ?_);(case qw|qx|qa=>rfl);(case qm=>repeat constructor);(case qv=>rfl))|((with_reducible refine' la HM ?qw rfl ?qx ?qm ?qa ?_);(case qw|qx=>rfl);(case qm=>repeat constructor);(case qa=>rfl))|((with_reducible refine' pa HM ?qw rfl ?qx _ ?qy ?qm ?qa ?_);(case qw|qx|qy=>rfl);(case qm=>repeat constructor);(case qa=>rfl);clear HM;intro _ HM)|((with_reducible refine' pc HM ?qw rfl ?qx ?qa ?qy ?qm ?qo ?qi ?_);(case qw|qx|qa=>rfl);(case qy=>first|exact (rfl:_=Value.int _ _)|exact (rfl:_=Value.slice _ _ _)|exact (rfl:_=Value.string _)|exact (rfl:_=Value.bool _));(case qm=>repeat constructor);(case qo=>exact ⟨rfl,rfl⟩);(case qi=>rfl);clear HM;intro _ HM;try simp only [List.set_cons_zero,List.set_cons_succ] at HM))
              go_roundw
              case rel => exact ⟨i + 1, O, _, _, by go_num, ⟨by omega⟩, ⟨HST.out.trans HEQ.out⟩, HC, ⟨by have := HNX.out; rw [HEQ.out] at this; exact this⟩, ⟨HM.out.drop⟩⟩
              case measure => simp [intOf]; omega
            | false =>
              rw [h3, if_neg (by decide)] at HEQ
              unfold mgW at HEQ
              simp only at HEQ
              rw [h3, if_neg (by decide)] at HEQ
              by_cases h4 : y.f1 = 4
              · rw [if_pos h4] at HEQ
                have k4 : (y.f1 == 4) = true := beq_iff_eq.2 h4
                clear h4
                go_upto_region 18 with (first|go_skip|((with_reducible refine' lc HM ?qw rfl ?qx ?qm ?qa ?qv ?_);(case qw|qx|qa=>rfl);(case qm=>repeat constructor);(case qv=>rfl))|((with_reducible refine' la HM ?qw rfl ?qx ?qm ?qa ?_);(case qw|qx=>rfl);(case qm=>repeat constructor);(case qa=>rfl))|((with_reducible refine' pa HM ?qw rfl ?qx _ ?qy ?qm ?qa ?_);(case qw|qx|qy=>rfl);(case qm=>repeat constructor);(case qa=>rfl);clear HM;intro _ HM)|((with_reducible refine' pc HM ?qw rfl ?qx ?qa ?qy ?qm ?qo ?qi ?_);(case qw|qx|qa=>rfl);(case qy=>first|exact (rfl:_=Value.int _ _)|exact (rfl:_=Value.slice _ _ _)|exact (rfl:_=Value.string _)|exact (rfl:_=Value.bool _));(case qm=>repeat constructor);(case qo=>exact ⟨rfl,rfl⟩);(case qi=>rfl);clear HM;intro _ HM;try simp only [List.set_cons_zero,List.set_cons_succ] at HM)|(go_at_call 31; (refine (rfind_some HM.out (fun w h => HSA.out w (h.1)) HCA.out HLA.out HIX.out).mono ?_); rintro e _ ⟨rfl, hM⟩; clear HM;have HM:=Aside0.mk hM;clear hM))
                have hcw := (HSA.out _ HM.out.now.1)
                obtain ⟨aw2, ew2, _, _, _, _, hw5⟩ := at_T73 hcw (j : Int) (by omega) (by omega)
                injection ew2 with ew2
                subst ew2
                rw [rd_nat73, HYW.out, Int.toNat_natCast] at hw5
                clear hw4 hcw
                go_upto_region 19 with (first|go_skip|((with_reducible refine' lc HM ?qw rfl ?qx ?qm ?qa ?qv ?_);(case qw|qx|qa=>rfl);(case qm=>repeat constructor);(case qv=>rfl))|((with_reducible refine' la HM ?qw rfl ?qx ?qm ?qa ?_);(case qw|qx=>rfl);(case qm=>repeat constructor);(case qa=>rfl))|((with_reducible refine' pa HM ?qw rfl ?qx _ ?qy ?qm ?qa ?_);(case qw|qx|qy=>rfl);(case qm=>repeat constructor);(case qa=>rfl);clear HM;intro _ HM)|((with_reducible refine' pc HM ?qw rfl ?qx ?qa ?qy ?qm ?qo ?qi ?_);(case qw|qx|qa=>rfl);(case qy=>first|exact (rfl:_=Value.int _ _)|exact (rfl:_=Value.slice _ _ _)|exact (rfl:_=Value.string _)|exact (rfl:_=Value.bool _));(case qm=>repeat constructor);(case qo=>exact ⟨rfl,rfl⟩);(case qi=>rfl);clear HM;intro _ HM;try simp only [List.set_cons_zero,List.set_cons_succ] at HM))
                clear hw5
                obtain ⟨y2, hy2⟩ : ∃ y2 : S73, y2 = ⟨y.f0, y.f1, y.f2 + more, y.f3, yw.f4⟩ := ⟨_, rfl⟩
                rw [← h3, ← hy2] at HEQ
                have hM := HM.out
                (try rw [HW1.out] at hM)
                rw [HW2.out, show [Value.string y.f0, .int .i64 y.f1, .int .i64 (y.f2 + more), .bool y.f3, .int .i64 (yw.f4)] = thL y2 by rw [hy2]; rfl] at hM
                clear HM hy2
                have HM := Aside0.mk hM
                clear hM
                go_upto_region 20 with (first|go_skip|((with_reducible refine' lc HM ?qw rfl ?qx ?qm ?qa ?qv ?_);(case qw|qx|qa=>rfl);(case qm=>repeat constructor);(case qv=>rfl))|((with_reducible refine' la HM ?qw rfl ?qx ?qm ?qa ?_);(case qw|qx=>rfl);(case qm=>repeat constructor);(case qa=>rfl))|((with_reducible refine' pa HM ?qw rfl ?qx _ ?qy ?qm ?qa ?_);(case qw|qx|qy=>rfl);(case qm=>repeat constructor);(case qa=>rfl);clear HM;intro _ HM)|((with_reducible refine' pc HM ?qw rfl ?qx ?qa ?qy ?qm ?qo ?qi ?_);(case qw|qx|qa=>rfl);(case qy=>first|exact (rfl:_=Value.int _ _)|exact (rfl:_=Value.slice _ _ _)|exact (rfl:_=Value.string _)|exact (rfl:_=Value.bool _));(case qm=>repeat constructor);(case qo=>exact ⟨rfl,rfl⟩);(case qi=>rfl);clear HM;intro _ HM;try simp only [List.set_cons_zero,List.set_cons_succ] at HM)|((with_reducible refine' bs0L HM rfl rfl ?_);clear HM;intro _ _ HM)|((with_reducible refine gate_builtin (b:=.append) rfl ?_);(with_reducible refine' copy73 HM rfl rfl ?qs ?qx ?qS ?qn ?_);(case qs|qx=>rfl);(case qS=>exact fun _ h=>h.2);(case qn=>exact HLO.out);clear HM;intro vO XO _ HOW HM;obtain ⟨AO,cO,rfl⟩:=HOW.out.slice;have hM:=HM.out;simp only [List.cons_append,List.nil_append] at hM;clear HM;have HM:=Aside0.mk hM;clear hM))
                obtain ⟨gO, sp, e1, e2, hcap⟩ : ∃ gO sp, AO = some ⟨gO, 0, none⟩ ∧ XO = [(gO, cellsX thL O ++ sp, 73)] ∧ (cellsX thL O ++ sp).length = cO * 5 ∧ O.length ≤ cO ∧ cO ≤ maxLen := by
                  rcases HOW.out with ⟨_, hn, _⟩ | ⟨gO, cap, sp, e, hX, hr⟩
                  · omega
                  · injection e with e1 e2 e3
                    exact ⟨gO, sp, e1, hX, by rw [e3]; exact hr.2.1, by rw [e3]; exact hr.2.2.1, by rw [e3]; exact hr.2.2.2⟩
                subst e1 e2
                have hM := HM.out.perm (B' := (gO, cellsX thL O ++ sp, 73) :: ((g13, thL y2, 73) :: (g8, [.slice A O.length c, .int .i64 nw], 64) :: (g6, [.slice none 0 0, .int .i64 0], 64) :: (g4, [.slice (some ad) xs.length cx, .int .i64 nx], 64) :: (g3, [.slice (some aw) ws.length cw, .int .i64 nw], 64) :: B)) (List.perm_append_comm (l₁ := (g13, thL y2, 73) :: (g8, [.slice A O.length c, .int .i64 nw], 64) :: (g6, [.slice none 0 0, .int .i64 0], 64) :: (g4, [.slice (some ad) xs.length cx, .int .i64 nx], 64) :: (g3, [.slice (some aw) ws.length cw, .int .i64 nw], 64) :: B) (l₂ := [_]))
                clear HM HOW
                have HM := Aside0.mk hM
                clear hM
                have hxl := cellsX_len sx73 O
                have HLN := Aside0.mk (show j * 5 + (thL y2).length ≤ (cellsX thL O ++ sp).length by
                  rw [List.length_append, hxl]
                  show j * 5 + 5 ≤ O.length * 5 + _
                  omega)
                have HPUT : Aside0 ((cellsX thL O ++ sp).take (j * 5) ++ thL y2 ++ (cellsX thL O ++ sp).drop (j * 5 + (thL y2).length) = cellsX thL (O.set j y2) ++ sp) := ⟨cellsX_put sx73 O sp j y2 hjo⟩
                have HOC : Aside0 (OwnB 73 5 (.slice (some ⟨gO, 0, none⟩) (O.set j y2).length cO) (O.set j y2).length (cellsX thL (O.set j y2)) [(gO, cellsX thL (O.set j y2) ++ sp, 73)]) := ⟨.inr ⟨gO, cO, sp, rfl, rfl, cellsX_len sx73 _, by
                  have h1 := hcap.1
                  have h2 := cellsX_len sx73 (O.set j y2)
                  rw [List.length_append] at h1 ⊢
                  rw [h2, List.length_set, ← hxl]
                  exact h1, by rw [List.length_set]; exact hcap.2.1, hcap.2.2⟩⟩
                clear hxl
                go_wp2_with (first|go_skip|((with_reducible refine' ppw HM ?qw rfl ?qx ?qy ?qm (vs:=thL y2) ?qa ?qi ?_);(case qw|qx|qy=>rfl);(case qm=>repeat constructor);(case qa=>rfl);(case qi=>exact HLN.out);clear HM;intro _ HM)|((with_reducible refine' lc HM ?qw rfl ?qx ?qm ?qa ?qv ?_);(case qw|qx|qa=>rfl);(case qm=>repeat constructor);(case qv=>rfl))|((with_reducible refine' la HM ?qw rfl ?qx ?qm ?qa ?_);(case qw|qx=>rfl);(case qm=>repeat constructor);(case qa=>rfl))|((with_reducible refine' pa HM ?qw rfl ?qx _ ?qy ?qm ?qa ?_);(case qw|qx|qy=>rfl);(case qm=>repeat constructor);(case qa=>rfl);clear HM;intro _ HM)|((with_reducible refine' pc HM ?qw rfl ?qx ?qa ?qy ?qm ?qo ?qi ?_);(case qw|qx|qa=>rfl);(case qy=>first|exact (rfl:_=Value.int _ _)|exact (rfl:_=Value.slice _ _ _)|exact (rfl:_=Value.string _)|exact (rfl:_=Value.bool _));(case qm=>repeat constructor);(case qo=>exact ⟨rfl,rfl⟩);(case qi=>rfl);clear HM;intro _ HM;try simp only [List.set_cons_zero,List.set_cons_succ] at HM))
                have hM := HM.out
                rw [HPUT.out] at hM
                have hM2 := hM.perm (List.perm_append_comm (l₁ := [_]))
                obtain ⟨A2, c2, hv, hc2, hM3⟩ := handX sx73 hM2 HOC.out
                injection hv with e1 e2 e3
                subst e1 e3
                have hM4 := hM3.drop.imp (S' := fun w => S w ∧ Wr _ (O.set j y2) w) (fun w h => ⟨h.1.1, h.2⟩)
                rw [show O.length = (O.set j y2).length by simp] at hM4
                go_roundw
                case rel => exact ⟨i + 1, O.set j y2, _, _, by go_num, ⟨by omega⟩, ⟨HST.out.trans HEQ.out⟩, ⟨hc2⟩, ⟨by have := HNX.out; rw [HEQ.out] at this; exact this⟩, ⟨hM4⟩⟩
                case measure => simp [intOf]; omega

              · rw [if_neg h4] at HEQ
                have k4 : (y.f1 == 4) = false := beq_eq_false_iff_ne.2 h4
                clear h4 hw4
                go_upto_region 19 with (first|go_skip|((with_reducible refine' lc HM ?qw rfl ?qx ?qm ?qa ?qv ?_);(case qw|qx|qa=>rfl);(case qm=>repeat constructor);(case qv=>rfl))|((with_reducible refine' la HM ?qw rfl ?qx ?qm ?qa ?_);(case qw|qx=>rfl);(case qm=>repeat constructor);(case qa=>rfl))|((with_reducible refine' pa HM ?qw rfl ?qx _ ?qy ?qm ?qa ?_);(case qw|qx|qy=>rfl);(case qm=>repeat constructor);(case qa=>rfl);clear HM;intro _ HM)|((with_reducible refine' pc HM ?qw rfl ?qx ?qa ?qy ?qm ?qo ?qi ?_);(case qw|qx|qa=>rfl);(case qy=>first|exact (rfl:_=Value.int _ _)|exact (rfl:_=Value.slice _ _ _)|exact (rfl:_=Value.string _)|exact (rfl:_=Value.bool _));(case qm=>repeat constructor);(case qo=>exact ⟨rfl,rfl⟩);(case qi=>rfl);clear HM;intro _ HM;try simp only [List.set_cons_zero,List.set_cons_succ] at HM)|(go_at_call 31; (refine (rfind_some HM.out (fun w h => HSA.out w (h.1)) HCA.out HLA.out HIX.out).mono ?_); rintro e _ ⟨rfl, hM⟩; clear HM;have HM:=Aside0.mk hM;clear hM))
                obtain ⟨y2, hy2⟩ : ∃ y2 : S73, y2 = ⟨y.f0, y.f1, y.f2 + more, y.f3, y.f4 + nw⟩ := ⟨_, rfl⟩
                rw [← h3, ← hy2] at HEQ
                have hM := HM.out
                (try rw [HW1.out] at hM)
                rw [HW2.out, show [Value.string y.f0, .int .i64 y.f1, .int .i64 (y.f2 + more), .bool y.f3, .int .i64 (y.f4 + nw)] = thL y2 by rw [hy2]; rfl] at hM
                clear HM hy2
                have HM := Aside0.mk hM
                clear hM
                go_upto_region 20 with (first|go_skip|((with_reducible refine' lc HM ?qw rfl ?qx ?qm ?qa ?qv ?_);(case qw|qx|qa=>rfl);(case qm=>repeat constructor);(case qv=>rfl))|((with_reducible refine' la HM ?qw rfl ?qx ?qm ?qa ?_);(case qw|qx=>rfl);(case qm=>repeat constructor);(case qa=>rfl))|((with_reducible refine' pa HM ?qw rfl ?qx _ ?qy ?qm ?qa ?_);(case qw|qx|qy=>rfl);(case qm=>repeat constructor);(case qa=>rfl);clear HM;intro _ HM)|((with_reducible refine' pc HM ?qw rfl ?qx ?qa ?qy ?qm ?qo ?qi ?_);(case qw|qx|qa=>rfl);(case qy=>first|exact (rfl:_=Value.int _ _)|exact (rfl:_=Value.slice _ _ _)|exact (rfl:_=Value.string _)|exact (rfl:_=Value.bool _));(case qm=>repeat constructor);(case qo=>exact ⟨rfl,rfl⟩);(case qi=>rfl);clear HM;intro _ HM;try simp only [List.set_cons_zero,List.set_cons_succ] at HM)|((with_reducible refine' bs0L HM rfl rfl ?_);clear HM;intro _ _ HM)|((with_reducible refine gate_builtin (b:=.append) rfl ?_);(with_reducible refine' copy73 HM rfl rfl ?qs ?qx ?qS ?qn ?_);(case qs|qx=>rfl);(case qS=>exact fun _ h=>h.2);(case qn=>exact HLO.out);clear HM;intro vO XO _ HOW HM;obtain ⟨AO,cO,rfl⟩:=HOW.out.slice;have hM:=HM.out;simp only [List.cons_append,List.nil_append] at hM;clear HM;have HM:=Aside0.mk hM;clear hM))
                obtain ⟨gO, sp, e1, e2, hcap⟩ : ∃ gO sp, AO = some ⟨gO, 0, none⟩ ∧ XO = [(gO, cellsX thL O ++ sp, 73)] ∧ (cellsX thL O ++ sp).length = cO * 5 ∧ O.length ≤ cO ∧ cO ≤ maxLen := by
                  rcases HOW.out with ⟨_, hn, _⟩ | ⟨gO, cap, sp, e, hX, hr⟩
                  · omega
                  · injection e with e1 e2 e3
                    exact ⟨gO, sp, e1, hX, by rw [e3]; exact hr.2.1, by rw [e3]; exact hr.2.2.1, by rw [e3]; exact hr.2.2.2⟩
                subst e1 e2
                have hM := HM.out.perm (B' := (gO, cellsX thL O ++ sp, 73) :: ((g13, thL y2, 73) :: (g8, [.slice A O.length c, .int .i64 nw], 64) :: (g6, [.slice none 0 0, .int .i64 0], 64) :: (g4, [.slice (some ad) xs.length cx, .int .i64 nx], 64) :: (g3, [.slice (some aw) ws.length cw, .int .i64 nw], 64) :: B)) (List.perm_append_comm (l₁ := (g13, thL y2, 73) :: (g8, [.slice A O.length c, .int .i64 nw], 64) :: (g6, [.slice none 0 0, .int .i64 0], 64) :: (g4, [.slice (some ad) xs.length cx, .int .i64 nx], 64) :: (g3, [.slice (some aw) ws.length cw, .int .i64 nw], 64) :: B) (l₂ := [_]))
                clear HM HOW
                have HM := Aside0.mk hM
                clear hM
                have hxl := cellsX_len sx73 O
                have HLN := Aside0.mk (show j * 5 + (thL y2).length ≤ (cellsX thL O ++ sp).length by
                  rw [List.length_append, hxl]
                  show j * 5 + 5 ≤ O.length * 5 + _
                  omega)
                have HPUT : Aside0 ((cellsX thL O ++ sp).take (j * 5) ++ thL y2 ++ (cellsX thL O ++ sp).drop (j * 5 + (thL y2).length) = cellsX thL (O.set j y2) ++ sp) := ⟨cellsX_put sx73 O sp j y2 hjo⟩
                have HOC : Aside0 (OwnB 73 5 (.slice (some ⟨gO, 0, none⟩) (O.set j y2).length cO) (O.set j y2).length (cellsX thL (O.set j y2)) [(gO, cellsX thL (O.set j y2) ++ sp, 73)]) := ⟨.inr ⟨gO, cO, sp, rfl, rfl, cellsX_len sx73 _, by
                  have h1 := hcap.1
                  have h2 := cellsX_len sx73 (O.set j y2)
                  rw [List.length_append] at h1 ⊢
                  rw [h2, List.length_set, ← hxl]
                  exact h1, by rw [List.length_set]; exact hcap.2.1, hcap.2.2⟩⟩
                clear hxl
                go_wp2_with (first|go_skip|((with_reducible refine' ppw HM ?qw rfl ?qx ?qy ?qm (vs:=thL y2) ?qa ?qi ?_);(case qw|qx|qy=>rfl);(case qm=>repeat constructor);(case qa=>rfl);(case qi=>exact HLN.out);clear HM;intro _ HM)|((with_reducible refine' lc HM ?qw rfl ?qx ?qm ?qa ?qv ?_);(case qw|qx|qa=>rfl);(case qm=>repeat constructor);(case qv=>rfl))|((with_reducible refine' la HM ?qw rfl ?qx ?qm ?qa ?_);(case qw|qx=>rfl);(case qm=>repeat constructor);(case qa=>rfl))|((with_reducible refine' pa HM ?qw rfl ?qx _ ?qy ?qm ?qa ?_);(case qw|qx|qy=>rfl);(case qm=>repeat constructor);(case qa=>rfl);clear HM;intro _ HM)|((with_reducible refine' pc HM ?qw rfl ?qx ?qa ?qy ?qm ?qo ?qi ?_);(case qw|qx|qa=>rfl);(case qy=>first|exact (rfl:_=Value.int _ _)|exact (rfl:_=Value.slice _ _ _)|exact (rfl:_=Value.string _)|exact (rfl:_=Value.bool _));(case qm=>repeat constructor);(case qo=>exact ⟨rfl,rfl⟩);(case qi=>rfl);clear HM;intro _ HM;try simp only [List.set_cons_zero,List.set_cons_succ] at HM))
                have hM := HM.out
                rw [HPUT.out] at hM
                have hM2 := hM.perm (List.perm_append_comm (l₁ := [_]))
                obtain ⟨A2, c2, hv, hc2, hM3⟩ := handX sx73 hM2 HOC.out
                injection hv with e1 e2 e3
                subst e1 e3
                have hM4 := hM3.drop.imp (S' := fun w => S w ∧ Wr _ (O.set j y2) w) (fun w h => ⟨h.1.1, h.2⟩)
                rw [show O.length = (O.set j y2).length by simp] at hM4
                go_roundw
                case rel => exact ⟨i + 1, O.set j y2, _, _, by go_num, ⟨by omega⟩, ⟨HST.out.trans HEQ.out⟩, ⟨hc2⟩, ⟨by have := HNX.out; rw [HEQ.out] at this; exact this⟩, ⟨hM4⟩⟩
                case measure => simp [intOf]; omega

        · have hil : i = xs.length := by have := HII.out; omega
          subst hil
          have hlz : ¬ ((xs.length : Int) < (xs.length : Int)) := by omega
          have hw3 : wrap64 (nw + nx) = nw + nx := by have := HNB.out; exact w64 (by omega) (by omega)
          have HW3 := Aside0.mk hw3
          clear hw3
          have HO2 : Aside0 (xs.foldl (stW ws nw more) ws = O) := ⟨by have := HO.out; rwa [List.take_length] at this⟩
          go_wp2_with (first|go_skip|((with_reducible refine' lc HM ?qw rfl ?qx ?qm ?qa ?qv ?_);(case qw|qx|qa=>rfl);(case qm=>repeat constructor);(case qv=>rfl))|((with_reducible refine' la HM ?qw rfl ?qx ?qm ?qa ?_);(case qw|qx=>rfl);(case qm=>repeat constructor);(case qa=>rfl))|((with_reducible refine' pa HM ?qw rfl ?qx _ ?qy ?qm ?qa ?_);(case qw|qx|qy=>rfl);(case qm=>repeat constructor);(case qa=>rfl);clear HM;intro _ HM)|((with_reducible refine' pc HM ?qw rfl ?qx ?qa ?qy ?qm ?qo ?qi ?_);(case qw|qx|qa=>rfl);(case qy=>first|exact (rfl:_=Value.int _ _)|exact (rfl:_=Value.slice _ _ _)|exact (rfl:_=Value.string _)|exact (rfl:_=Value.bool _));(case qm=>repeat constructor);(case qo=>exact ⟨rfl,rfl⟩);(case qi=>rfl);clear HM;intro _ HM;try simp only [List.set_cons_zero,List.set_cons_succ] at HM))
          have hM := HM.out
          rw [HW3.out] at hM
          clear HM
          have HM := Aside0.mk hM
          clear hM
          refine bodyPost_ret (ret_ct HM.out rfl rfl (by first | exact m0 | exact m1 | exact m2 | exact m3) (by exact agg64)) rfl ?_
          rw [HOV.out, HO2.out]
          exact ⟨A, c, rfl, HC.out, (HM.out.drop.drop.drop.drop).imp (fun w h => ⟨h.1, h.2⟩)⟩
end Go.Proofs.YtolpamojbiipaaaDoor.XA
