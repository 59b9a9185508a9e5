-- Written by a program of this session (wip/tools/xprint.py) out of the translation's print. Lean checks it.
import Derived.Test.YtolpamojbiipaaaDoorXA0
import Derived.Test.YtolpamojbiipaaaDoorXA3
namespace Go.Proofs.YtolpamojbiipaaaDoor.XA
open Go.RowKit Go.Proofs.YtolpamojbiipaaaDoorW.PrintWords Go.Proofs.YtolpamojbiipaaaDoorW.PrintLast Go.Proofs.YtolpamojbiipaaaDoorW.PrintMore
attribute [local go_sem] max2_int min2_int max_two min_two max_three min_three max_four min_four   -- for this text's walks alone
set_option linter.unusedVariables false
set_option linter.unusedSimpArgs false

/-! ### target_Relative: function 42 -/
mutual
def target_Relative.j1 : Nat → List ByteArray → List ByteArray → Option (ByteArray)
 | 0, _, _ => none
 | k + 1, x5, x6 => target_Relative.l1 k x6 ([] : List ByteArray) (x5.length : Int) 0
def target_Relative.l1 : Nat → List ByteArray → List ByteArray → Int → Int → Option (ByteArray)
 | 0, _, _, _, _ => none
 | k + 1, x6, x7, x34, x35 => if x35 < x34 then (if x7.length < 8796093022208 then (target_Relative.l1 k x6 (x7 ++ [(⟨#[46, 46]⟩ : ByteArray)]) x34 (wrap64 (x35 + 1))) else (none)) else (if x7.length + x6.length < 8796093022208 then ((some (x7 ++ x6 : List ByteArray)).bind fun y976 => (if (y976.length : Int) = 0 then (some (⟨#[46]⟩ : ByteArray)) else ((path_Join.f y976).bind fun t979 => (some t979)))) else (none))
def target_Relative.l0 : Nat → List ByteArray → List ByteArray → Option (ByteArray)
 | 0, _, _ => none
 | k + 1, x5, x6 => if (x5.length : Int) > 0 then (if (x6.length : Int) > 0 then (if 0 < (x5.length : Int) then (if 0 < (x6.length : Int) then (if (rdOf ByteArray.empty x5 0).toList = (rdOf ByteArray.empty x6 0).toList then (if 1 ≤ (x5.length : Int) then (if 1 ≤ (x6.length : Int) then (target_Relative.l0 k (x5.drop (1 : Int).toNat) (x6.drop (1 : Int).toNat)) else (none)) else (none)) else (target_Relative.j1 k x5 x6)) else (none)) else (none)) else (target_Relative.j1 k x5 x6)) else (target_Relative.j1 k x5 x6)
end
def target_Relative.f (k : Nat) (a0 : ByteArray) (a1 : ByteArray) : Option (ByteArray) := (path_Parts.f a0).bind fun t959 => ((path_Parts.f a1).bind fun t962 => (target_Relative.l0 k t959 t962))
theorem target_Relative.mono_l : ∀ k, (∀ y0 y1, LeO (target_Relative.j1 k y0 y1) (target_Relative.j1 (k + 1) y0 y1)) ∧ (∀ y0 y1 y2 y3, LeO (target_Relative.l1 k y0 y1 y2 y3) (target_Relative.l1 (k + 1) y0 y1 y2 y3)) ∧ (∀ y0 y1, LeO (target_Relative.l0 k y0 y1) (target_Relative.l0 (k + 1) y0 y1))
 | 0 => ⟨fun _ _ r h => by simp [target_Relative.j1] at h, fun _ _ _ _ r h => by simp [target_Relative.l1] at h, fun _ _ r h => by simp [target_Relative.l0] at h⟩
 | k + 1 => by
  obtain ⟨ih0, ih1, ih2⟩ := target_Relative.mono_l k
  refine ⟨?_, ?_, ?_⟩
  ·intro y0 y1
   unfold target_Relative.j1
   repeat' first
   | (with_reducible exact ih0 _ _)
   | (with_reducible exact ih1 _ _ _ _)
   | (with_reducible exact ih2 _ _)
   | (with_reducible exact LeO.refl _)
   | (with_reducible exact LeO.none _)
   | (with_reducible refine LeO.ite ?_ ?_)
   | (with_reducible refine LeO.bind ?_ (fun _ => ?_))
   | exact ih0 _ _
   | exact ih1 _ _ _ _
   | exact ih2 _ _
   | exact LeO.none _
   | refine LeO.ite ?_ ?_
   | refine LeO.bind ?_ (fun _ => ?_)
  ·intro y0 y1 y2 y3
   unfold target_Relative.l1
   repeat' first
   | (with_reducible exact ih0 _ _)
   | (with_reducible exact ih1 _ _ _ _)
   | (with_reducible exact ih2 _ _)
   | (with_reducible exact LeO.refl _)
   | (with_reducible exact LeO.none _)
   | (with_reducible refine LeO.ite ?_ ?_)
   | (with_reducible refine LeO.bind ?_ (fun _ => ?_))
   | exact ih0 _ _
   | exact ih1 _ _ _ _
   | exact ih2 _ _
   | exact LeO.none _
   | refine LeO.ite ?_ ?_
   | refine LeO.bind ?_ (fun _ => ?_)
  ·intro y0 y1
   unfold target_Relative.l0
   repeat' first
   | (with_reducible exact ih0 _ _)
   | (with_reducible exact ih1 _ _ _ _)
   | (with_reducible exact ih2 _ _)
   | (with_reducible exact LeO.refl _)
   | (with_reducible exact LeO.none _)
   | (with_reducible refine LeO.ite ?_ ?_)
   | (with_reducible refine LeO.bind ?_ (fun _ => ?_))
   | exact ih0 _ _
   | exact ih1 _ _ _ _
   | exact ih2 _ _
   | exact LeO.none _
   | refine LeO.ite ?_ ?_
   | refine LeO.bind ?_ (fun _ => ?_)
theorem target_Relative.mono : ∀ a0 a1 k, LeO (target_Relative.f k a0 a1) (target_Relative.f (k + 1) a0 a1) := by
 intro a0 a1 k
 obtain ⟨ih0, ih1, ih2⟩ := target_Relative.mono_l k
 unfold target_Relative.f
 repeat' first
   | (with_reducible exact ih0 _ _)
   | (with_reducible exact ih1 _ _ _ _)
   | (with_reducible exact ih2 _ _)
   | (with_reducible exact LeO.refl _)
   | (with_reducible exact LeO.none _)
   | (with_reducible refine LeO.ite ?_ ?_)
   | (with_reducible refine LeO.bind ?_ (fun _ => ?_))
   | exact ih0 _ _
   | exact ih1 _ _ _ _
   | exact ih2 _ _
   | exact LeO.none _
   | refine LeO.ite ?_ ?_
   | refine LeO.bind ?_ (fun _ => ?_)
set_option maxHeartbeats 8000000 in
set_option maxRecDepth 100000 in
theorem target_Relative.calls (k : Nat) (a0 : ByteArray) (a1 : ByteArray) (r : ByteArray) (w : World) (h : target_Relative.f k a0 a1 = some r) :
  Calls Tryd.prog 42 #[.string a0, .string a1] w fun e w' => e = .returned (.string r) ∧ Below w.heap.size w w' := by
 have HB := Aside0.mk (Below.refl w.heap.size w)
 have H : ((path_Parts.f a0).bind fun t959 => ((path_Parts.f a1).bind fun t962 => (target_Relative.l0 k t959 t962))) = some r := h
 clear h
 replace H := Option.bind_eq_some_iff.mp H
 obtain ⟨t959, A30, H⟩ := H
 replace H : ((path_Parts.f a1).bind fun t962 => (target_Relative.l0 k t959 t962)) = some r := H
 have A3 := Aside0.mk A30
 clear A30
 replace H := Option.bind_eq_some_iff.mp H
 obtain ⟨t962, A40, H⟩ := H
 replace H : (target_Relative.l0 k t959 t962) = some r := H
 have A4 := Aside0.mk A40
 clear A40
 have HC5 := Aside0.mk H
 clear H
 go_enter Tryd.func42, Tryd.ntmps42
 go_upto_block 0 with (first | (go_at_call 43; (with_reducible refine (path_Parts.calls a0 t959 _ A3.out).mono ?_); rintro e w6 ⟨v960, rfl, ho0, hb⟩; have n0_ := Aside0.mk (Kd.R_lower ho0 (below_size (by repeat (first | (with_reducible first | exact HB.out | apply below_alloc | apply pw_below_drewN | apply below_drew1) | exact HB.out)))); have n1_ := Aside0.mk (below_step (by repeat (first | (with_reducible first | exact HB.out | apply below_alloc | apply pw_below_drewN | apply below_drew1) | exact HB.out)) hb); clear HB; have HO961 := n0_; have HB := n1_; clear n0_ n1_; (try clear hb); (try clear hb2); (try clear hk); (try clear hi); (try clear ho0)) | (go_at_call 43; (with_reducible refine (path_Parts.calls a1 t962 _ A4.out).mono ?_); rintro e w7 ⟨v963, rfl, ho0, hb⟩; have n0_ := Aside0.mk (Kd.R_elder' (by (with_reducible repeat (first | apply Kd.R_alloc | apply Kd.R_drewN | apply Kd.R_drew)); exact HO961.out) (Kd.R_base ho0) hb); have n1_ := Aside0.mk (Kd.R_lower (Kd.R_new' ho0 (Kd.R_lt (by (with_reducible repeat (first | apply Kd.R_alloc | apply Kd.R_drewN | apply Kd.R_drew)); exact HO961.out))) (below_size (by repeat (first | (with_reducible first | exact HB.out | apply below_alloc | apply pw_below_drewN | apply below_drew1) | exact HB.out)))); have n2_ := Aside0.mk (below_step (by repeat (first | (with_reducible first | exact HB.out | apply below_alloc | apply pw_below_drewN | apply below_drew1) | exact HB.out)) hb); clear HO961; clear HB; have HO961 := n0_; have HO964 := n1_; have HB := n2_; clear n0_ n1_ n2_; (try clear hb); (try clear hb2); (try clear hk); (try clear hi); (try clear ho0)))
 repeat (go_quiet (first | (go_at_call 43; (with_reducible refine (path_Parts.calls a0 t959 _ A3.out).mono ?_); rintro e w6 ⟨v960, rfl, ho0, hb⟩; have n0_ := Aside0.mk (Kd.R_lower ho0 (below_size (by repeat (first | (with_reducible first | exact HB.out | apply below_alloc | apply pw_below_drewN | apply below_drew1) | exact HB.out)))); have n1_ := Aside0.mk (below_step (by repeat (first | (with_reducible first | exact HB.out | apply below_alloc | apply pw_below_drewN | apply below_drew1) | exact HB.out)) hb); clear HB; have HO961 := n0_; have HB := n1_; clear n0_ n1_; (try clear hb); (try clear hb2); (try clear hk); (try clear hi); (try clear ho0)) | (go_at_call 43; (with_reducible refine (path_Parts.calls a1 t962 _ A4.out).mono ?_); rintro e w7 ⟨v963, rfl, ho0, hb⟩; have n0_ := Aside0.mk (Kd.R_elder' (by (with_reducible repeat (first | apply Kd.R_alloc | apply Kd.R_drewN | apply Kd.R_drew)); exact HO961.out) (Kd.R_base ho0) hb); have n1_ := Aside0.mk (Kd.R_lower (Kd.R_new' ho0 (Kd.R_lt (by (with_reducible repeat (first | apply Kd.R_alloc | apply Kd.R_drewN | apply Kd.R_drew)); exact HO961.out))) (below_size (by repeat (first | (with_reducible first | exact HB.out | apply below_alloc | apply pw_below_drewN | apply below_drew1) | exact HB.out)))); have n2_ := Aside0.mk (below_step (by repeat (first | (with_reducible first | exact HB.out | apply below_alloc | apply pw_below_drewN | apply below_drew1) | exact HB.out)) hb); clear HO961; clear HB; have HO961 := n0_; have HO964 := n1_; have HB := n2_; clear n0_ n1_ n2_; (try clear hb); (try clear hb2); (try clear hk); (try clear hi); (try clear ho0))); go_upto_block 0 with (first | (go_at_call 43; (with_reducible refine (path_Parts.calls a0 t959 _ A3.out).mono ?_); rintro e w6 ⟨v960, rfl, ho0, hb⟩; have n0_ := Aside0.mk (Kd.R_lower ho0 (below_size (by repeat (first | (with_reducible first | exact HB.out | apply below_alloc | apply pw_below_drewN | apply below_drew1) | exact HB.out)))); have n1_ := Aside0.mk (below_step (by repeat (first | (with_reducible first | exact HB.out | apply below_alloc | apply pw_below_drewN | apply below_drew1) | exact HB.out)) hb); clear HB; have HO961 := n0_; have HB := n1_; clear n0_ n1_; (try clear hb); (try clear hb2); (try clear hk); (try clear hi); (try clear ho0)) | (go_at_call 43; (with_reducible refine (path_Parts.calls a1 t962 _ A4.out).mono ?_); rintro e w7 ⟨v963, rfl, ho0, hb⟩; have n0_ := Aside0.mk (Kd.R_elder' (by (with_reducible repeat (first | apply Kd.R_alloc | apply Kd.R_drewN | apply Kd.R_drew)); exact HO961.out) (Kd.R_base ho0) hb); have n1_ := Aside0.mk (Kd.R_lower (Kd.R_new' ho0 (Kd.R_lt (by (with_reducible repeat (first | apply Kd.R_alloc | apply Kd.R_drewN | apply Kd.R_drew)); exact HO961.out))) (below_size (by repeat (first | (with_reducible first | exact HB.out | apply below_alloc | apply pw_below_drewN | apply below_drew1) | exact HB.out)))); have n2_ := Aside0.mk (below_step (by repeat (first | (with_reducible first | exact HB.out | apply below_alloc | apply pw_below_drewN | apply below_drew1) | exact HB.out)) hb); clear HO961; clear HB; have HO961 := n0_; have HO964 := n1_; have HB := n2_; clear n0_ n1_ n2_; (try clear hb); (try clear hb2); (try clear hk); (try clear hi); (try clear ho0))))
 (try simp only [Act.put, List.setIfInBounds_toArray, List.set_cons_zero, List.set_cons_succ])
 go_cut [5, 6] (fun v5 v6 wc => ∃ (kq : Nat) (x5_4 : List ByteArray) (x6_4 : List ByteArray), Aside0 (target_Relative.j1 kq x5_4 x6_4 = some r) ∧ Aside0 (kq ≤ k) ∧ Aside0 (Kd.Q Kd.string 9 wc w.heap.size (fun k_ => some k_ ≠ (v6 : Value).ownBlock) v5 x5_4) ∧ Aside0 (Kd.Q Kd.string 9 wc w.heap.size (fun k_ => some k_ ≠ (v5 : Value).ownBlock) v6 x6_4) ∧ Aside0 (Below w.heap.size w wc))
 case first =>
  have H := HC5.out
  clear HC5
  have H' := Aside0.mk H
  clear H
  go_wp2
  repeat (go_quiet (fail); try go_wp2)
  go_loopg [5, 6] k (fun kq v5 v6 w' => ∃ (x5_1 : List ByteArray) (x6_1 : List ByteArray), Aside0 (target_Relative.l0 kq x5_1 x6_1 = some r) ∧ Aside0 (kq ≤ k) ∧ Aside0 (Kd.Q Kd.string 9 w' w.heap.size (fun k_ => some k_ ≠ (v6 : Value).ownBlock) v5 x5_1) ∧ Aside0 (Kd.Q Kd.string 9 w' w.heap.size (fun k_ => some k_ ≠ (v5 : Value).ownBlock) v6 x6_1) ∧ Aside0 (Below w.heap.size w w'))
  case atStart => exact ⟨(t959), (t962), H', ⟨Nat.le_refl _⟩, ⟨Kd.Q_of_R (by (with_reducible repeat (first | apply Kd.R_alloc | apply Kd.R_drewN | apply Kd.R_drew)); exact Kd.R_mono HO961.out (fun _ hk => hk.2))⟩, ⟨Kd.Q_of_R (by (with_reducible repeat (first | apply Kd.R_alloc | apply Kd.R_drewN | apply Kd.R_drew)); exact Kd.R_mono HO964.out (fun _ hk => hk.2))⟩, ⟨by repeat (first | (with_reducible first | exact HB.out | apply below_alloc | apply pw_below_drewN | apply below_drew1) | exact HB.out)⟩⟩
  case round =>
   clear H'
   try clear p2
   try clear c4
   obtain ⟨x5_1, x6_1, HA, HK1, HO_5, HO_6, HB⟩ := hrel
   cases gk with
   | zero => exact absurd HA.out (by simp [target_Relative.l0])
   | succ k1 =>
    have H := HA.out
    clear HA
    simp only [target_Relative.l0] at H
    by_cases c8 : (x5_1.length : Int) > 0
    ·rw [if_pos c8] at H
     have c8b0 : decide (0 < (x5_1.length : Int)) = true := decide_eq_true c8
     have c8b1 : decide (0 < x5_1.length) = true := decide_eq_true (by omega)
     clear c8
     (first | rw [c8b0] | (simp only [i64_w, i32_w]; rw [c8b0]) | skip)
     by_cases c9 : (x6_1.length : Int) > 0
     ·rw [if_pos c9] at H
      have c9b0 : decide (0 < (x6_1.length : Int)) = true := decide_eq_true c9
      have c9b1 : decide (0 < x6_1.length) = true := decide_eq_true (by omega)
      clear c9
      by_cases c10 : 0 < (x5_1.length : Int)
      ·rw [if_pos c10] at H
       have c10b0 : decide (0 < (x5_1.length : Int)) = true := decide_eq_true c10
       have c10b1 : decide (0 < x5_1.length) = true := decide_eq_true (by omega)
       clear c10
       by_cases c11 : 0 < (x6_1.length : Int)
       ·rw [if_pos c11] at H
        have c11b0 : decide (0 < (x6_1.length : Int)) = true := decide_eq_true c11
        have c11b1 : decide (0 < x6_1.length) = true := decide_eq_true (by omega)
        clear c11
        by_cases c12 : (rdOf ByteArray.empty x5_1 0).toList = (rdOf ByteArray.empty x6_1 0).toList
        ·rw [if_pos c12] at H
         have c12b0 : ((rdOf ByteArray.empty x5_1 0).toList == (rdOf ByteArray.empty x6_1 0).toList) = true := beq_iff_eq.mpr c12
         have c12b1 : ((rdOf ByteArray.empty x5_1 0).toList != (rdOf ByteArray.empty x6_1 0).toList) = false := bne_eq_false_iff_eq.mpr c12
         clear c12
         by_cases c13 : 1 ≤ (x5_1.length : Int)
         ·rw [if_pos c13] at H
          have c13b0 := eq_true c13
          have c13b1 : decide (1 ≤ (x5_1.length : Int)) = true := decide_eq_true c13
          clear c13
          obtain ⟨y967, hy967⟩ : ∃ y_ : List ByteArray, y_ = (x5_1.drop (1 : Int).toNat) := ⟨_, rfl⟩
          replace H : (if 1 ≤ (x6_1.length : Int) then (target_Relative.l0 k1 y967 (x6_1.drop (1 : Int).toNat)) else (none)) = some r := by first | (rw [hy967]; with_reducible exact H) | (have H2_ := (Option.bind_some _ _).symm.trans H; rw [hy967]; with_reducible exact H2_) | (have H2_ := (Option.bind_some _ _).symm.trans H; with_reducible exact H2_) | with_reducible exact H | (rw [hy967]; exact H) | exact H
          have Ny967 := Aside0.mk hy967
          clear hy967
          by_cases c14 : 1 ≤ (x6_1.length : Int)
          ·rw [if_pos c14] at H
           have c14b0 := eq_true c14
           have c14b1 : decide (1 ≤ (x6_1.length : Int)) = true := decide_eq_true c14
           clear c14
           obtain ⟨y970, hy970⟩ : ∃ y_ : List ByteArray, y_ = (x6_1.drop (1 : Int).toNat) := ⟨_, rfl⟩
           replace H : (target_Relative.l0 k1 y967 y970) = some r := by first | (rw [hy970]; with_reducible exact H) | (have H2_ := (Option.bind_some _ _).symm.trans H; rw [hy970]; with_reducible exact H2_) | (have H2_ := (Option.bind_some _ _).symm.trans H; with_reducible exact H2_) | with_reducible exact H | (rw [hy970]; exact H) | exact H
           have Ny970 := Aside0.mk hy970
           clear hy970
           have H' := Aside0.mk H
           clear H
           obtain ⟨Ao15, co15, eo15, _⟩ := Kd.Q_slice HO_5.out
           subst eo15
           obtain ⟨Ao16, co16, eo16, _⟩ := Kd.Q_slice HO_6.out
           subst eo16
           have p965 : 0 ≤ (0 : Int) := (by omega)
           have q965 : 0 < (x5_1.length : Int) := of_decide_eq_true (by first | (with_reducible assumption) | assumption)
           obtain ⟨ad965, e965, hx965_0⟩ := Kd.at_string (Kd.Q_reads' HO_5.out).2.2 0 p965 q965
           cases e965
           have qi965 : (0 < x5_1.length) = True := eq_true (by omega)
           (try rw [show ((0 : Int)).toNat = 0 from rfl] at hx965_0)
           (try rw [Addr.add_zero'] at hx965_0)
           replace p965 := eq_true p965
           replace q965 := eq_true q965
           have p966 : 0 ≤ (0 : Int) := (by omega)
           have q966 : 0 < (x6_1.length : Int) := of_decide_eq_true (by first | (with_reducible assumption) | assumption)
           obtain ⟨ad966, e966, hx966_0⟩ := Kd.at_string (Kd.Q_reads' HO_6.out).2.2 0 p966 q966
           cases e966
           have qi966 : (0 < x6_1.length) = True := eq_true (by omega)
           (try rw [show ((0 : Int)).toNat = 0 from rfl] at hx966_0)
           (try rw [Addr.add_zero'] at hx966_0)
           replace p966 := eq_true p966
           replace q966 := eq_true q966
           have q17 : (1 : Int) ≤ ((x5_1.length : Int) : Int) := of_decide_eq_true (by first | (with_reducible assumption) | assumption)
           obtain ⟨i017, hi017, _, hsz17, _⟩ := info_parts info9
           have hcut17 := cut_from (P := Tryd.prog) 45 9 .i64 Tryd.underlying45 hi017 1 hsz17 (some ad965) x5_1.length co15 1 (by omega) q17
           have hr17 := Kd.Q_drop (k := (1 : Int).toNat) HO_5.out (by omega)
           obtain ⟨A17, hA17⟩ : ∃ A1, A1 = (if co15 = (1 : Int).toNat then (some ad965) else ((some ad965) : Option Addr).map (·.add ((1 : Int).toNat * 1))) := ⟨_, rfl⟩
           obtain ⟨c17, hc17⟩ : ∃ c1, c1 = co15 - (1 : Int).toNat := ⟨_, rfl⟩
           have hy17 : y967.length = x5_1.length - (1 : Int).toNat := (by rw [Ny967.out, List.length_drop])
           rw [← Ny967.out] at hr17
           rw [← hy17, ← hA17, ← hc17] at hcut17
           replace hr17 : Kd.Q Kd.string 9 wr w.heap.size (fun k_ => some k_ ≠ (.slice (some ad966) x6_1.length co16 : Value).ownBlock) (.slice A17 y967.length c17) y967 := (by rw [hA17, hc17, hy17]; exact hr17)
           have HE17 : Aside0 ((Value.slice A17 y967.length c17).ownBlock = (.slice (some ad965) x5_1.length co15 : Value).ownBlock) := ⟨by rw [hA17]; split <;> (cases ((some ad965) : Option Addr) <;> rfl)⟩
           clear hy17 hi017 hsz17 HO_5 hA17 hc17
           have HO969 := Aside0.mk hr17
           clear hr17
           replace q17 := eq_true q17
           have n_ := Aside0.mk (Kd.Q_mono (ok' := fun k_ => some k_ ≠ (.slice A17 y967.length c17 : Value).ownBlock) HO_6.out (fun k_ hk => (by rw [HE17.out]; exact hk)))
           clear HO_6
           have HO_6 := n_
           clear n_
           have q18 : (1 : Int) ≤ ((x6_1.length : Int) : Int) := of_decide_eq_true (by first | (with_reducible assumption) | assumption)
           obtain ⟨i018, hi018, _, hsz18, _⟩ := info_parts info9
           have hcut18 := cut_from (P := Tryd.prog) 45 9 .i64 Tryd.underlying45 hi018 1 hsz18 (some ad966) x6_1.length co16 1 (by omega) q18
           have hr18 := Kd.Q_drop (k := (1 : Int).toNat) HO_6.out (by omega)
           obtain ⟨A18, hA18⟩ : ∃ A1, A1 = (if co16 = (1 : Int).toNat then (some ad966) else ((some ad966) : Option Addr).map (·.add ((1 : Int).toNat * 1))) := ⟨_, rfl⟩
           obtain ⟨c18, hc18⟩ : ∃ c1, c1 = co16 - (1 : Int).toNat := ⟨_, rfl⟩
           have hy18 : y970.length = x6_1.length - (1 : Int).toNat := (by rw [Ny970.out, List.length_drop])
           rw [← Ny970.out] at hr18
           rw [← hy18, ← hA18, ← hc18] at hcut18
           replace hr18 : Kd.Q Kd.string 9 wr w.heap.size (fun k_ => some k_ ≠ (.slice A17 y967.length c17 : Value).ownBlock) (.slice A18 y970.length c18) y970 := (by rw [hA18, hc18, hy18]; exact hr18)
           have HE18 : Aside0 ((Value.slice A18 y970.length c18).ownBlock = (.slice (some ad966) x6_1.length co16 : Value).ownBlock) := ⟨by rw [hA18]; split <;> (cases ((some ad966) : Option Addr) <;> rfl)⟩
           clear hy18 hi018 hsz18 HO_6 hA18 hc18
           have HO972 := Aside0.mk hr18
           clear hr18
           replace q18 := eq_true q18
           have n_ := Aside0.mk (Kd.Q_mono (ok' := fun k_ => some k_ ≠ (.slice A18 y970.length c18 : Value).ownBlock) HO969.out (fun k_ hk => (by rw [HE18.out]; exact hk)))
           clear HO969
           have HO969 := n_
           clear n_
           go_wp2
           repeat (go_quiet (fail); try go_wp2)
           go_roundg k1
           case measure => have := HK1.out; omega
           case rel => exact ⟨(y967), (y970), H', ⟨by have := HK1.out; omega⟩, ⟨by (with_reducible repeat (first | apply Kd.Q_alloc | apply Kd.Q_drewN | apply Kd.Q_drew)); first | exact HO969.out | exact Kd.R_mono HO969.out (fun _ hk_ => by have h_ : ∀ (A : Option Addr) (n c : Nat), (Value.slice A n c).ownBlock = A.map (·.block) := fun A _ _ => (by cases A <;> rfl); simpa only [h_] using hk_)⟩, ⟨by (with_reducible repeat (first | apply Kd.Q_alloc | apply Kd.Q_drewN | apply Kd.Q_drew)); first | exact HO972.out | exact Kd.R_mono HO972.out (fun _ hk_ => by have h_ : ∀ (A : Option Addr) (n c : Nat), (Value.slice A n c).ownBlock = A.map (·.block) := fun A _ _ => (by cases A <;> rfl); simpa only [h_] using hk_)⟩, ⟨by repeat (first | (with_reducible first | exact HB.out | apply below_alloc | apply pw_below_drewN | apply below_drew1) | exact HB.out)⟩⟩
          ·rw [if_neg c14] at H
           exact absurd H (by simp)
         ·rw [if_neg c13] at H
          exact absurd H (by simp)
        ·rw [if_neg c12] at H
         have c12b0 : ((rdOf ByteArray.empty x5_1 0).toList == (rdOf ByteArray.empty x6_1 0).toList) = false := beq_eq_false_iff_ne.mpr c12
         have c12b1 : ((rdOf ByteArray.empty x5_1 0).toList != (rdOf ByteArray.empty x6_1 0).toList) = true := bne_iff_ne.mpr c12
         have H' := Aside0.mk H
         clear H
         obtain ⟨Ao19, co19, eo19, _⟩ := Kd.Q_slice HO_5.out
         subst eo19
         obtain ⟨Ao20, co20, eo20, _⟩ := Kd.Q_slice HO_6.out
         subst eo20
         have p965 : 0 ≤ (0 : Int) := (by omega)
         have q965 : 0 < (x5_1.length : Int) := of_decide_eq_true (by first | (with_reducible assumption) | assumption)
         obtain ⟨ad965, e965, hx965_0⟩ := Kd.at_string (Kd.Q_reads' HO_5.out).2.2 0 p965 q965
         cases e965
         have qi965 : (0 < x5_1.length) = True := eq_true (by omega)
         (try rw [show ((0 : Int)).toNat = 0 from rfl] at hx965_0)
         (try rw [Addr.add_zero'] at hx965_0)
         replace p965 := eq_true p965
         replace q965 := eq_true q965
         have p966 : 0 ≤ (0 : Int) := (by omega)
         have q966 : 0 < (x6_1.length : Int) := of_decide_eq_true (by first | (with_reducible assumption) | assumption)
         obtain ⟨ad966, e966, hx966_0⟩ := Kd.at_string (Kd.Q_reads' HO_6.out).2.2 0 p966 q966
         cases e966
         have qi966 : (0 < x6_1.length) = True := eq_true (by omega)
         (try rw [show ((0 : Int)).toNat = 0 from rfl] at hx966_0)
         (try rw [Addr.add_zero'] at hx966_0)
         replace p966 := eq_true p966
         replace q966 := eq_true q966
         go_wp2
         repeat (go_quiet (fail); try go_wp2)
         go_meet
         case rel => exact ⟨_, (x5_1), (x6_1), H', ⟨by have := HK1.out; first | omega | exact Nat.le_refl _⟩, ⟨by (with_reducible repeat (first | apply Kd.Q_alloc | apply Kd.Q_drewN | apply Kd.Q_drew)); first | exact HO_5.out | exact Kd.R_mono HO_5.out (fun _ hk_ => by have h_ : ∀ (A : Option Addr) (n c : Nat), (Value.slice A n c).ownBlock = A.map (·.block) := fun A _ _ => (by cases A <;> rfl); simpa only [h_] using hk_)⟩, ⟨by (with_reducible repeat (first | apply Kd.Q_alloc | apply Kd.Q_drewN | apply Kd.Q_drew)); first | exact HO_6.out | exact Kd.R_mono HO_6.out (fun _ hk_ => by have h_ : ∀ (A : Option Addr) (n c : Nat), (Value.slice A n c).ownBlock = A.map (·.block) := fun A _ _ => (by cases A <;> rfl); simpa only [h_] using hk_)⟩, ⟨by repeat (first | (with_reducible first | exact HB.out | apply below_alloc | apply pw_below_drewN | apply below_drew1) | exact HB.out)⟩⟩
       ·rw [if_neg c11] at H
        exact absurd H (by simp)
      ·rw [if_neg c10] at H
       exact absurd H (by simp)
     ·rw [if_neg c9] at H
      have c9b0 : decide (0 < (x6_1.length : Int)) = false := decide_eq_false c9
      have c9b1 : decide (0 < x6_1.length) = false := decide_eq_false (by omega)
      clear c9
      have H' := Aside0.mk H
      clear H
      obtain ⟨Ao21, co21, eo21, _⟩ := Kd.Q_slice HO_5.out
      subst eo21
      obtain ⟨Ao22, co22, eo22, _⟩ := Kd.Q_slice HO_6.out
      subst eo22
      go_wp2
      repeat (go_quiet (fail); try go_wp2)
      go_meet
      case rel => exact ⟨_, (x5_1), (x6_1), H', ⟨by have := HK1.out; first | omega | exact Nat.le_refl _⟩, ⟨by (with_reducible repeat (first | apply Kd.Q_alloc | apply Kd.Q_drewN | apply Kd.Q_drew)); first | exact HO_5.out | exact Kd.R_mono HO_5.out (fun _ hk_ => by have h_ : ∀ (A : Option Addr) (n c : Nat), (Value.slice A n c).ownBlock = A.map (·.block) := fun A _ _ => (by cases A <;> rfl); simpa only [h_] using hk_)⟩, ⟨by (with_reducible repeat (first | apply Kd.Q_alloc | apply Kd.Q_drewN | apply Kd.Q_drew)); first | exact HO_6.out | exact Kd.R_mono HO_6.out (fun _ hk_ => by have h_ : ∀ (A : Option Addr) (n c : Nat), (Value.slice A n c).ownBlock = A.map (·.block) := fun A _ _ => (by cases A <;> rfl); simpa only [h_] using hk_)⟩, ⟨by repeat (first | (with_reducible first | exact HB.out | apply below_alloc | apply pw_below_drewN | apply below_drew1) | exact HB.out)⟩⟩
    ·rw [if_neg c8] at H
     have c8b0 : decide (0 < (x5_1.length : Int)) = false := decide_eq_false c8
     have c8b1 : decide (0 < x5_1.length) = false := decide_eq_false (by omega)
     clear c8
     (first | rw [c8b0] | (simp only [i64_w, i32_w]; rw [c8b0]) | skip)
     have H' := Aside0.mk H
     clear H
     obtain ⟨Ao23, co23, eo23, _⟩ := Kd.Q_slice HO_5.out
     subst eo23
     go_wp2
     repeat (go_quiet (fail); try go_wp2)
     go_meet
     case rel => exact ⟨_, (x5_1), (x6_1), H', ⟨by have := HK1.out; first | omega | exact Nat.le_refl _⟩, ⟨by (with_reducible repeat (first | apply Kd.Q_alloc | apply Kd.Q_drewN | apply Kd.Q_drew)); first | exact HO_5.out | exact Kd.R_mono HO_5.out (fun _ hk_ => by have h_ : ∀ (A : Option Addr) (n c : Nat), (Value.slice A n c).ownBlock = A.map (·.block) := fun A _ _ => (by cases A <;> rfl); simpa only [h_] using hk_)⟩, ⟨by (with_reducible repeat (first | apply Kd.Q_alloc | apply Kd.Q_drewN | apply Kd.Q_drew)); first | exact HO_6.out | exact Kd.R_mono HO_6.out (fun _ hk_ => by have h_ : ∀ (A : Option Addr) (n c : Nat), (Value.slice A n c).ownBlock = A.map (·.block) := fun A _ _ => (by cases A <;> rfl); simpa only [h_] using hk_)⟩, ⟨by repeat (first | (with_reducible first | exact HB.out | apply below_alloc | apply pw_below_drewN | apply below_drew1) | exact HB.out)⟩⟩
 case rest =>
  clear HC5
  try clear c1
  try clear q1
  try clear p2
  try clear c4
  try clear c8
  try clear c8b0
  try clear c8b1
  try clear c9
  try clear c9b0
  try clear c9b1
  try clear p9
  try clear q9
  try clear hx9
  try clear qi9
  try clear c10
  try clear c10b0
  try clear c10b1
  try clear c11
  try clear c11b0
  try clear c11b1
  try clear c12
  try clear c12b0
  try clear c12b1
  try clear c13
  try clear c13b0
  try clear c13b1
  try clear c14
  try clear c14b0
  try clear c14b1
  try clear c17
  try clear q17
  try clear c18
  try clear q18
  try clear hx965_0
  try clear hx966_0
  try clear p2
  try clear p965
  try clear p966
  try clear q17
  try clear q18
  try clear q965
  try clear q966
  obtain ⟨kq, x5_4, x6_4, HA, HJ4, HO_5, HO_6, HB⟩ := hcut
  cases kq with
  | zero => exact absurd HA.out (by simp [target_Relative.j1])
  | succ kj4 =>
   have H := HA.out
   clear HA
   simp only [target_Relative.j1] at H
   have H' := Aside0.mk H
   clear H
   obtain ⟨Ao24, co24, eo24, _⟩ := Kd.Q_slice HO_5.out
   subst eo24
   go_wp2
   repeat (go_quiet (fail); try go_wp2)
   go_loopg [7, 35] kj4 (fun kq v7 v35 w' => ∃ (x7_2 : List ByteArray) (x35_2 : Int), v35 = .int .i64 x35_2 ∧ Aside0 (target_Relative.l1 kq x6_4 x7_2 (x5_4.length : Int) x35_2 = some r) ∧ Aside0 (kq ≤ kj4) ∧ Aside0 (Kd.Q Kd.string 9 w' w.heap.size (fun k_ => some k_ ≠ (v7 : Value).ownBlock) u6 x6_4) ∧ Aside0 (Kd.R Kd.string 9 w' w.heap.size (fun k_ => some k_ ≠ (u6 : Value).ownBlock) v7 x7_2) ∧ Aside0 (Below w.heap.size w w'))
   case atStart => exact ⟨(([] : List ByteArray)), (0), (by first | rfl | (simp; done) | (simp [*]; done)), H', ⟨Nat.le_refl _⟩, ⟨by (with_reducible repeat (first | apply Kd.Q_alloc | apply Kd.Q_drewN | apply Kd.Q_drew)); exact Kd.Q_mono HO_6.out (fun _ hk => (by simp [Value.ownBlock]))⟩, ⟨by first | exact Kd.R_nil _ _ _ _ _ | exact Kd.N_nil _ _ _ _ _ | exact Kd.V_nil _ _ _ _ _ | exact Kd.Q_nil _ _ _ _ _ | exact Kd.S_nil _ _ _ _ _⟩, ⟨by repeat (first | (with_reducible first | exact HB.out | apply below_alloc | apply pw_below_drewN | apply below_drew1) | exact HB.out)⟩⟩
   case round =>
    clear H'
    try clear c1
    try clear q1
    try clear p2
    try clear c4
    try clear c8
    try clear c8b0
    try clear c8b1
    try clear c9
    try clear c9b0
    try clear c9b1
    try clear p9
    try clear q9
    try clear hx9
    try clear qi9
    try clear c10
    try clear c10b0
    try clear c10b1
    try clear c11
    try clear c11b0
    try clear c11b1
    try clear c12
    try clear c12b0
    try clear c12b1
    try clear c13
    try clear c13b0
    try clear c13b1
    try clear c14
    try clear c14b0
    try clear c14b1
    try clear c17
    try clear q17
    try clear c18
    try clear q18
    try clear hx965_0
    try clear hx966_0
    try clear p2
    try clear p9
    try clear p965
    try clear p966
    try clear q1
    try clear q17
    try clear q18
    try clear q9
    try clear q965
    try clear q966
    obtain ⟨x7_2, x35_2, rfl, HA, HK2, HO_6, HO_7, HB⟩ := hrel
    cases gk with
    | zero => exact absurd HA.out (by simp [target_Relative.l1])
    | succ k2 =>
     have H := HA.out
     clear HA
     simp only [target_Relative.l1] at H
     by_cases c25 : x35_2 < (x5_4.length : Int)
     ·rw [if_pos c25] at H
      have c25b0 : decide (x35_2 < (x5_4.length : Int)) = true := decide_eq_true c25
      clear c25
      by_cases c26 : x7_2.length < 8796093022208
      ·rw [if_pos c26] at H
       have LMc26 := Aside0.mk c26
       clear c26
       obtain ⟨y973, hy973⟩ : ∃ y_ : List ByteArray, y_ = (x7_2 ++ [(⟨#[46, 46]⟩ : ByteArray)]) := ⟨_, rfl⟩
       replace H : (target_Relative.l1 k2 x6_4 y973 (x5_4.length : Int) (wrap64 (x35_2 + 1))) = some r := by first | (rw [hy973]; with_reducible exact H) | (have H2_ := (Option.bind_some _ _).symm.trans H; rw [hy973]; with_reducible exact H2_) | (have H2_ := (Option.bind_some _ _).symm.trans H; with_reducible exact H2_) | with_reducible exact H | (rw [hy973]; exact H) | exact H
       have Ny973 := Aside0.mk hy973
       clear hy973
       have H' := Aside0.mk H
       clear H
       go_wp2_with (first | ((with_reducible refine gate_builtin (b := .append) (xs := #[.tmp 37, .tmp 38]) rfl ?_); (try (refine gate_guard (by rfl) ?_; dsimp only)); at_builtin; refine Kd.R_append Kd.string (w0 := w) w.heap.size rfl (.tmp 37) (.tmp 38) 45 9 (.string ⟨#[]⟩) 16 rfl Tryd.underlying45 info9 rfl (by decide) (by omega) u7 x7_2 (⟨#[46, 46]⟩ : ByteArray) [.string (⟨#[46, 46]⟩ : ByteArray)] (fun k_ => some k_ ≠ (u6 : Value).ownBlock) (fun _ => False) rfl rfl ?aP (fun _ hk => hk.elim) ?aF ?aO ?aB ?aS ?aL ?_; (case aP => exact rfl); (case aB => exact (by repeat (first | (with_reducible first | exact HB.out | apply below_alloc | apply pw_below_drewN | apply below_drew1) | exact HB.out))); (case aF => exact (fun k_ hk => Kd.fresh' (Kd.Q_lt (by (with_reducible repeat (first | apply Kd.Q_alloc | apply Kd.Q_drewN | apply Kd.Q_drew)); exact HO_6.out)) k_ hk)); (case aO => exact (by (with_reducible repeat (first | apply Kd.R_alloc | apply Kd.R_drewN | apply Kd.R_drew)); exact HO_7.out)); (case aS => exact (below_size (by repeat (first | (with_reducible first | exact HB.out | apply below_alloc | apply pw_below_drewN | apply below_drew1) | exact HB.out)))); (case aL => have := LMc26.out; omega); intro v974 w27 ho hb hg hat; rw [← Ny973.out] at ho; have n0_ := Aside0.mk (Kd.Q_after (ok := (fun _ => True)) (by (with_reducible repeat (first | apply Kd.Q_alloc | apply Kd.Q_drewN | apply Kd.Q_drew)); exact Kd.Q_mono HO_6.out (fun _ hk => ⟨trivial, hk⟩)) hg hat); have n1_ := Aside0.mk (hb); have n2_ := Aside0.mk (ho); clear HO_6; clear HB; clear HO_7; have HO_6 := n0_; have HB := n1_; have HO975 := n2_; clear n0_ n1_ n2_; clear ho hb hg hat))
       repeat (go_quiet (first | ((with_reducible refine gate_builtin (b := .append) (xs := #[.tmp 37, .tmp 38]) rfl ?_); (try (refine gate_guard (by rfl) ?_; dsimp only)); at_builtin; refine Kd.R_append Kd.string (w0 := w) w.heap.size rfl (.tmp 37) (.tmp 38) 45 9 (.string ⟨#[]⟩) 16 rfl Tryd.underlying45 info9 rfl (by decide) (by omega) u7 x7_2 (⟨#[46, 46]⟩ : ByteArray) [.string (⟨#[46, 46]⟩ : ByteArray)] (fun k_ => some k_ ≠ (u6 : Value).ownBlock) (fun _ => False) rfl rfl ?aP (fun _ hk => hk.elim) ?aF ?aO ?aB ?aS ?aL ?_; (case aP => exact rfl); (case aB => exact (by repeat (first | (with_reducible first | exact HB.out | apply below_alloc | apply pw_below_drewN | apply below_drew1) | exact HB.out))); (case aF => exact (fun k_ hk => Kd.fresh' (Kd.Q_lt (by (with_reducible repeat (first | apply Kd.Q_alloc | apply Kd.Q_drewN | apply Kd.Q_drew)); exact HO_6.out)) k_ hk)); (case aO => exact (by (with_reducible repeat (first | apply Kd.R_alloc | apply Kd.R_drewN | apply Kd.R_drew)); exact HO_7.out)); (case aS => exact (below_size (by repeat (first | (with_reducible first | exact HB.out | apply below_alloc | apply pw_below_drewN | apply below_drew1) | exact HB.out)))); (case aL => have := LMc26.out; omega); intro v974 w27 ho hb hg hat; rw [← Ny973.out] at ho; have n0_ := Aside0.mk (Kd.Q_after (ok := (fun _ => True)) (by (with_reducible repeat (first | apply Kd.Q_alloc | apply Kd.Q_drewN | apply Kd.Q_drew)); exact Kd.Q_mono HO_6.out (fun _ hk => ⟨trivial, hk⟩)) hg hat); have n1_ := Aside0.mk (hb); have n2_ := Aside0.mk (ho); clear HO_6; clear HB; clear HO_7; have HO_6 := n0_; have HB := n1_; have HO975 := n2_; clear n0_ n1_ n2_; clear ho hb hg hat)); try go_wp2_with (first | ((with_reducible refine gate_builtin (b := .append) (xs := #[.tmp 37, .tmp 38]) rfl ?_); (try (refine gate_guard (by rfl) ?_; dsimp only)); at_builtin; refine Kd.R_append Kd.string (w0 := w) w.heap.size rfl (.tmp 37) (.tmp 38) 45 9 (.string ⟨#[]⟩) 16 rfl Tryd.underlying45 info9 rfl (by decide) (by omega) u7 x7_2 (⟨#[46, 46]⟩ : ByteArray) [.string (⟨#[46, 46]⟩ : ByteArray)] (fun k_ => some k_ ≠ (u6 : Value).ownBlock) (fun _ => False) rfl rfl ?aP (fun _ hk => hk.elim) ?aF ?aO ?aB ?aS ?aL ?_; (case aP => exact rfl); (case aB => exact (by repeat (first | (with_reducible first | exact HB.out | apply below_alloc | apply pw_below_drewN | apply below_drew1) | exact HB.out))); (case aF => exact (fun k_ hk => Kd.fresh' (Kd.Q_lt (by (with_reducible repeat (first | apply Kd.Q_alloc | apply Kd.Q_drewN | apply Kd.Q_drew)); exact HO_6.out)) k_ hk)); (case aO => exact (by (with_reducible repeat (first | apply Kd.R_alloc | apply Kd.R_drewN | apply Kd.R_drew)); exact HO_7.out)); (case aS => exact (below_size (by repeat (first | (with_reducible first | exact HB.out | apply below_alloc | apply pw_below_drewN | apply below_drew1) | exact HB.out)))); (case aL => have := LMc26.out; omega); intro v974 w27 ho hb hg hat; rw [← Ny973.out] at ho; have n0_ := Aside0.mk (Kd.Q_after (ok := (fun _ => True)) (by (with_reducible repeat (first | apply Kd.Q_alloc | apply Kd.Q_drewN | apply Kd.Q_drew)); exact Kd.Q_mono HO_6.out (fun _ hk => ⟨trivial, hk⟩)) hg hat); have n1_ := Aside0.mk (hb); have n2_ := Aside0.mk (ho); clear HO_6; clear HB; clear HO_7; have HO_6 := n0_; have HB := n1_; have HO975 := n2_; clear n0_ n1_ n2_; clear ho hb hg hat)))
       go_roundg k2
       case measure => have := HJ4.out; have := HK2.out; omega
       case rel => exact ⟨(y973), (wrap64 (x35_2 + 1)), (by first | rfl | (simp; done) | (simp [*]; done)), H', ⟨by have := HJ4.out; have := HK2.out; omega⟩, ⟨by (with_reducible repeat (first | apply Kd.Q_alloc | apply Kd.Q_drewN | apply Kd.Q_drew)); exact Kd.Q_mono HO_6.out (fun _ hk => hk.2)⟩, ⟨by (with_reducible repeat (first | apply Kd.R_alloc | apply Kd.R_drewN | apply Kd.R_drew)); first | exact HO975.out | exact Kd.R_mono HO975.out (fun _ hk_ => by have h_ : ∀ (A : Option Addr) (n c : Nat), (Value.slice A n c).ownBlock = A.map (·.block) := fun A _ _ => (by cases A <;> rfl); simpa only [h_] using hk_)⟩, ⟨by repeat (first | (with_reducible first | exact HB.out | apply below_alloc | apply pw_below_drewN | apply below_drew1) | exact HB.out)⟩⟩
      ·rw [if_neg c26] at H
       exact absurd H (by simp)
     ·rw [if_neg c25] at H
      have c25b0 : decide (x35_2 < (x5_4.length : Int)) = false := decide_eq_false c25
      clear c25
      by_cases c28 : x7_2.length + x6_4.length < 8796093022208
      ·rw [if_pos c28] at H
       have LMc28 := Aside0.mk c28
       clear c28
       obtain ⟨y976, hy976⟩ : ∃ y_ : List ByteArray, y_ = (x7_2 ++ x6_4) := ⟨_, rfl⟩
       replace H : (if (y976.length : Int) = 0 then (some (⟨#[46]⟩ : ByteArray)) else ((path_Join.f y976).bind fun t979 => (some t979))) = some r := by first | (rw [hy976]; with_reducible exact H) | (have H2_ := (Option.bind_some _ _).symm.trans H; rw [hy976]; with_reducible exact H2_) | (have H2_ := (Option.bind_some _ _).symm.trans H; with_reducible exact H2_) | with_reducible exact H | (rw [hy976]; exact H) | exact H
       have Ny976 := Aside0.mk hy976
       clear hy976
       by_cases c29 : (y976.length : Int) = 0
       ·rw [if_pos c29] at H
        have c29b0 : ((y976.length : Int) == 0) = true := beq_iff_eq.mpr c29
        have c29b1 : ((y976.length : Int) != 0) = false := bne_eq_false_iff_eq.mpr c29
        clear c29
        obtain rfl := Option.some.inj H
        obtain ⟨Ao31, co31, eo31, _⟩ := Kd.Q_slice HO_6.out
        subst eo31
        go_wp2_with (first | ((with_reducible refine gate_builtin (b := .append) (xs := #[.tmp 41, .tmp 42]) rfl ?_); (try (refine gate_guard (by rfl) ?_; dsimp only)); at_builtin; refine Kd.R_append_rows Kd.string (w0 := w) w.heap.size rfl (.tmp 41) (.tmp 42) 45 9 (.string ⟨#[]⟩) 16 rfl Tryd.underlying45 info9 rfl (by decide) (by omega) u7 x7_2 x6_4 _ _ _ (fun k_ => some k_ ≠ (.slice Ao31 x6_4.length co31 : Value).ownBlock) (fun _ => False) rfl rfl ?aO ?aR (fun _ _ h => h) (fun _ h => h.elim) ?aF ?aB ?aS ?aL ?_; (case aR => repeat (first | exact (Kd.Q_reads' HO_6.out).2.2 | (with_reducible refine Kd.C_alloc ?_ _) | (with_reducible refine Kd.C_drewN ?_ _) | (with_reducible refine Kd.C_drew ?_))); (case aB => exact (by repeat (first | (with_reducible first | exact HB.out | apply below_alloc | apply pw_below_drewN | apply below_drew1) | exact HB.out))); (case aF => exact (fun k_ hk => Kd.fresh' (Kd.Q_lt (by (with_reducible repeat (first | apply Kd.Q_alloc | apply Kd.Q_drewN | apply Kd.Q_drew)); exact HO_6.out)) k_ hk)); (case aO => exact (by (with_reducible repeat (first | apply Kd.R_alloc | apply Kd.R_drewN | apply Kd.R_drew)); exact HO_7.out)); (case aS => exact (below_size (by repeat (first | (with_reducible first | exact HB.out | apply below_alloc | apply pw_below_drewN | apply below_drew1) | exact HB.out)))); (case aL => have := LMc28.out; omega); intro v977 w30 ho hb hg hat; rw [← Ny976.out] at ho; have n0_ := Aside0.mk (Kd.Q_after (ok := (fun _ => True)) (by (with_reducible repeat (first | apply Kd.Q_alloc | apply Kd.Q_drewN | apply Kd.Q_drew)); exact Kd.Q_mono HO_6.out (fun _ hk => ⟨trivial, hk⟩)) hg hat); have n1_ := Aside0.mk (hb); have n2_ := Aside0.mk (ho); clear HO_6; clear HB; clear HO_7; have HO_6 := n0_; have HB := n1_; have HO978 := n2_; clear n0_ n1_ n2_; clear ho hb hg hat; obtain ⟨Ao32, co32, eo32⟩ := Kd.R_slice HO978.out; subst eo32))
        repeat (go_quiet (first | ((with_reducible refine gate_builtin (b := .append) (xs := #[.tmp 41, .tmp 42]) rfl ?_); (try (refine gate_guard (by rfl) ?_; dsimp only)); at_builtin; refine Kd.R_append_rows Kd.string (w0 := w) w.heap.size rfl (.tmp 41) (.tmp 42) 45 9 (.string ⟨#[]⟩) 16 rfl Tryd.underlying45 info9 rfl (by decide) (by omega) u7 x7_2 x6_4 _ _ _ (fun k_ => some k_ ≠ (.slice Ao31 x6_4.length co31 : Value).ownBlock) (fun _ => False) rfl rfl ?aO ?aR (fun _ _ h => h) (fun _ h => h.elim) ?aF ?aB ?aS ?aL ?_; (case aR => repeat (first | exact (Kd.Q_reads' HO_6.out).2.2 | (with_reducible refine Kd.C_alloc ?_ _) | (with_reducible refine Kd.C_drewN ?_ _) | (with_reducible refine Kd.C_drew ?_))); (case aB => exact (by repeat (first | (with_reducible first | exact HB.out | apply below_alloc | apply pw_below_drewN | apply below_drew1) | exact HB.out))); (case aF => exact (fun k_ hk => Kd.fresh' (Kd.Q_lt (by (with_reducible repeat (first | apply Kd.Q_alloc | apply Kd.Q_drewN | apply Kd.Q_drew)); exact HO_6.out)) k_ hk)); (case aO => exact (by (with_reducible repeat (first | apply Kd.R_alloc | apply Kd.R_drewN | apply Kd.R_drew)); exact HO_7.out)); (case aS => exact (below_size (by repeat (first | (with_reducible first | exact HB.out | apply below_alloc | apply pw_below_drewN | apply below_drew1) | exact HB.out)))); (case aL => have := LMc28.out; omega); intro v977 w30 ho hb hg hat; rw [← Ny976.out] at ho; have n0_ := Aside0.mk (Kd.Q_after (ok := (fun _ => True)) (by (with_reducible repeat (first | apply Kd.Q_alloc | apply Kd.Q_drewN | apply Kd.Q_drew)); exact Kd.Q_mono HO_6.out (fun _ hk => ⟨trivial, hk⟩)) hg hat); have n1_ := Aside0.mk (hb); have n2_ := Aside0.mk (ho); clear HO_6; clear HB; clear HO_7; have HO_6 := n0_; have HB := n1_; have HO978 := n2_; clear n0_ n1_ n2_; clear ho hb hg hat; obtain ⟨Ao32, co32, eo32⟩ := Kd.R_slice HO978.out; subst eo32)); try go_wp2_with (first | ((with_reducible refine gate_builtin (b := .append) (xs := #[.tmp 41, .tmp 42]) rfl ?_); (try (refine gate_guard (by rfl) ?_; dsimp only)); at_builtin; refine Kd.R_append_rows Kd.string (w0 := w) w.heap.size rfl (.tmp 41) (.tmp 42) 45 9 (.string ⟨#[]⟩) 16 rfl Tryd.underlying45 info9 rfl (by decide) (by omega) u7 x7_2 x6_4 _ _ _ (fun k_ => some k_ ≠ (.slice Ao31 x6_4.length co31 : Value).ownBlock) (fun _ => False) rfl rfl ?aO ?aR (fun _ _ h => h) (fun _ h => h.elim) ?aF ?aB ?aS ?aL ?_; (case aR => repeat (first | exact (Kd.Q_reads' HO_6.out).2.2 | (with_reducible refine Kd.C_alloc ?_ _) | (with_reducible refine Kd.C_drewN ?_ _) | (with_reducible refine Kd.C_drew ?_))); (case aB => exact (by repeat (first | (with_reducible first | exact HB.out | apply below_alloc | apply pw_below_drewN | apply below_drew1) | exact HB.out))); (case aF => exact (fun k_ hk => Kd.fresh' (Kd.Q_lt (by (with_reducible repeat (first | apply Kd.Q_alloc | apply Kd.Q_drewN | apply Kd.Q_drew)); exact HO_6.out)) k_ hk)); (case aO => exact (by (with_reducible repeat (first | apply Kd.R_alloc | apply Kd.R_drewN | apply Kd.R_drew)); exact HO_7.out)); (case aS => exact (below_size (by repeat (first | (with_reducible first | exact HB.out | apply below_alloc | apply pw_below_drewN | apply below_drew1) | exact HB.out)))); (case aL => have := LMc28.out; omega); intro v977 w30 ho hb hg hat; rw [← Ny976.out] at ho; have n0_ := Aside0.mk (Kd.Q_after (ok := (fun _ => True)) (by (with_reducible repeat (first | apply Kd.Q_alloc | apply Kd.Q_drewN | apply Kd.Q_drew)); exact Kd.Q_mono HO_6.out (fun _ hk => ⟨trivial, hk⟩)) hg hat); have n1_ := Aside0.mk (hb); have n2_ := Aside0.mk (ho); clear HO_6; clear HB; clear HO_7; have HO_6 := n0_; have HB := n1_; have HO978 := n2_; clear n0_ n1_ n2_; clear ho hb hg hat; obtain ⟨Ao32, co32, eo32⟩ := Kd.R_slice HO978.out; subst eo32)))
        all_goals (go_ret; exact ⟨by first | rfl | (simp [errW_none, errW_some] <;> rfl) | (simp [*, errW_none, errW_some] <;> rfl), by repeat (first | (with_reducible first | exact HB.out | apply below_alloc | apply pw_below_drewN | apply below_drew1) | exact HB.out)⟩)
       ·rw [if_neg c29] at H
        have c29b0 : ((y976.length : Int) == 0) = false := beq_eq_false_iff_ne.mpr c29
        have c29b1 : ((y976.length : Int) != 0) = true := bne_iff_ne.mpr c29
        have c29b2 : ¬ (y976 = []) := fun h_ => c29 (by rw [h_]; rfl)
        replace H := Option.bind_eq_some_iff.mp H
        obtain ⟨t979, A330, H⟩ := H
        replace H : (some t979) = some r := H
        have A33 := Aside0.mk A330
        clear A330
        obtain rfl := Option.some.inj H
        obtain ⟨Ao35, co35, eo35, _⟩ := Kd.Q_slice HO_6.out
        subst eo35
        go_wp2_with (first | ((with_reducible refine gate_builtin (b := .append) (xs := #[.tmp 41, .tmp 42]) rfl ?_); (try (refine gate_guard (by rfl) ?_; dsimp only)); at_builtin; refine Kd.R_append_rows Kd.string (w0 := w) w.heap.size rfl (.tmp 41) (.tmp 42) 45 9 (.string ⟨#[]⟩) 16 rfl Tryd.underlying45 info9 rfl (by decide) (by omega) u7 x7_2 x6_4 _ _ _ (fun k_ => some k_ ≠ (.slice Ao35 x6_4.length co35 : Value).ownBlock) (fun _ => False) rfl rfl ?aO ?aR (fun _ _ h => h) (fun _ h => h.elim) ?aF ?aB ?aS ?aL ?_; (case aR => repeat (first | exact (Kd.Q_reads' HO_6.out).2.2 | (with_reducible refine Kd.C_alloc ?_ _) | (with_reducible refine Kd.C_drewN ?_ _) | (with_reducible refine Kd.C_drew ?_))); (case aB => exact (by repeat (first | (with_reducible first | exact HB.out | apply below_alloc | apply pw_below_drewN | apply below_drew1) | exact HB.out))); (case aF => exact (fun k_ hk => Kd.fresh' (Kd.Q_lt (by (with_reducible repeat (first | apply Kd.Q_alloc | apply Kd.Q_drewN | apply Kd.Q_drew)); exact HO_6.out)) k_ hk)); (case aO => exact (by (with_reducible repeat (first | apply Kd.R_alloc | apply Kd.R_drewN | apply Kd.R_drew)); exact HO_7.out)); (case aS => exact (below_size (by repeat (first | (with_reducible first | exact HB.out | apply below_alloc | apply pw_below_drewN | apply below_drew1) | exact HB.out)))); (case aL => have := LMc28.out; omega); intro v977 w34 ho hb hg hat; rw [← Ny976.out] at ho; have n0_ := Aside0.mk (Kd.Q_after (ok := (fun _ => True)) (by (with_reducible repeat (first | apply Kd.Q_alloc | apply Kd.Q_drewN | apply Kd.Q_drew)); exact Kd.Q_mono HO_6.out (fun _ hk => ⟨trivial, hk⟩)) hg hat); have n1_ := Aside0.mk (hb); have n2_ := Aside0.mk (ho); clear HO_6; clear HB; clear HO_7; have HO_6 := n0_; have HB := n1_; have HO978 := n2_; clear n0_ n1_ n2_; clear ho hb hg hat; obtain ⟨Ao36, co36, eo36⟩ := Kd.R_slice HO978.out; subst eo36) | (go_at_call 24; (with_reducible refine (path_Join.calls _ _ y976 t979 _ ?side1 ?side2 A33.out).mono ?_); (case side1 => repeat (first | exact (Kd.R_reads' HO978.out).2.2 | (with_reducible refine Kd.C_alloc ?_ _) | (with_reducible refine Kd.C_drewN ?_ _) | (with_reducible refine Kd.C_drew ?_))); (case side2 => exact (Kd.R_reads' HO978.out).2.1); rintro e w37 ⟨rfl, hb⟩; have n0_ := Aside0.mk (Kd.Q_below (by (with_reducible repeat (first | apply Kd.Q_alloc | apply Kd.Q_drewN | apply Kd.Q_drew)); exact HO_6.out) hb); have n1_ := Aside0.mk (Kd.R_below (by (with_reducible repeat (first | apply Kd.R_alloc | apply Kd.R_drewN | apply Kd.R_drew)); exact HO978.out) hb); have n2_ := Aside0.mk (below_step (by repeat (first | (with_reducible first | exact HB.out | apply below_alloc | apply pw_below_drewN | apply below_drew1) | exact HB.out)) hb); clear HO_6; clear HO978; clear HB; have HO_6 := n0_; have HO978 := n1_; have HB := n2_; clear n0_ n1_ n2_; (try clear hb); (try clear hb2); (try clear hk); (try clear hi)))
        repeat (go_quiet (first | ((with_reducible refine gate_builtin (b := .append) (xs := #[.tmp 41, .tmp 42]) rfl ?_); (try (refine gate_guard (by rfl) ?_; dsimp only)); at_builtin; refine Kd.R_append_rows Kd.string (w0 := w) w.heap.size rfl (.tmp 41) (.tmp 42) 45 9 (.string ⟨#[]⟩) 16 rfl Tryd.underlying45 info9 rfl (by decide) (by omega) u7 x7_2 x6_4 _ _ _ (fun k_ => some k_ ≠ (.slice Ao35 x6_4.length co35 : Value).ownBlock) (fun _ => False) rfl rfl ?aO ?aR (fun _ _ h => h) (fun _ h => h.elim) ?aF ?aB ?aS ?aL ?_; (case aR => repeat (first | exact (Kd.Q_reads' HO_6.out).2.2 | (with_reducible refine Kd.C_alloc ?_ _) | (with_reducible refine Kd.C_drewN ?_ _) | (with_reducible refine Kd.C_drew ?_))); (case aB => exact (by repeat (first | (with_reducible first | exact HB.out | apply below_alloc | apply pw_below_drewN | apply below_drew1) | exact HB.out))); (case aF => exact (fun k_ hk => Kd.fresh' (Kd.Q_lt (by (with_reducible repeat (first | apply Kd.Q_alloc | apply Kd.Q_drewN | apply Kd.Q_drew)); exact HO_6.out)) k_ hk)); (case aO => exact (by (with_reducible repeat (first | apply Kd.R_alloc | apply Kd.R_drewN | apply Kd.R_drew)); exact HO_7.out)); (case aS => exact (below_size (by repeat (first | (with_reducible first | exact HB.out | apply below_alloc | apply pw_below_drewN | apply below_drew1) | exact HB.out)))); (case aL => have := LMc28.out; omega); intro v977 w34 ho hb hg hat; rw [← Ny976.out] at ho; have n0_ := Aside0.mk (Kd.Q_after (ok := (fun _ => True)) (by (with_reducible repeat (first | apply Kd.Q_alloc | apply Kd.Q_drewN | apply Kd.Q_drew)); exact Kd.Q_mono HO_6.out (fun _ hk => ⟨trivial, hk⟩)) hg hat); have n1_ := Aside0.mk (hb); have n2_ := Aside0.mk (ho); clear HO_6; clear HB; clear HO_7; have HO_6 := n0_; have HB := n1_; have HO978 := n2_; clear n0_ n1_ n2_; clear ho hb hg hat; obtain ⟨Ao36, co36, eo36⟩ := Kd.R_slice HO978.out; subst eo36) | (go_at_call 24; (with_reducible refine (path_Join.calls _ _ y976 t979 _ ?side1 ?side2 A33.out).mono ?_); (case side1 => repeat (first | exact (Kd.R_reads' HO978.out).2.2 | (with_reducible refine Kd.C_alloc ?_ _) | (with_reducible refine Kd.C_drewN ?_ _) | (with_reducible refine Kd.C_drew ?_))); (case side2 => exact (Kd.R_reads' HO978.out).2.1); rintro e w37 ⟨rfl, hb⟩; have n0_ := Aside0.mk (Kd.Q_below (by (with_reducible repeat (first | apply Kd.Q_alloc | apply Kd.Q_drewN | apply Kd.Q_drew)); exact HO_6.out) hb); have n1_ := Aside0.mk (Kd.R_below (by (with_reducible repeat (first | apply Kd.R_alloc | apply Kd.R_drewN | apply Kd.R_drew)); exact HO978.out) hb); have n2_ := Aside0.mk (below_step (by repeat (first | (with_reducible first | exact HB.out | apply below_alloc | apply pw_below_drewN | apply below_drew1) | exact HB.out)) hb); clear HO_6; clear HO978; clear HB; have HO_6 := n0_; have HO978 := n1_; have HB := n2_; clear n0_ n1_ n2_; (try clear hb); (try clear hb2); (try clear hk); (try clear hi))); try go_wp2_with (first | ((with_reducible refine gate_builtin (b := .append) (xs := #[.tmp 41, .tmp 42]) rfl ?_); (try (refine gate_guard (by rfl) ?_; dsimp only)); at_builtin; refine Kd.R_append_rows Kd.string (w0 := w) w.heap.size rfl (.tmp 41) (.tmp 42) 45 9 (.string ⟨#[]⟩) 16 rfl Tryd.underlying45 info9 rfl (by decide) (by omega) u7 x7_2 x6_4 _ _ _ (fun k_ => some k_ ≠ (.slice Ao35 x6_4.length co35 : Value).ownBlock) (fun _ => False) rfl rfl ?aO ?aR (fun _ _ h => h) (fun _ h => h.elim) ?aF ?aB ?aS ?aL ?_; (case aR => repeat (first | exact (Kd.Q_reads' HO_6.out).2.2 | (with_reducible refine Kd.C_alloc ?_ _) | (with_reducible refine Kd.C_drewN ?_ _) | (with_reducible refine Kd.C_drew ?_))); (case aB => exact (by repeat (first | (with_reducible first | exact HB.out | apply below_alloc | apply pw_below_drewN | apply below_drew1) | exact HB.out))); (case aF => exact (fun k_ hk => Kd.fresh' (Kd.Q_lt (by (with_reducible repeat (first | apply Kd.Q_alloc | apply Kd.Q_drewN | apply Kd.Q_drew)); exact HO_6.out)) k_ hk)); (case aO => exact (by (with_reducible repeat (first | apply Kd.R_alloc | apply Kd.R_drewN | apply Kd.R_drew)); exact HO_7.out)); (case aS => exact (below_size (by repeat (first | (with_reducible first | exact HB.out | apply below_alloc | apply pw_below_drewN | apply below_drew1) | exact HB.out)))); (case aL => have := LMc28.out; omega); intro v977 w34 ho hb hg hat; rw [← Ny976.out] at ho; have n0_ := Aside0.mk (Kd.Q_after (ok := (fun _ => True)) (by (with_reducible repeat (first | apply Kd.Q_alloc | apply Kd.Q_drewN | apply Kd.Q_drew)); exact Kd.Q_mono HO_6.out (fun _ hk => ⟨trivial, hk⟩)) hg hat); have n1_ := Aside0.mk (hb); have n2_ := Aside0.mk (ho); clear HO_6; clear HB; clear HO_7; have HO_6 := n0_; have HB := n1_; have HO978 := n2_; clear n0_ n1_ n2_; clear ho hb hg hat; obtain ⟨Ao36, co36, eo36⟩ := Kd.R_slice HO978.out; subst eo36) | (go_at_call 24; (with_reducible refine (path_Join.calls _ _ y976 t979 _ ?side1 ?side2 A33.out).mono ?_); (case side1 => repeat (first | exact (Kd.R_reads' HO978.out).2.2 | (with_reducible refine Kd.C_alloc ?_ _) | (with_reducible refine Kd.C_drewN ?_ _) | (with_reducible refine Kd.C_drew ?_))); (case side2 => exact (Kd.R_reads' HO978.out).2.1); rintro e w37 ⟨rfl, hb⟩; have n0_ := Aside0.mk (Kd.Q_below (by (with_reducible repeat (first | apply Kd.Q_alloc | apply Kd.Q_drewN | apply Kd.Q_drew)); exact HO_6.out) hb); have n1_ := Aside0.mk (Kd.R_below (by (with_reducible repeat (first | apply Kd.R_alloc | apply Kd.R_drewN | apply Kd.R_drew)); exact HO978.out) hb); have n2_ := Aside0.mk (below_step (by repeat (first | (with_reducible first | exact HB.out | apply below_alloc | apply pw_below_drewN | apply below_drew1) | exact HB.out)) hb); clear HO_6; clear HO978; clear HB; have HO_6 := n0_; have HO978 := n1_; have HB := n2_; clear n0_ n1_ n2_; (try clear hb); (try clear hb2); (try clear hk); (try clear hi))))
        all_goals (go_ret; exact ⟨by first | rfl | (simp [errW_none, errW_some] <;> rfl) | (simp [*, errW_none, errW_some] <;> rfl), by repeat (first | (with_reducible first | exact HB.out | apply below_alloc | apply pw_below_drewN | apply below_drew1) | exact HB.out)⟩)
      ·rw [if_neg c28] at H
       exact absurd H (by simp)

-- NOT PRINTED: function 15 (panniertop_WholeTree)

end Go.Proofs.YtolpamojbiipaaaDoor.XA
