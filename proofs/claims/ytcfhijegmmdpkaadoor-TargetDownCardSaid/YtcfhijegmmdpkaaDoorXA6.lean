-- Written by a program of this session (wip/tools/xprint.py) out of the translation's print. Lean checks it.
import Derived.Test.YtcfhijegmmdpkaaDoorXA0
import Derived.Test.YtcfhijegmmdpkaaDoorXA5
namespace Go.Proofs.YtcfhijegmmdpkaaDoor.XA
open Go.RowKit Go.Proofs.YtcfhijegmmdpkaaDoorW.PrintWords Go.Proofs.YtcfhijegmmdpkaaDoorW.PrintLast Go.Proofs.YtcfhijegmmdpkaaDoorW.PrintMore
attribute [local go_sem] max2_int min2_int max_two min_two max_three min_three max_four min_four   -- for this text's walks alone
set_option linter.unusedVariables false
set_option linter.unusedSimpArgs false

/-! ### pannierref10_Join: function 23 -/
def pannierref10_Join.l0 : Nat → List ByteArray → ByteArray → Int → Option (ByteArray)
 | 0, _, _, _ => none
 | k + 1, x0, x3, x4 => if x4 < (x0.length : Int) then (if x4 > 0 then (if x3.size + 1 ≤ 9223372036854775807 then (if 0 ≤ x4 then (if (x3 ++ (⟨#[47]⟩ : ByteArray)).size + (rdOf ByteArray.empty x0 x4).size ≤ 9223372036854775807 then (pannierref10_Join.l0 k x0 ((x3 ++ (⟨#[47]⟩ : ByteArray)) ++ (rdOf ByteArray.empty x0 x4)) (wrap64 (x4 + 1))) else (none)) else (none)) else (none)) else (if 0 ≤ x4 then (if x3.size + (rdOf ByteArray.empty x0 x4).size ≤ 9223372036854775807 then (pannierref10_Join.l0 k x0 (x3 ++ (rdOf ByteArray.empty x0 x4)) (wrap64 (x4 + 1))) else (none)) else (none))) else (some x3)
def pannierref10_Join.f (k : Nat) (l0 : List ByteArray) : Option (ByteArray) := pannierref10_Join.l0 k l0 (⟨#[]⟩ : ByteArray) 0
theorem pannierref10_Join.mono_l : ∀ k, (∀ y0 y1 y2, LeO (pannierref10_Join.l0 k y0 y1 y2) (pannierref10_Join.l0 (k + 1) y0 y1 y2))
 | 0 => fun _ _ _ r h => by simp [pannierref10_Join.l0] at h
 | k + 1 => by
  have ih0 := pannierref10_Join.mono_l k
  ·intro y0 y1 y2
   unfold pannierref10_Join.l0
   repeat' first
   | (with_reducible exact ih0 _ _ _)
   | (with_reducible exact LeO.refl _)
   | (with_reducible exact LeO.none _)
   | (with_reducible refine LeO.ite ?_ ?_)
   | (with_reducible refine LeO.bind ?_ (fun _ => ?_))
   | exact ih0 _ _ _
   | exact LeO.none _
   | refine LeO.ite ?_ ?_
   | refine LeO.bind ?_ (fun _ => ?_)
theorem pannierref10_Join.mono : ∀ a0 k, LeO (pannierref10_Join.f k a0) (pannierref10_Join.f (k + 1) a0) := by
 intro a0 k
 have ih0 := pannierref10_Join.mono_l k
 unfold pannierref10_Join.f
 repeat' first
   | (with_reducible exact ih0 _ _ _)
   | (with_reducible exact LeO.refl _)
   | (with_reducible exact LeO.none _)
   | (with_reducible refine LeO.ite ?_ ?_)
   | (with_reducible refine LeO.bind ?_ (fun _ => ?_))
   | exact ih0 _ _ _
   | exact LeO.none _
   | refine LeO.ite ?_ ?_
   | refine LeO.bind ?_ (fun _ => ?_)
set_option maxHeartbeats 8000000 in
set_option maxRecDepth 100000 in
theorem pannierref10_Join.calls (k : Nat) (A0 : Option Addr) (c0 : Nat) (l0 : List ByteArray) (r : ByteArray) (w : World) (hr0 : Kd.C Kd.string w A0 l0.length l0) (hc0 : l0.length ≤ c0) (h : pannierref10_Join.f k l0 = some r) :
  Calls Tryd.prog 23 #[.slice A0 l0.length c0] w fun e w' => e = .returned (.string r) ∧ Drawn0 w w' := by
 have HR0 := Aside0.mk hr0
 have HC0 := Aside0.mk hc0
 clear hr0 hc0
 have H : (pannierref10_Join.l0 k l0 (⟨#[]⟩ : ByteArray) 0) = some r := h
 clear h
 have H' := Aside0.mk H
 clear H
 go_enter Tryd.func23, Tryd.ntmps23
 go_wp2
 go_loopg [3, 4] k (fun kq v3 v4 w' => ∃ (x3_1 : ByteArray) (x4_1 : Int), v3 = .string x3_1 ∧ v4 = .int .i64 x4_1 ∧ Aside0 (pannierref10_Join.l0 kq l0 x3_1 x4_1 = some r) ∧ Aside0 (kq ≤ k) ∧ Drawn0 w w')
 case atStart => exact ⟨((⟨#[]⟩ : ByteArray)), (0), (by first | rfl | (simp; done) | (simp [*]; done)), (by first | rfl | (simp; done) | (simp [*]; done)), H', ⟨Nat.le_refl _⟩, by repeat (first | exact Drawn0.refl _ | apply Drawn0.step)⟩
 case round =>
  clear H'
  obtain ⟨x3_1, x4_1, rfl, rfl, HA, HK1, ⟨m1, rfl⟩⟩ := hrel
  cases gk with
  | zero => exact absurd HA.out (by simp [pannierref10_Join.l0])
  | succ k1 =>
   have H := HA.out
   clear HA
   simp only [pannierref10_Join.l0] at H
   by_cases c2 : x4_1 < (l0.length : Int)
   ·rw [if_pos c2] at H
    have c2b0 : decide (x4_1 < (l0.length : Int)) = true := decide_eq_true c2
    clear c2
    by_cases c3 : x4_1 > 0
    ·rw [if_pos c3] at H
     have c3b0 : decide (0 < x4_1) = true := decide_eq_true c3
     clear c3
     by_cases c4 : x3_1.size + 1 ≤ 9223372036854775807
     ·rw [if_pos c4] at H
      have c4b0 := eq_true c4
      have c4b1 : decide (x3_1.size + 1 ≤ 9223372036854775807) = true := decide_eq_true c4
      try have c4b2 : (9223372036854775807 < x3_1.size + 1) = False := eq_false (Nat.not_lt.2 c4)
      by_cases c5 : 0 ≤ x4_1
      ·rw [if_pos c5] at H
       have c5b0 : decide (0 ≤ x4_1) = true := decide_eq_true c5
       clear c5
       by_cases c6 : (x3_1 ++ (⟨#[47]⟩ : ByteArray)).size + (rdOf ByteArray.empty l0 x4_1).size ≤ 9223372036854775807
       ·rw [if_pos c6] at H
        have c6b0 := eq_true c6
        have c6b1 : decide ((x3_1 ++ (⟨#[47]⟩ : ByteArray)).size + (rdOf ByteArray.empty l0 x4_1).size ≤ 9223372036854775807) = true := decide_eq_true c6
        try have c6b2 : (9223372036854775807 < (x3_1 ++ (⟨#[47]⟩ : ByteArray)).size + (rdOf ByteArray.empty l0 x4_1).size) = False := eq_false (Nat.not_lt.2 c6)
        have H' := Aside0.mk H
        clear H
        have p148 : 0 ≤ (x4_1 : Int) := of_decide_eq_true (by first | (with_reducible assumption) | assumption)
        have q148 : x4_1 < (l0.length : Int) := of_decide_eq_true (by first | (with_reducible assumption) | assumption)
        obtain ⟨ad148, e148, hx148_0⟩ := Kd.at_string HR0.out x4_1 p148 q148
        cases e148
        replace p148 := eq_true p148
        replace q148 := eq_true q148
        go_wp2
        go_roundg k1
        case measure => have := HK1.out; omega
        case rel => exact ⟨((x3_1 ++ (⟨#[47]⟩ : ByteArray)) ++ (rdOf ByteArray.empty l0 x4_1)), (wrap64 (x4_1 + 1)), (by first | rfl | (simp; done) | (simp [*]; done)), (by first | rfl | (simp; done) | (simp [*]; done)), H', ⟨by have := HK1.out; omega⟩, by repeat (first | exact Drawn0.refl _ | apply Drawn0.step)⟩
       ·rw [if_neg c6] at H
        exact absurd H (by simp)
      ·rw [if_neg c5] at H
       exact absurd H (by simp)
     ·rw [if_neg c4] at H
      exact absurd H (by simp)
    ·rw [if_neg c3] at H
     have c3b0 : decide (0 < x4_1) = false := decide_eq_false c3
     clear c3
     by_cases c7 : 0 ≤ x4_1
     ·rw [if_pos c7] at H
      have c7b0 : decide (0 ≤ x4_1) = true := decide_eq_true c7
      clear c7
      by_cases c8 : x3_1.size + (rdOf ByteArray.empty l0 x4_1).size ≤ 9223372036854775807
      ·rw [if_pos c8] at H
       have c8b0 := eq_true c8
       have c8b1 : decide (x3_1.size + (rdOf ByteArray.empty l0 x4_1).size ≤ 9223372036854775807) = true := decide_eq_true c8
       try have c8b2 : (9223372036854775807 < x3_1.size + (rdOf ByteArray.empty l0 x4_1).size) = False := eq_false (Nat.not_lt.2 c8)
       have H' := Aside0.mk H
       clear H
       have p149 : 0 ≤ (x4_1 : Int) := of_decide_eq_true (by first | (with_reducible assumption) | assumption)
       have q149 : x4_1 < (l0.length : Int) := of_decide_eq_true (by first | (with_reducible assumption) | assumption)
       obtain ⟨ad149, e149, hx149_0⟩ := Kd.at_string HR0.out x4_1 p149 q149
       cases e149
       replace p149 := eq_true p149
       replace q149 := eq_true q149
       go_wp2
       go_roundg k1
       case measure => have := HK1.out; omega
       case rel => exact ⟨(x3_1 ++ (rdOf ByteArray.empty l0 x4_1)), (wrap64 (x4_1 + 1)), (by first | rfl | (simp; done) | (simp [*]; done)), (by first | rfl | (simp; done) | (simp [*]; done)), H', ⟨by have := HK1.out; omega⟩, by repeat (first | exact Drawn0.refl _ | apply Drawn0.step)⟩
      ·rw [if_neg c8] at H
       exact absurd H (by simp)
     ·rw [if_neg c7] at H
      exact absurd H (by simp)
   ·rw [if_neg c2] at H
    have c2b0 : decide (x4_1 < (l0.length : Int)) = false := decide_eq_false c2
    clear c2
    obtain rfl := Option.some.inj H
    go_wp2
    all_goals (go_ret; exact ⟨by first | rfl | (simp; done) | (simp [*]; done), by repeat (first | exact Drawn0.refl _ | apply Drawn0.step)⟩)

/-! ### pannierref10_Less: function 26 -/
mutual
def pannierref10_Less.l0 : Nat → List ByteArray → List ByteArray → Int → Option (Bool)
 | 0, _, _, _ => none
 | k + 1, x5, x6, x7 => if x7 < (x5.length : Int) then (pannierref10_Less.j1 k x5 x6 x7 (decide (x7 < (x6.length : Int)))) else (pannierref10_Less.j1 k x5 x6 x7 false)
def pannierref10_Less.j1 : Nat → List ByteArray → List ByteArray → Int → Bool → Option (Bool)
 | 0, _, _, _, _ => none
 | k + 1, x5, x6, x7, x21 => if x21 = true then (if 0 ≤ x7 then (if x7 < (x5.length : Int) then (if x7 < (x6.length : Int) then (if (rdOf ByteArray.empty x5 x7).toList = (rdOf ByteArray.empty x6 x7).toList then (pannierref10_Less.l0 k x5 x6 (wrap64 (x7 + 1))) else (some (Op.bytesLess ((rdOf ByteArray.empty x5 x7).toList) ((rdOf ByteArray.empty x6 x7).toList)))) else (none)) else (none)) else (none)) else (some (decide ((x5.length : Int) < (x6.length : Int))))
end
def pannierref10_Less.f (k : Nat) (a0 : ByteArray) (a1 : ByteArray) : Option (Bool) := (pannierref10_Split.f k a0).bind fun t173 => ((pannierref10_Split.f k a1).bind fun t176 => (pannierref10_Less.l0 k t173 t176 0))
theorem pannierref10_Less.mono_l : ∀ k, (∀ y0 y1 y2, LeO (pannierref10_Less.l0 k y0 y1 y2) (pannierref10_Less.l0 (k + 1) y0 y1 y2)) ∧ (∀ y0 y1 y2 y3, LeO (pannierref10_Less.j1 k y0 y1 y2 y3) (pannierref10_Less.j1 (k + 1) y0 y1 y2 y3))
 | 0 => ⟨fun _ _ _ r h => by simp [pannierref10_Less.l0] at h, fun _ _ _ _ r h => by simp [pannierref10_Less.j1] at h⟩
 | k + 1 => by
  obtain ⟨ih0, ih1⟩ := pannierref10_Less.mono_l k
  refine ⟨?_, ?_⟩
  ·intro y0 y1 y2
   unfold pannierref10_Less.l0
   repeat' first
   | (with_reducible exact ih0 _ _ _)
   | (with_reducible exact ih1 _ _ _ _)
   | (with_reducible exact pannierref10_Split.mono _ _)
   | (with_reducible exact LeO.refl _)
   | (with_reducible exact LeO.none _)
   | (with_reducible refine LeO.ite ?_ ?_)
   | (with_reducible refine LeO.bind ?_ (fun _ => ?_))
   | exact ih0 _ _ _
   | exact ih1 _ _ _ _
   | exact pannierref10_Split.mono _ _
   | exact LeO.none _
   | refine LeO.ite ?_ ?_
   | refine LeO.bind ?_ (fun _ => ?_)
  ·intro y0 y1 y2 y3
   unfold pannierref10_Less.j1
   repeat' first
   | (with_reducible exact ih0 _ _ _)
   | (with_reducible exact ih1 _ _ _ _)
   | (with_reducible exact pannierref10_Split.mono _ _)
   | (with_reducible exact LeO.refl _)
   | (with_reducible exact LeO.none _)
   | (with_reducible refine LeO.ite ?_ ?_)
   | (with_reducible refine LeO.bind ?_ (fun _ => ?_))
   | exact ih0 _ _ _
   | exact ih1 _ _ _ _
   | exact pannierref10_Split.mono _ _
   | exact LeO.none _
   | refine LeO.ite ?_ ?_
   | refine LeO.bind ?_ (fun _ => ?_)
theorem pannierref10_Less.mono : ∀ a0 a1 k, LeO (pannierref10_Less.f k a0 a1) (pannierref10_Less.f (k + 1) a0 a1) := by
 intro a0 a1 k
 obtain ⟨ih0, ih1⟩ := pannierref10_Less.mono_l k
 unfold pannierref10_Less.f
 repeat' first
   | (with_reducible exact ih0 _ _ _)
   | (with_reducible exact ih1 _ _ _ _)
   | (with_reducible exact pannierref10_Split.mono _ _)
   | (with_reducible exact LeO.refl _)
   | (with_reducible exact LeO.none _)
   | (with_reducible refine LeO.ite ?_ ?_)
   | (with_reducible refine LeO.bind ?_ (fun _ => ?_))
   | exact ih0 _ _ _
   | exact ih1 _ _ _ _
   | exact pannierref10_Split.mono _ _
   | exact LeO.none _
   | refine LeO.ite ?_ ?_
   | refine LeO.bind ?_ (fun _ => ?_)
set_option maxHeartbeats 8000000 in
set_option maxRecDepth 100000 in
theorem pannierref10_Less.calls (k : Nat) (a0 : ByteArray) (a1 : ByteArray) (r : Bool) (w : World) (h : pannierref10_Less.f k a0 a1 = some r) :
  Calls Tryd.prog 26 #[.string a0, .string a1] w fun e w' => e = .returned (.bool r) ∧ Below w.heap.size w w' := by
 have HB := Aside0.mk (Below.refl w.heap.size w)
 have H : ((pannierref10_Split.f k a0).bind fun t173 => ((pannierref10_Split.f k a1).bind fun t176 => (pannierref10_Less.l0 k t173 t176 0))) = some r := h
 clear h
 replace H := Option.bind_eq_some_iff.mp H
 obtain ⟨t173, A30, H⟩ := H
 replace H : ((pannierref10_Split.f k a1).bind fun t176 => (pannierref10_Less.l0 k t173 t176 0)) = some r := H
 have A3 := Aside0.mk A30
 clear A30
 replace H := Option.bind_eq_some_iff.mp H
 obtain ⟨t176, A40, H⟩ := H
 replace H : (pannierref10_Less.l0 k t173 t176 0) = some r := H
 have A4 := Aside0.mk A40
 clear A40
 have H' := Aside0.mk H
 clear H
 go_enter Tryd.func26, Tryd.ntmps26
 go_wp2_with (first | (go_at_call 32; (with_reducible refine (pannierref10_Split.calls k a0 t173 _ A3.out).mono ?_); rintro e w5 ⟨v174, rfl, ho0, hb⟩; have n0_ := Aside0.mk (Kd.R_lower ho0 (below_size (by repeat (first | (with_reducible first | exact HB.out | apply below_alloc | apply pw_below_drewN | apply below_drew1) | exact HB.out)))); have n1_ := Aside0.mk (below_step (by repeat (first | (with_reducible first | exact HB.out | apply below_alloc | apply pw_below_drewN | apply below_drew1) | exact HB.out)) hb); clear HB; have HO175 := n0_; have HB := n1_; clear n0_ n1_; (try clear hb); (try clear hb2); (try clear hk); (try clear hi); (try clear ho0)) | (go_at_call 32; (with_reducible refine (pannierref10_Split.calls k a1 t176 _ A4.out).mono ?_); rintro e w6 ⟨v177, rfl, ho0, hb⟩; have n0_ := Aside0.mk (Kd.R_elder' (by (with_reducible repeat (first | apply Kd.R_alloc | apply Kd.R_drewN | apply Kd.R_drew)); exact HO175.out) (Kd.R_base ho0) hb); have n1_ := Aside0.mk (Kd.R_lower (Kd.R_new' ho0 (Kd.R_lt (by (with_reducible repeat (first | apply Kd.R_alloc | apply Kd.R_drewN | apply Kd.R_drew)); exact HO175.out))) (below_size (by repeat (first | (with_reducible first | exact HB.out | apply below_alloc | apply pw_below_drewN | apply below_drew1) | exact HB.out)))); have n2_ := Aside0.mk (below_step (by repeat (first | (with_reducible first | exact HB.out | apply below_alloc | apply pw_below_drewN | apply below_drew1) | exact HB.out)) hb); clear HO175; clear HB; have HO175 := n0_; have HO178 := n1_; have HB := n2_; clear n0_ n1_ n2_; (try clear hb); (try clear hb2); (try clear hk); (try clear hi); (try clear ho0)))
 repeat (go_quiet (first | (go_at_call 32; (with_reducible refine (pannierref10_Split.calls k a0 t173 _ A3.out).mono ?_); rintro e w5 ⟨v174, rfl, ho0, hb⟩; have n0_ := Aside0.mk (Kd.R_lower ho0 (below_size (by repeat (first | (with_reducible first | exact HB.out | apply below_alloc | apply pw_below_drewN | apply below_drew1) | exact HB.out)))); have n1_ := Aside0.mk (below_step (by repeat (first | (with_reducible first | exact HB.out | apply below_alloc | apply pw_below_drewN | apply below_drew1) | exact HB.out)) hb); clear HB; have HO175 := n0_; have HB := n1_; clear n0_ n1_; (try clear hb); (try clear hb2); (try clear hk); (try clear hi); (try clear ho0)) | (go_at_call 32; (with_reducible refine (pannierref10_Split.calls k a1 t176 _ A4.out).mono ?_); rintro e w6 ⟨v177, rfl, ho0, hb⟩; have n0_ := Aside0.mk (Kd.R_elder' (by (with_reducible repeat (first | apply Kd.R_alloc | apply Kd.R_drewN | apply Kd.R_drew)); exact HO175.out) (Kd.R_base ho0) hb); have n1_ := Aside0.mk (Kd.R_lower (Kd.R_new' ho0 (Kd.R_lt (by (with_reducible repeat (first | apply Kd.R_alloc | apply Kd.R_drewN | apply Kd.R_drew)); exact HO175.out))) (below_size (by repeat (first | (with_reducible first | exact HB.out | apply below_alloc | apply pw_below_drewN | apply below_drew1) | exact HB.out)))); have n2_ := Aside0.mk (below_step (by repeat (first | (with_reducible first | exact HB.out | apply below_alloc | apply pw_below_drewN | apply below_drew1) | exact HB.out)) hb); clear HO175; clear HB; have HO175 := n0_; have HO178 := n1_; have HB := n2_; clear n0_ n1_ n2_; (try clear hb); (try clear hb2); (try clear hk); (try clear hi); (try clear ho0))); try go_wp2_with (first | (go_at_call 32; (with_reducible refine (pannierref10_Split.calls k a0 t173 _ A3.out).mono ?_); rintro e w5 ⟨v174, rfl, ho0, hb⟩; have n0_ := Aside0.mk (Kd.R_lower ho0 (below_size (by repeat (first | (with_reducible first | exact HB.out | apply below_alloc | apply pw_below_drewN | apply below_drew1) | exact HB.out)))); have n1_ := Aside0.mk (below_step (by repeat (first | (with_reducible first | exact HB.out | apply below_alloc | apply pw_below_drewN | apply below_drew1) | exact HB.out)) hb); clear HB; have HO175 := n0_; have HB := n1_; clear n0_ n1_; (try clear hb); (try clear hb2); (try clear hk); (try clear hi); (try clear ho0)) | (go_at_call 32; (with_reducible refine (pannierref10_Split.calls k a1 t176 _ A4.out).mono ?_); rintro e w6 ⟨v177, rfl, ho0, hb⟩; have n0_ := Aside0.mk (Kd.R_elder' (by (with_reducible repeat (first | apply Kd.R_alloc | apply Kd.R_drewN | apply Kd.R_drew)); exact HO175.out) (Kd.R_base ho0) hb); have n1_ := Aside0.mk (Kd.R_lower (Kd.R_new' ho0 (Kd.R_lt (by (with_reducible repeat (first | apply Kd.R_alloc | apply Kd.R_drewN | apply Kd.R_drew)); exact HO175.out))) (below_size (by repeat (first | (with_reducible first | exact HB.out | apply below_alloc | apply pw_below_drewN | apply below_drew1) | exact HB.out)))); have n2_ := Aside0.mk (below_step (by repeat (first | (with_reducible first | exact HB.out | apply below_alloc | apply pw_below_drewN | apply below_drew1) | exact HB.out)) hb); clear HO175; clear HB; have HO175 := n0_; have HO178 := n1_; have HB := n2_; clear n0_ n1_ n2_; (try clear hb); (try clear hb2); (try clear hk); (try clear hi); (try clear ho0))))
 go_loopg [7] k (fun kq v7 w' => ∃ (x7_1 : Int), v7 = .int .i64 x7_1 ∧ Aside0 (pannierref10_Less.l0 kq t173 t176 x7_1 = some r) ∧ Aside0 (kq ≤ k) ∧ Aside0 (Kd.R Kd.string 9 w' w.heap.size (fun k_ => some k_ ≠ (v177 : Value).ownBlock) v174 t173) ∧ Aside0 (Kd.R Kd.string 9 w' w.heap.size (fun k_ => some k_ ≠ (v174 : Value).ownBlock) v177 t176) ∧ Aside0 (Below w.heap.size w w'))
 case atStart => exact ⟨(0), (by first | rfl | (simp; done) | (simp [*]; done)), H', ⟨Nat.le_refl _⟩, ⟨by (with_reducible repeat (first | apply Kd.R_alloc | apply Kd.R_drewN | apply Kd.R_drew)); exact Kd.R_mono HO175.out (fun _ hk => hk.2)⟩, ⟨by (with_reducible repeat (first | apply Kd.R_alloc | apply Kd.R_drewN | apply Kd.R_drew)); exact Kd.R_mono HO178.out (fun _ hk => hk.2)⟩, ⟨by repeat (first | (with_reducible first | exact HB.out | apply below_alloc | apply pw_below_drewN | apply below_drew1) | exact HB.out)⟩⟩
 case round =>
  clear H'
  try clear c2
  try clear p2
  obtain ⟨x7_1, rfl, HA, HK1, HO_5, HO_6, HB⟩ := hrel
  cases gk with
  | zero => exact absurd HA.out (by simp [pannierref10_Less.l0])
  | succ k1 =>
   have H := HA.out
   clear HA
   simp only [pannierref10_Less.l0] at H
   have HC7 := Aside0.mk H
   clear H
   go_upto_region 3 with (fail)
   repeat (go_quiet (fail); go_upto_region 3 with (fail))
   go_cut [21] (fun v21 wc => ∃ (kq : Nat) (x21_6 : Bool), v21 = .bool x21_6 ∧ Aside0 (pannierref10_Less.j1 kq t173 t176 x7_1 x21_6 = some r) ∧ Aside0 (kq ≤ k1) ∧ Aside0 (Kd.R Kd.string 9 wc w.heap.size (fun k_ => some k_ ≠ (v177 : Value).ownBlock) v174 t173) ∧ Aside0 (Kd.R Kd.string 9 wc w.heap.size (fun k_ => some k_ ≠ (v174 : Value).ownBlock) v177 t176) ∧ Aside0 (Below w.heap.size w wc))
   case first =>
    have H := HC7.out
    clear HC7
    by_cases c8 : x7_1 < (t173.length : Int)
    ·rw [if_pos c8] at H
     have c8b0 : decide (x7_1 < (t173.length : Int)) = true := decide_eq_true c8
     clear c8
     (first | rw [c8b0] | (simp only [i64_w, i32_w]; rw [c8b0]) | skip)
     have H' := Aside0.mk H
     clear H
     obtain ⟨Ao9, co9, eo9⟩ := Kd.R_slice HO_5.out
     subst eo9
     obtain ⟨Ao10, co10, eo10⟩ := Kd.R_slice HO_6.out
     subst eo10
     go_wp2
     repeat (go_quiet (fail); try go_wp2)
     go_meet
     case rel => exact ⟨_, (decide (x7_1 < (t176.length : Int))), (by first | rfl | (simp; done) | (simp [*]; done)), H', ⟨by have := HK1.out; first | omega | exact Nat.le_refl _⟩, ⟨by (with_reducible repeat (first | apply Kd.R_alloc | apply Kd.R_drewN | apply Kd.R_drew)); first | exact HO_5.out | exact Kd.R_mono HO_5.out (fun _ hk_ => by have h_ : ∀ (A : Option Addr) (n c : Nat), (Value.slice A n c).ownBlock = A.map (·.block) := fun A _ _ => (by cases A <;> rfl); simpa only [h_] using hk_)⟩, ⟨by (with_reducible repeat (first | apply Kd.R_alloc | apply Kd.R_drewN | apply Kd.R_drew)); first | exact HO_6.out | exact Kd.R_mono HO_6.out (fun _ hk_ => by have h_ : ∀ (A : Option Addr) (n c : Nat), (Value.slice A n c).ownBlock = A.map (·.block) := fun A _ _ => (by cases A <;> rfl); simpa only [h_] using hk_)⟩, ⟨by repeat (first | (with_reducible first | exact HB.out | apply below_alloc | apply pw_below_drewN | apply below_drew1) | exact HB.out)⟩⟩
    ·rw [if_neg c8] at H
     have c8b0 : decide (x7_1 < (t173.length : Int)) = false := decide_eq_false c8
     clear c8
     (first | rw [c8b0] | (simp only [i64_w, i32_w]; rw [c8b0]) | skip)
     have H' := Aside0.mk H
     clear H
     obtain ⟨Ao11, co11, eo11⟩ := Kd.R_slice HO_5.out
     subst eo11
     go_wp2
     repeat (go_quiet (fail); try go_wp2)
     go_meet
     case rel => exact ⟨_, (false), (by first | rfl | (simp; done) | (simp [*]; done)), H', ⟨by have := HK1.out; first | omega | exact Nat.le_refl _⟩, ⟨by (with_reducible repeat (first | apply Kd.R_alloc | apply Kd.R_drewN | apply Kd.R_drew)); first | exact HO_5.out | exact Kd.R_mono HO_5.out (fun _ hk_ => by have h_ : ∀ (A : Option Addr) (n c : Nat), (Value.slice A n c).ownBlock = A.map (·.block) := fun A _ _ => (by cases A <;> rfl); simpa only [h_] using hk_)⟩, ⟨by (with_reducible repeat (first | apply Kd.R_alloc | apply Kd.R_drewN | apply Kd.R_drew)); first | exact HO_6.out | exact Kd.R_mono HO_6.out (fun _ hk_ => by have h_ : ∀ (A : Option Addr) (n c : Nat), (Value.slice A n c).ownBlock = A.map (·.block) := fun A _ _ => (by cases A <;> rfl); simpa only [h_] using hk_)⟩, ⟨by repeat (first | (with_reducible first | exact HB.out | apply below_alloc | apply pw_below_drewN | apply below_drew1) | exact HB.out)⟩⟩
   case rest =>
    clear HC7
    try clear c2
    try clear p2
    try clear c8
    try clear c8b0
    try clear p2
    obtain ⟨kq, x21_6, rfl, HA, HJ6, HO_5, HO_6, HB⟩ := hcut
    cases kq with
    | zero => exact absurd HA.out (by simp [pannierref10_Less.j1])
    | succ kj6 =>
     have H := HA.out
     clear HA
     simp only [pannierref10_Less.j1] at H
     by_cases c12 : x21_6 = true
     ·subst c12
      have H1 : (if 0 ≤ x7_1 then (if x7_1 < (t173.length : Int) then (if x7_1 < (t176.length : Int) then (if (rdOf ByteArray.empty t173 x7_1).toList = (rdOf ByteArray.empty t176 x7_1).toList then (pannierref10_Less.l0 kj6 t173 t176 (wrap64 (x7_1 + 1))) else (some (Op.bytesLess ((rdOf ByteArray.empty t173 x7_1).toList) ((rdOf ByteArray.empty t176 x7_1).toList)))) else (none)) else (none)) else (none)) = some r := by rw [if_pos rfl] at H; exact H
      clear H
      have H := H1
      clear H1
      by_cases c13 : 0 ≤ x7_1
      ·rw [if_pos c13] at H
       have c13b0 : decide (0 ≤ x7_1) = true := decide_eq_true c13
       clear c13
       by_cases c14 : x7_1 < (t173.length : Int)
       ·rw [if_pos c14] at H
        have c14b0 : decide (x7_1 < (t173.length : Int)) = true := decide_eq_true c14
        clear c14
        by_cases c15 : x7_1 < (t176.length : Int)
        ·rw [if_pos c15] at H
         have c15b0 : decide (x7_1 < (t176.length : Int)) = true := decide_eq_true c15
         clear c15
         by_cases c16 : (rdOf ByteArray.empty t173 x7_1).toList = (rdOf ByteArray.empty t176 x7_1).toList
         ·rw [if_pos c16] at H
          have c16b0 : ((rdOf ByteArray.empty t173 x7_1).toList == (rdOf ByteArray.empty t176 x7_1).toList) = true := beq_iff_eq.mpr c16
          have c16b1 : ((rdOf ByteArray.empty t173 x7_1).toList != (rdOf ByteArray.empty t176 x7_1).toList) = false := bne_eq_false_iff_eq.mpr c16
          clear c16
          have H' := Aside0.mk H
          clear H
          obtain ⟨Ao17, co17, eo17⟩ := Kd.R_slice HO_5.out
          subst eo17
          have p179 : 0 ≤ (x7_1 : Int) := of_decide_eq_true (by first | (with_reducible assumption) | assumption)
          have q179 : x7_1 < (t173.length : Int) := of_decide_eq_true (by first | (with_reducible assumption) | assumption)
          obtain ⟨ad179, e179, hx179_0⟩ := Kd.at_string (Kd.R_reads' HO_5.out).2.2 x7_1 p179 q179
          cases e179
          replace p179 := eq_true p179
          replace q179 := eq_true q179
          obtain ⟨Ao18, co18, eo18⟩ := Kd.R_slice HO_6.out
          subst eo18
          have p180 : 0 ≤ (x7_1 : Int) := of_decide_eq_true (by first | (with_reducible assumption) | assumption)
          have q180 : x7_1 < (t176.length : Int) := of_decide_eq_true (by first | (with_reducible assumption) | assumption)
          obtain ⟨ad180, e180, hx180_0⟩ := Kd.at_string (Kd.R_reads' HO_6.out).2.2 x7_1 p180 q180
          cases e180
          replace p180 := eq_true p180
          replace q180 := eq_true q180
          go_wp2
          repeat (go_quiet (fail); try go_wp2)
          go_roundg kj6
          case measure => have := HK1.out; have := HJ6.out; omega
          case rel => exact ⟨(wrap64 (x7_1 + 1)), (by first | rfl | (simp; done) | (simp [*]; done)), H', ⟨by have := HK1.out; have := HJ6.out; omega⟩, ⟨by (with_reducible repeat (first | apply Kd.R_alloc | apply Kd.R_drewN | apply Kd.R_drew)); first | exact HO_5.out | exact Kd.R_mono HO_5.out (fun _ hk_ => by have h_ : ∀ (A : Option Addr) (n c : Nat), (Value.slice A n c).ownBlock = A.map (·.block) := fun A _ _ => (by cases A <;> rfl); simpa only [h_] using hk_)⟩, ⟨by (with_reducible repeat (first | apply Kd.R_alloc | apply Kd.R_drewN | apply Kd.R_drew)); first | exact HO_6.out | exact Kd.R_mono HO_6.out (fun _ hk_ => by have h_ : ∀ (A : Option Addr) (n c : Nat), (Value.slice A n c).ownBlock = A.map (·.block) := fun A _ _ => (by cases A <;> rfl); simpa only [h_] using hk_)⟩, ⟨by repeat (first | (with_reducible first | exact HB.out | apply below_alloc | apply pw_below_drewN | apply below_drew1) | exact HB.out)⟩⟩
         ·rw [if_neg c16] at H
          have c16b0 : ((rdOf ByteArray.empty t173 x7_1).toList == (rdOf ByteArray.empty t176 x7_1).toList) = false := beq_eq_false_iff_ne.mpr c16
          have c16b1 : ((rdOf ByteArray.empty t173 x7_1).toList != (rdOf ByteArray.empty t176 x7_1).toList) = true := bne_iff_ne.mpr c16
          obtain rfl := Option.some.inj H
          obtain ⟨Ao19, co19, eo19⟩ := Kd.R_slice HO_5.out
          subst eo19
          have p179 : 0 ≤ (x7_1 : Int) := of_decide_eq_true (by first | (with_reducible assumption) | assumption)
          have q179 : x7_1 < (t173.length : Int) := of_decide_eq_true (by first | (with_reducible assumption) | assumption)
          obtain ⟨ad179, e179, hx179_0⟩ := Kd.at_string (Kd.R_reads' HO_5.out).2.2 x7_1 p179 q179
          cases e179
          replace p179 := eq_true p179
          replace q179 := eq_true q179
          obtain ⟨Ao20, co20, eo20⟩ := Kd.R_slice HO_6.out
          subst eo20
          have p180 : 0 ≤ (x7_1 : Int) := of_decide_eq_true (by first | (with_reducible assumption) | assumption)
          have q180 : x7_1 < (t176.length : Int) := of_decide_eq_true (by first | (with_reducible assumption) | assumption)
          obtain ⟨ad180, e180, hx180_0⟩ := Kd.at_string (Kd.R_reads' HO_6.out).2.2 x7_1 p180 q180
          cases e180
          replace p180 := eq_true p180
          replace q180 := eq_true q180
          have p181 : 0 ≤ (x7_1 : Int) := of_decide_eq_true (by first | (with_reducible assumption) | assumption)
          have q181 : x7_1 < (t173.length : Int) := of_decide_eq_true (by first | (with_reducible assumption) | assumption)
          obtain ⟨ad181, e181, hx181_0⟩ := Kd.at_string (Kd.R_reads' HO_5.out).2.2 x7_1 p181 q181
          obtain rfl : ad179 = ad181 := (by injection e181)
          replace p181 := eq_true p181
          replace q181 := eq_true q181
          have p182 : 0 ≤ (x7_1 : Int) := of_decide_eq_true (by first | (with_reducible assumption) | assumption)
          have q182 : x7_1 < (t176.length : Int) := of_decide_eq_true (by first | (with_reducible assumption) | assumption)
          obtain ⟨ad182, e182, hx182_0⟩ := Kd.at_string (Kd.R_reads' HO_6.out).2.2 x7_1 p182 q182
          obtain rfl : ad180 = ad182 := (by injection e182)
          replace p182 := eq_true p182
          replace q182 := eq_true q182
          go_wp2
          repeat (go_quiet (fail); try go_wp2)
          all_goals (go_ret; exact ⟨by first | rfl | (simp [errW_none, errW_some] <;> rfl) | (simp [*, errW_none, errW_some] <;> rfl), by repeat (first | (with_reducible first | exact HB.out | apply below_alloc | apply pw_below_drewN | apply below_drew1) | exact HB.out)⟩)
        ·rw [if_neg c15] at H
         exact absurd H (by simp)
       ·rw [if_neg c14] at H
        exact absurd H (by simp)
      ·rw [if_neg c13] at H
       exact absurd H (by simp)
     ·replace c12 := Bool.eq_false_iff.mpr c12
      subst c12
      have H1 : (some (decide ((t173.length : Int) < (t176.length : Int)))) = some r := by rw [if_neg (show ¬ (false = true) by decide)] at H; exact H
      clear H
      have H := H1
      clear H1
      obtain rfl := Option.some.inj H
      obtain ⟨Ao21, co21, eo21⟩ := Kd.R_slice HO_5.out
      subst eo21
      obtain ⟨Ao22, co22, eo22⟩ := Kd.R_slice HO_6.out
      subst eo22
      go_wp2
      repeat (go_quiet (fail); try go_wp2)
      all_goals (go_ret; exact ⟨by first | rfl | (simp [errW_none, errW_some] <;> rfl) | (simp [*, errW_none, errW_some] <;> rfl), by repeat (first | (with_reducible first | exact HB.out | apply below_alloc | apply pw_below_drewN | apply below_drew1) | exact HB.out)⟩)

end Go.Proofs.YtcfhijegmmdpkaaDoor.XA
