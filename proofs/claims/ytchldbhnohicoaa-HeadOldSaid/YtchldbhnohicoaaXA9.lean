-- Written by a program of this session (wip/tools/xprint.py) out of the translation's print. Lean checks it.
import Derived.Test.YtchldbhnohicoaaXA0
import Derived.Test.YtchldbhnohicoaaXA7
import Derived.Test.YtchldbhnohicoaaXA8
import Derived.Test.YtchldbhnohicoaaEDecode
namespace Go.Proofs.Ytchldbhnohicoaa.XA
open Go.RowKit Go.Proofs.YtchldbhnohicoaaW.PrintWords Go.Proofs.YtchldbhnohicoaaW.PrintLast Go.Proofs.YtchldbhnohicoaaW.PrintMore
attribute [local go_sem] max2_int min2_int max_two min_two max_three min_three max_four min_four   -- for this text's walks alone
set_option linter.unusedVariables false
set_option linter.unusedSimpArgs false

/-! ### pannierlaw06_reads: function 10 -/
def pannierlaw06_reads.f (k : Nat)  : Option (Bool) := (head_Encode.f k 0 (⟨#[97]⟩ : ByteArray) (⟨#[]⟩ : ByteArray) (⟨#[]⟩ : ByteArray) (⟨#[]⟩ : ByteArray) (⟨#[]⟩ : ByteArray) 48 420 0 0 5 0).bind fun bt182 => ((head_Decode.f k bt182.1).bind fun bt186 => (if (wrap64 (bt182.2 + bt186.2.2.2.2.2.2.2.2.2.2.2.2)) = 0 then (if (bt182.1.length : Int) = 512 then (if bt186.2.1.toList = ([97] : List UInt8) then (if bt186.2.2.2.2.2.2.2.1 = 420 then (if bt186.1 = 1 then (if bt186.2.2.2.2.2.2.2.2.2.2.1 = 5 then ((head_Blank.f k bt182.1).bind fun t200 => (if t200 = true then (some false) else (if 512 ≤ 281474976710656 then ((head_Blank.f k (List.replicate 512 0)).bind fun t204 => (some t204)) else (none)))) else (some false)) else (some false)) else (some false)) else (some false)) else (some false)) else (some false)))
theorem pannierlaw06_reads.mono : ∀ k, LeO (pannierlaw06_reads.f k ) (pannierlaw06_reads.f (k + 1) ) := by
 intro  k
 unfold pannierlaw06_reads.f
 repeat' first
   | (with_reducible exact head_Blank.mono _ _)
   | (with_reducible exact head_Decode.mono _ _)
   | (with_reducible exact head_Encode.mono _ _ _ _ _ _ _ _ _ _ _ _ _)
   | (with_reducible exact LeO.refl _)
   | (with_reducible exact LeO.none _)
   | (with_reducible refine LeO.ite ?_ ?_)
   | (with_reducible refine LeO.bind ?_ (fun _ => ?_))
   | exact head_Blank.mono _ _
   | exact head_Decode.mono _ _
   | exact head_Encode.mono _ _ _ _ _ _ _ _ _ _ _ _ _
   | exact LeO.none _
   | refine LeO.ite ?_ ?_
   | refine LeO.bind ?_ (fun _ => ?_)
set_option maxHeartbeats 8000000 in
set_option maxRecDepth 100000 in
theorem pannierlaw06_reads.calls (k : Nat)  (r : Bool) (w : World) (h : pannierlaw06_reads.f k  = some r) :
  Calls Try.prog 10 #[] w fun e w' => e = .returned (.bool r) ∧ Below w.heap.size w w' := by
 have hu25 := Try.underlying25
 have HB := Aside0.mk (Below.refl w.heap.size w)
 have H : ((head_Encode.f k 0 (⟨#[97]⟩ : ByteArray) (⟨#[]⟩ : ByteArray) (⟨#[]⟩ : ByteArray) (⟨#[]⟩ : ByteArray) (⟨#[]⟩ : ByteArray) 48 420 0 0 5 0).bind fun bt182 => ((head_Decode.f k bt182.1).bind fun bt186 => (if (wrap64 (bt182.2 + bt186.2.2.2.2.2.2.2.2.2.2.2.2)) = 0 then (if (bt182.1.length : Int) = 512 then (if bt186.2.1.toList = ([97] : List UInt8) then (if bt186.2.2.2.2.2.2.2.1 = 420 then (if bt186.1 = 1 then (if bt186.2.2.2.2.2.2.2.2.2.2.1 = 5 then ((head_Blank.f k bt182.1).bind fun t200 => (if t200 = true then (some false) else (if 512 ≤ 281474976710656 then ((head_Blank.f k (List.replicate 512 0)).bind fun t204 => (some t204)) else (none)))) else (some false)) else (some false)) else (some false)) else (some false)) else (some false)) else (some false)))) = some r := h
 clear h
 replace H := Option.bind_eq_some_iff.mp H
 obtain ⟨⟨t182, t185⟩, A10, H⟩ := H
 replace H : ((head_Decode.f k t182).bind fun bt186 => (if (wrap64 (t185 + bt186.2.2.2.2.2.2.2.2.2.2.2.2)) = 0 then (if (t182.length : Int) = 512 then (if bt186.2.1.toList = ([97] : List UInt8) then (if bt186.2.2.2.2.2.2.2.1 = 420 then (if bt186.1 = 1 then (if bt186.2.2.2.2.2.2.2.2.2.2.1 = 5 then ((head_Blank.f k t182).bind fun t200 => (if t200 = true then (some false) else (if 512 ≤ 281474976710656 then ((head_Blank.f k (List.replicate 512 0)).bind fun t204 => (some t204)) else (none)))) else (some false)) else (some false)) else (some false)) else (some false)) else (some false)) else (some false))) = some r := H
 have A1 := Aside0.mk A10
 clear A10
 replace H := Option.bind_eq_some_iff.mp H
 obtain ⟨⟨t186, t187, t188, t189, t190, t191, t192, t193, t194, t195, t196, t197, t198⟩, A20, H⟩ := H
 replace H : (if (wrap64 (t185 + t198)) = 0 then (if (t182.length : Int) = 512 then (if t187.toList = ([97] : List UInt8) then (if t193 = 420 then (if t186 = 1 then (if t196 = 5 then ((head_Blank.f k t182).bind fun t200 => (if t200 = true then (some false) else (if 512 ≤ 281474976710656 then ((head_Blank.f k (List.replicate 512 0)).bind fun t204 => (some t204)) else (none)))) else (some false)) else (some false)) else (some false)) else (some false)) else (some false)) else (some false)) = some r := H
 have A2 := Aside0.mk A20
 clear A20
 by_cases c3 : (wrap64 (t185 + t198)) = 0
 ·rw [if_pos c3] at H
  have c3b0 : ((wrap64 (t185 + t198)) == 0) = true := beq_iff_eq.mpr c3
  have c3b1 : ((wrap64 (t185 + t198)) != 0) = false := bne_eq_false_iff_eq.mpr c3
  clear c3
  by_cases c4 : (t182.length : Int) = 512
  ·rw [if_pos c4] at H
   have c4b0 : ((t182.length : Int) == 512) = true := beq_iff_eq.mpr c4
   have c4b1 : ((t182.length : Int) != 512) = false := bne_eq_false_iff_eq.mpr c4
   clear c4
   by_cases c5 : t187.toList = ([97] : List UInt8)
   ·rw [if_pos c5] at H
    have c5b0 : (t187.toList == ([97] : List UInt8)) = true := beq_iff_eq.mpr c5
    have c5b1 : (t187.toList != ([97] : List UInt8)) = false := bne_eq_false_iff_eq.mpr c5
    clear c5
    by_cases c6 : t193 = 420
    ·rw [if_pos c6] at H
     have c6b0 : (t193 == 420) = true := beq_iff_eq.mpr c6
     have c6b1 : (t193 != 420) = false := bne_eq_false_iff_eq.mpr c6
     clear c6
     by_cases c7 : t186 = 1
     ·rw [if_pos c7] at H
      have c7b0 : (t186 == 1) = true := beq_iff_eq.mpr c7
      have c7b1 : (t186 != 1) = false := bne_eq_false_iff_eq.mpr c7
      clear c7
      by_cases c8 : t196 = 5
      ·rw [if_pos c8] at H
       have c8b0 : (t196 == 5) = true := beq_iff_eq.mpr c8
       have c8b1 : (t196 != 5) = false := bne_eq_false_iff_eq.mpr c8
       clear c8
       replace H := Option.bind_eq_some_iff.mp H
       obtain ⟨t200, A90, H⟩ := H
       replace H : (if t200 = true then (some false) else (if 512 ≤ 281474976710656 then ((head_Blank.f k (List.replicate 512 0)).bind fun t204 => (some t204)) else (none))) = some r := H
       have A9 := Aside0.mk A90
       clear A90
       by_cases c10 : t200 = true
       ·subst c10
        have H1 : (some false) = some r := by rw [if_pos rfl] at H; exact H
        clear H
        have H := H1
        clear H1
        obtain rfl := Option.some.inj H
        go_enter Try.func10, Try.ntmps10
        go_wp2_with (first | ((with_reducible refine gate_callee (f := 15) rfl ?_); refine goesL_ (some 7) rfl rfl Try.func15 (by kernel_rfl) rfl #[.agg #[.int .i64 0, .string (⟨#[97]⟩ : ByteArray), .string (⟨#[]⟩ : ByteArray), .string (⟨#[]⟩ : ByteArray), .string (⟨#[]⟩ : ByteArray), .string (⟨#[]⟩ : ByteArray), .int .u8 48, .int .i64 420, .int .i64 0, .int .i64 0, .int .i64 5, .int .i64 0]] rfl (by (try simp only [List.map_toArray, List.map_cons, List.map_nil]); first | done | rfl | (simp only [List.length_drop, List.length_take]; rfl)) ?_; (with_reducible refine (head_Encode.calls k 0 (⟨#[97]⟩ : ByteArray) (⟨#[]⟩ : ByteArray) (⟨#[]⟩ : ByteArray) (⟨#[]⟩ : ByteArray) (⟨#[]⟩ : ByteArray) 48 420 0 0 5 0 t182 t185 _ A1.out).mono ?_); rintro e w11 ⟨v183, rfl, ho0, hb⟩; refine ⟨_, rfl, ?_⟩; have n0_ := Aside0.mk (Kd.R_lower ho0 (below_size (by repeat (first | (with_reducible first | exact HB.out | apply below_alloc | apply pw_below_drewN | apply below_drew1) | exact HB.out)))); have n1_ := Aside0.mk (below_step (by repeat (first | (with_reducible first | exact HB.out | apply below_alloc | apply pw_below_drewN | apply below_drew1) | exact HB.out)) hb); clear HB; have HO184 := n0_; have HB := n1_; clear n0_ n1_; (try clear hb); (try clear hb2); (try clear hk); (try clear hi); (try clear ho0); obtain ⟨Ao12, co12, eo12⟩ := Kd.R_slice HO184.out; subst eo12) | ((with_reducible refine gate_callee (f := 11) rfl ?_); refine goesL_ (some 12) rfl rfl Try.func11 (by kernel_rfl) rfl #[.slice Ao12 t182.length co12] rfl (by (try simp only [List.map_toArray, List.map_cons, List.map_nil]); first | done | rfl | (simp only [List.length_drop, List.length_take]; rfl)) ?_; (with_reducible refine (head_Decode.calls k _ _ t182 t186 t187 t188 t189 t190 t191 t192 t193 t194 t195 t196 t197 t198 _ ?side1 ?side2 A2.out).mono ?_); (case side1 => repeat (first | exact (Kd.R_reads' HO184.out).2.2 | (with_reducible refine Kd.C_alloc ?_ _) | (with_reducible refine Kd.C_drewN ?_ _) | (with_reducible refine Kd.C_drew ?_))); (case side2 => exact (Kd.R_reads' HO184.out).2.1); rintro e w13 ⟨rfl, hb⟩; refine ⟨_, rfl, ?_⟩; have n0_ := Aside0.mk (Kd.R_below (by (with_reducible repeat (first | apply Kd.R_alloc | apply Kd.R_drewN | apply Kd.R_drew)); exact HO184.out) hb); have n1_ := Aside0.mk (below_step (by repeat (first | (with_reducible first | exact HB.out | apply below_alloc | apply pw_below_drewN | apply below_drew1) | exact HB.out)) hb); clear HO184; clear HB; have HO184 := n0_; have HB := n1_; clear n0_ n1_; (try clear hb); (try clear hb2); (try clear hk); (try clear hi)) | ((with_reducible refine gate_dst (N := 3) rfl ?_); (try (refine gate_guard (by rfl) ?_; dsimp only)); refine box_event ?hg (N := 3) ?hd (cs := #[.int .i64 0, .string (⟨#[]⟩ : ByteArray), .string (⟨#[]⟩ : ByteArray), .string (⟨#[]⟩ : ByteArray), .string (⟨#[]⟩ : ByteArray), .string (⟨#[]⟩ : ByteArray), .int .u8 0, .int .i64 0, .int .i64 0, .int .i64 0, .int .i64 0, .int .i64 0]) (t := 25) ?hr ?_; (case hd => rfl); (case hg => rfl); (case hr => first | (go_simp; done) | (go_simp; rfl)); intro gb199 hg w14 hbox hb; have n0_ := Aside0.mk (Kd.R_below (by (with_reducible repeat (first | apply Kd.R_alloc | apply Kd.R_drewN | apply Kd.R_drew)); exact HO184.out) hb); have n1_ := Aside0.mk (below_step (by repeat (first | (with_reducible first | exact HB.out | apply below_alloc | apply pw_below_drewN | apply below_drew1) | exact HB.out)) hb); have n2_ := Aside0.mk (hbox); have n3_ := Aside0.mk ((by rw [hg]; exact (below_size (by repeat (first | (with_reducible first | exact HB.out | apply below_alloc | apply pw_below_drewN | apply below_drew1) | exact HB.out))) : w.heap.size ≤ gb199)); have n4_ := Aside0.mk ((by rw [hg]; exact (below_size (by repeat (first | (with_reducible first | exact HB.out | apply below_alloc | apply pw_below_drewN | apply below_drew1) | exact HB.out))) : w.heap.size ≤ gb199)); clear HO184; clear HB; have HO184 := n0_; have HB := n1_; have BK199 := n2_; have GW199 := n3_; have GE199 := n4_; clear n0_ n1_ n2_ n3_ n4_; clear hb hbox hg; have hcz15_0 : w14.cell? ⟨gb199, 0, none⟩ = some (.int .i64 0) := (blk_cell BK199.out 0).trans rfl; have hcz15_1 : w14.cell? ⟨gb199, 1, none⟩ = some (.string (⟨#[]⟩ : ByteArray)) := (blk_cell BK199.out 1).trans rfl; have hcz15_2 : w14.cell? ⟨gb199, 2, none⟩ = some (.string (⟨#[]⟩ : ByteArray)) := (blk_cell BK199.out 2).trans rfl; have hcz15_3 : w14.cell? ⟨gb199, 3, none⟩ = some (.string (⟨#[]⟩ : ByteArray)) := (blk_cell BK199.out 3).trans rfl; have hcz15_4 : w14.cell? ⟨gb199, 4, none⟩ = some (.string (⟨#[]⟩ : ByteArray)) := (blk_cell BK199.out 4).trans rfl; have hcz15_5 : w14.cell? ⟨gb199, 5, none⟩ = some (.string (⟨#[]⟩ : ByteArray)) := (blk_cell BK199.out 5).trans rfl; have hcz15_6 : w14.cell? ⟨gb199, 6, none⟩ = some (.int .u8 0) := (blk_cell BK199.out 6).trans rfl; have hcz15_7 : w14.cell? ⟨gb199, 7, none⟩ = some (.int .i64 0) := (blk_cell BK199.out 7).trans rfl; have hcz15_8 : w14.cell? ⟨gb199, 8, none⟩ = some (.int .i64 0) := (blk_cell BK199.out 8).trans rfl; have hcz15_9 : w14.cell? ⟨gb199, 9, none⟩ = some (.int .i64 0) := (blk_cell BK199.out 9).trans rfl; have hcz15_10 : w14.cell? ⟨gb199, 10, none⟩ = some (.int .i64 0) := (blk_cell BK199.out 10).trans rfl; have hcz15_11 : w14.cell? ⟨gb199, 11, none⟩ = some (.int .i64 0) := (blk_cell BK199.out 11).trans rfl; have hfz15_0 := blk_frozen BK199.out 0; have hfz15_1 := blk_frozen BK199.out 1; have hfz15_2 := blk_frozen BK199.out 2; have hfz15_3 := blk_frozen BK199.out 3; have hfz15_4 := blk_frozen BK199.out 4; have hfz15_5 := blk_frozen BK199.out 5; have hfz15_6 := blk_frozen BK199.out 6; have hfz15_7 := blk_frozen BK199.out 7; have hfz15_8 := blk_frozen BK199.out 8; have hfz15_9 := blk_frozen BK199.out 9; have hfz15_10 := blk_frozen BK199.out 10; have hfz15_11 := blk_frozen BK199.out 11) | (go_at_call 14; (with_reducible refine (head_Blank.calls k _ _ t182 true _ ?side1 ?side2 A9.out).mono ?_); (case side1 => refine (Kd.R_reads' (e := 5) (base := w.heap.size) (ok := fun k_ => True) (n := t182.length) (c := co12) ?_).2.2; exact (by (with_reducible repeat (first | apply Kd.R_alloc | apply Kd.R_drewN | apply Kd.R_drew)); exact (Kd.R_mono (Kd.R_far (p := ⟨gb199, 11, none⟩) (Kd.R_far (p := ⟨gb199, 10, none⟩) (Kd.R_far (p := ⟨gb199, 9, none⟩) (Kd.R_far (p := ⟨gb199, 8, none⟩) (Kd.R_far (p := ⟨gb199, 7, none⟩) (Kd.R_far (p := ⟨gb199, 6, none⟩) (Kd.R_far (p := ⟨gb199, 5, none⟩) (Kd.R_far (p := ⟨gb199, 4, none⟩) (Kd.R_far (p := ⟨gb199, 3, none⟩) (Kd.R_far (p := ⟨gb199, 2, none⟩) (Kd.R_far (p := ⟨gb199, 1, none⟩) (Kd.R_far (p := ⟨gb199, 0, none⟩) (Kd.R_types HO184.out BK199.out (by decide)) (fun _ hk => hk.2) (.int .i64 t186)) (fun _ hk => hk.2) (.string t187)) (fun _ hk => hk.2) (.string t188)) (fun _ hk => hk.2) (.string t189)) (fun _ hk => hk.2) (.string t190)) (fun _ hk => hk.2) (.string t191)) (fun _ hk => hk.2) (.int .u8 t192)) (fun _ hk => hk.2) (.int .i64 t193)) (fun _ hk => hk.2) (.int .i64 t194)) (fun _ hk => hk.2) (.int .i64 t195)) (fun _ hk => hk.2) (.int .i64 t196)) (fun _ hk => hk.2) (.int .i64 t197)) (fun _ h_ => h_.1)))); (case side2 => exact (Kd.R_reads' HO184.out).2.1); rintro e w' ⟨rfl, ⟨nd, rfl⟩⟩))
        go_ret
        exact ⟨by first | rfl | (simp [errW_none, errW_some] <;> rfl) | (simp [*, errW_none, errW_some] <;> rfl), by repeat (first | (with_reducible first | exact HB.out | apply below_alloc | apply pw_below_drewN | apply below_drew1 | refine below_set ?_ GE199.out) | exact HB.out)⟩
       ·replace c10 := Bool.eq_false_iff.mpr c10
        subst c10
        have H1 : (if 512 ≤ 281474976710656 then ((head_Blank.f k (List.replicate 512 0)).bind fun t204 => (some t204)) else (none)) = some r := by rw [if_neg (show ¬ (false = true) by decide)] at H; exact H
        clear H
        have H := H1
        clear H1
        by_cases c16 : 512 ≤ 281474976710656
        ·rw [if_pos c16] at H
         have c16b0 := eq_true c16
         have c16b1 : decide (512 ≤ 281474976710656) = true := decide_eq_true c16
         clear c16
         obtain ⟨y201, hy201⟩ : ∃ y_ : List Int, y_ = (List.replicate 512 0) := ⟨_, rfl⟩
         replace H : ((head_Blank.f k y201).bind fun t204 => (some t204)) = some r := by first | (rw [hy201]; with_reducible exact H) | (have H2_ := (Option.bind_some _ _).symm.trans H; rw [hy201]; with_reducible exact H2_) | (have H2_ := (Option.bind_some _ _).symm.trans H; with_reducible exact H2_) | with_reducible exact H | (rw [hy201]; exact H) | exact H
         have Ny201 := Aside0.mk hy201
         clear hy201
         replace H := Option.bind_eq_some_iff.mp H
         obtain ⟨t204, A170, H⟩ := H
         replace H : (some t204) = some r := H
         have A17 := Aside0.mk A170
         clear A170
         obtain rfl := Option.some.inj H
         go_enter Try.func10, Try.ntmps10
         go_wp2_with (first | ((with_reducible refine gate_callee (f := 15) rfl ?_); refine goesL_ (some 7) rfl rfl Try.func15 (by kernel_rfl) rfl #[.agg #[.int .i64 0, .string (⟨#[97]⟩ : ByteArray), .string (⟨#[]⟩ : ByteArray), .string (⟨#[]⟩ : ByteArray), .string (⟨#[]⟩ : ByteArray), .string (⟨#[]⟩ : ByteArray), .int .u8 48, .int .i64 420, .int .i64 0, .int .i64 0, .int .i64 5, .int .i64 0]] rfl (by (try simp only [List.map_toArray, List.map_cons, List.map_nil]); first | done | rfl | (simp only [List.length_drop, List.length_take]; rfl)) ?_; (with_reducible refine (head_Encode.calls k 0 (⟨#[97]⟩ : ByteArray) (⟨#[]⟩ : ByteArray) (⟨#[]⟩ : ByteArray) (⟨#[]⟩ : ByteArray) (⟨#[]⟩ : ByteArray) 48 420 0 0 5 0 t182 t185 _ A1.out).mono ?_); rintro e w18 ⟨v183, rfl, ho0, hb⟩; refine ⟨_, rfl, ?_⟩; have n0_ := Aside0.mk (Kd.R_lower ho0 (below_size (by repeat (first | (with_reducible first | exact HB.out | apply below_alloc | apply pw_below_drewN | apply below_drew1) | exact HB.out)))); have n1_ := Aside0.mk (below_step (by repeat (first | (with_reducible first | exact HB.out | apply below_alloc | apply pw_below_drewN | apply below_drew1) | exact HB.out)) hb); clear HB; have HO184 := n0_; have HB := n1_; clear n0_ n1_; (try clear hb); (try clear hb2); (try clear hk); (try clear hi); (try clear ho0); obtain ⟨Ao19, co19, eo19⟩ := Kd.R_slice HO184.out; subst eo19) | ((with_reducible refine gate_callee (f := 11) rfl ?_); refine goesL_ (some 12) rfl rfl Try.func11 (by kernel_rfl) rfl #[.slice Ao19 t182.length co19] rfl (by (try simp only [List.map_toArray, List.map_cons, List.map_nil]); first | done | rfl | (simp only [List.length_drop, List.length_take]; rfl)) ?_; (with_reducible refine (head_Decode.calls k _ _ t182 t186 t187 t188 t189 t190 t191 t192 t193 t194 t195 t196 t197 t198 _ ?side1 ?side2 A2.out).mono ?_); (case side1 => repeat (first | exact (Kd.R_reads' HO184.out).2.2 | (with_reducible refine Kd.C_alloc ?_ _) | (with_reducible refine Kd.C_drewN ?_ _) | (with_reducible refine Kd.C_drew ?_))); (case side2 => exact (Kd.R_reads' HO184.out).2.1); rintro e w20 ⟨rfl, hb⟩; refine ⟨_, rfl, ?_⟩; have n0_ := Aside0.mk (Kd.R_below (by (with_reducible repeat (first | apply Kd.R_alloc | apply Kd.R_drewN | apply Kd.R_drew)); exact HO184.out) hb); have n1_ := Aside0.mk (below_step (by repeat (first | (with_reducible first | exact HB.out | apply below_alloc | apply pw_below_drewN | apply below_drew1) | exact HB.out)) hb); clear HO184; clear HB; have HO184 := n0_; have HB := n1_; clear n0_ n1_; (try clear hb); (try clear hb2); (try clear hk); (try clear hi)) | ((with_reducible refine gate_dst (N := 3) rfl ?_); (try (refine gate_guard (by rfl) ?_; dsimp only)); refine box_event ?hg (N := 3) ?hd (cs := #[.int .i64 0, .string (⟨#[]⟩ : ByteArray), .string (⟨#[]⟩ : ByteArray), .string (⟨#[]⟩ : ByteArray), .string (⟨#[]⟩ : ByteArray), .string (⟨#[]⟩ : ByteArray), .int .u8 0, .int .i64 0, .int .i64 0, .int .i64 0, .int .i64 0, .int .i64 0]) (t := 25) ?hr ?_; (case hd => rfl); (case hg => rfl); (case hr => first | (go_simp; done) | (go_simp; rfl)); intro gb199 hg w21 hbox hb; have n0_ := Aside0.mk (Kd.R_below (by (with_reducible repeat (first | apply Kd.R_alloc | apply Kd.R_drewN | apply Kd.R_drew)); exact HO184.out) hb); have n1_ := Aside0.mk (below_step (by repeat (first | (with_reducible first | exact HB.out | apply below_alloc | apply pw_below_drewN | apply below_drew1) | exact HB.out)) hb); have n2_ := Aside0.mk (hbox); have n3_ := Aside0.mk ((by rw [hg]; exact (below_size (by repeat (first | (with_reducible first | exact HB.out | apply below_alloc | apply pw_below_drewN | apply below_drew1) | exact HB.out))) : w.heap.size ≤ gb199)); have n4_ := Aside0.mk ((by rw [hg]; exact (below_size (by repeat (first | (with_reducible first | exact HB.out | apply below_alloc | apply pw_below_drewN | apply below_drew1) | exact HB.out))) : w.heap.size ≤ gb199)); clear HO184; clear HB; have HO184 := n0_; have HB := n1_; have BK199 := n2_; have GW199 := n3_; have GE199 := n4_; clear n0_ n1_ n2_ n3_ n4_; clear hb hbox hg; have hcz22_0 : w21.cell? ⟨gb199, 0, none⟩ = some (.int .i64 0) := (blk_cell BK199.out 0).trans rfl; have hcz22_1 : w21.cell? ⟨gb199, 1, none⟩ = some (.string (⟨#[]⟩ : ByteArray)) := (blk_cell BK199.out 1).trans rfl; have hcz22_2 : w21.cell? ⟨gb199, 2, none⟩ = some (.string (⟨#[]⟩ : ByteArray)) := (blk_cell BK199.out 2).trans rfl; have hcz22_3 : w21.cell? ⟨gb199, 3, none⟩ = some (.string (⟨#[]⟩ : ByteArray)) := (blk_cell BK199.out 3).trans rfl; have hcz22_4 : w21.cell? ⟨gb199, 4, none⟩ = some (.string (⟨#[]⟩ : ByteArray)) := (blk_cell BK199.out 4).trans rfl; have hcz22_5 : w21.cell? ⟨gb199, 5, none⟩ = some (.string (⟨#[]⟩ : ByteArray)) := (blk_cell BK199.out 5).trans rfl; have hcz22_6 : w21.cell? ⟨gb199, 6, none⟩ = some (.int .u8 0) := (blk_cell BK199.out 6).trans rfl; have hcz22_7 : w21.cell? ⟨gb199, 7, none⟩ = some (.int .i64 0) := (blk_cell BK199.out 7).trans rfl; have hcz22_8 : w21.cell? ⟨gb199, 8, none⟩ = some (.int .i64 0) := (blk_cell BK199.out 8).trans rfl; have hcz22_9 : w21.cell? ⟨gb199, 9, none⟩ = some (.int .i64 0) := (blk_cell BK199.out 9).trans rfl; have hcz22_10 : w21.cell? ⟨gb199, 10, none⟩ = some (.int .i64 0) := (blk_cell BK199.out 10).trans rfl; have hcz22_11 : w21.cell? ⟨gb199, 11, none⟩ = some (.int .i64 0) := (blk_cell BK199.out 11).trans rfl; have hfz22_0 := blk_frozen BK199.out 0; have hfz22_1 := blk_frozen BK199.out 1; have hfz22_2 := blk_frozen BK199.out 2; have hfz22_3 := blk_frozen BK199.out 3; have hfz22_4 := blk_frozen BK199.out 4; have hfz22_5 := blk_frozen BK199.out 5; have hfz22_6 := blk_frozen BK199.out 6; have hfz22_7 := blk_frozen BK199.out 7; have hfz22_8 := blk_frozen BK199.out 8; have hfz22_9 := blk_frozen BK199.out 9; have hfz22_10 := blk_frozen BK199.out 10; have hfz22_11 := blk_frozen BK199.out 11) | (go_at_call 14; (with_reducible refine (head_Blank.calls k _ _ t182 false _ ?side1 ?side2 A9.out).mono ?_); (case side1 => refine (Kd.R_reads' (e := 5) (base := w.heap.size) (ok := fun k_ => True) (n := t182.length) (c := co19) ?_).2.2; exact (by (with_reducible repeat (first | apply Kd.R_alloc | apply Kd.R_drewN | apply Kd.R_drew)); exact (Kd.R_mono (Kd.R_far (p := ⟨gb199, 11, none⟩) (Kd.R_far (p := ⟨gb199, 10, none⟩) (Kd.R_far (p := ⟨gb199, 9, none⟩) (Kd.R_far (p := ⟨gb199, 8, none⟩) (Kd.R_far (p := ⟨gb199, 7, none⟩) (Kd.R_far (p := ⟨gb199, 6, none⟩) (Kd.R_far (p := ⟨gb199, 5, none⟩) (Kd.R_far (p := ⟨gb199, 4, none⟩) (Kd.R_far (p := ⟨gb199, 3, none⟩) (Kd.R_far (p := ⟨gb199, 2, none⟩) (Kd.R_far (p := ⟨gb199, 1, none⟩) (Kd.R_far (p := ⟨gb199, 0, none⟩) (Kd.R_types HO184.out BK199.out (by decide)) (fun _ hk => hk.2) (.int .i64 t186)) (fun _ hk => hk.2) (.string t187)) (fun _ hk => hk.2) (.string t188)) (fun _ hk => hk.2) (.string t189)) (fun _ hk => hk.2) (.string t190)) (fun _ hk => hk.2) (.string t191)) (fun _ hk => hk.2) (.int .u8 t192)) (fun _ hk => hk.2) (.int .i64 t193)) (fun _ hk => hk.2) (.int .i64 t194)) (fun _ hk => hk.2) (.int .i64 t195)) (fun _ hk => hk.2) (.int .i64 t196)) (fun _ hk => hk.2) (.int .i64 t197)) (fun _ h_ => h_.1)))); (case side2 => exact (Kd.R_reads' HO184.out).2.1); rintro e w' ⟨rfl, ⟨nd, rfl⟩⟩) | ((with_reducible refine gate_dst (N := 52) rfl ?_); (try (refine gate_guard (by rfl) ?_; dsimp only)); refine Kd.R_make (Kd.int .u8) _ 5 rfl (N := 52) rfl 22 _ _ rfl 512 rfl rfl Try.underlying22 (.int .u8 0) 1 info5 rfl (by decide) (by omega) 0 (ok := fun _ => True) (okp := fun _ => True) rfl (fun _ hk => hk) trivial (by omega) (by omega) (Below.refl _ _) (Nat.le_refl _) ?_; intro v202 w23 ho24 hb hg_ hnew_; clear hg_ hnew_; (first | rw [← Ny201.out] at ho24 | (simp only [Int.reduceToNat] at ho24; rw [← Ny201.out] at ho24)); have n0_ := Aside0.mk (Kd.R_elder' (by (with_reducible repeat (first | apply Kd.R_alloc | apply Kd.R_drewN | apply Kd.R_drew)); exact (Kd.R_mono (Kd.R_far (p := ⟨gb199, 11, none⟩) (Kd.R_far (p := ⟨gb199, 10, none⟩) (Kd.R_far (p := ⟨gb199, 9, none⟩) (Kd.R_far (p := ⟨gb199, 8, none⟩) (Kd.R_far (p := ⟨gb199, 7, none⟩) (Kd.R_far (p := ⟨gb199, 6, none⟩) (Kd.R_far (p := ⟨gb199, 5, none⟩) (Kd.R_far (p := ⟨gb199, 4, none⟩) (Kd.R_far (p := ⟨gb199, 3, none⟩) (Kd.R_far (p := ⟨gb199, 2, none⟩) (Kd.R_far (p := ⟨gb199, 1, none⟩) (Kd.R_far (p := ⟨gb199, 0, none⟩) (Kd.R_types HO184.out BK199.out (by decide)) (fun _ hk => hk.2) (.int .i64 t186)) (fun _ hk => hk.2) (.string t187)) (fun _ hk => hk.2) (.string t188)) (fun _ hk => hk.2) (.string t189)) (fun _ hk => hk.2) (.string t190)) (fun _ hk => hk.2) (.string t191)) (fun _ hk => hk.2) (.int .u8 t192)) (fun _ hk => hk.2) (.int .i64 t193)) (fun _ hk => hk.2) (.int .i64 t194)) (fun _ hk => hk.2) (.int .i64 t195)) (fun _ hk => hk.2) (.int .i64 t196)) (fun _ hk => hk.2) (.int .i64 t197)) (fun _ h_ => h_.1))) (Kd.R_base ho24) hb); have n1_ := Aside0.mk (Kd.R_lower (Kd.R_new' ho24 (Kd.R_lt (by (with_reducible repeat (first | apply Kd.R_alloc | apply Kd.R_drewN | apply Kd.R_drew)); exact (Kd.R_mono (Kd.R_far (p := ⟨gb199, 11, none⟩) (Kd.R_far (p := ⟨gb199, 10, none⟩) (Kd.R_far (p := ⟨gb199, 9, none⟩) (Kd.R_far (p := ⟨gb199, 8, none⟩) (Kd.R_far (p := ⟨gb199, 7, none⟩) (Kd.R_far (p := ⟨gb199, 6, none⟩) (Kd.R_far (p := ⟨gb199, 5, none⟩) (Kd.R_far (p := ⟨gb199, 4, none⟩) (Kd.R_far (p := ⟨gb199, 3, none⟩) (Kd.R_far (p := ⟨gb199, 2, none⟩) (Kd.R_far (p := ⟨gb199, 1, none⟩) (Kd.R_far (p := ⟨gb199, 0, none⟩) (Kd.R_types HO184.out BK199.out (by decide)) (fun _ hk => hk.2) (.int .i64 t186)) (fun _ hk => hk.2) (.string t187)) (fun _ hk => hk.2) (.string t188)) (fun _ hk => hk.2) (.string t189)) (fun _ hk => hk.2) (.string t190)) (fun _ hk => hk.2) (.string t191)) (fun _ hk => hk.2) (.int .u8 t192)) (fun _ hk => hk.2) (.int .i64 t193)) (fun _ hk => hk.2) (.int .i64 t194)) (fun _ hk => hk.2) (.int .i64 t195)) (fun _ hk => hk.2) (.int .i64 t196)) (fun _ hk => hk.2) (.int .i64 t197)) (fun _ h_ => h_.1))))) (below_size (by repeat (first | (with_reducible first | exact HB.out | apply below_alloc | apply pw_below_drewN | apply below_drew1 | refine below_set ?_ GE199.out) | exact HB.out)))); have n2_ := Aside0.mk (blk_below (g := gb199) (o := .cells #[.int .i64 t186, .string t187, .string t188, .string t189, .string t190, .string t191, .int .u8 t192, .int .i64 t193, .int .i64 t194, .int .i64 t195, .int .i64 t196, .int .i64 t197] 25 (0, 0)) (by (with_reducible repeat (first | refine blk_drewN ?_ _ | refine blk_drew ?_ | refine blk_alloc ?_ _)); refine blk_put (cs := #[.int .i64 t186, .string t187, .string t188, .string t189, .string t190, .string t191, .int .u8 t192, .int .i64 t193, .int .i64 t194, .int .i64 t195, .int .i64 t196, .int .i64 0]) ?_ 11 _ rfl; (with_reducible repeat (first | refine blk_drewN ?_ _ | refine blk_drew ?_ | refine blk_alloc ?_ _)); refine blk_put (cs := #[.int .i64 t186, .string t187, .string t188, .string t189, .string t190, .string t191, .int .u8 t192, .int .i64 t193, .int .i64 t194, .int .i64 t195, .int .i64 0, .int .i64 0]) ?_ 10 _ rfl; (with_reducible repeat (first | refine blk_drewN ?_ _ | refine blk_drew ?_ | refine blk_alloc ?_ _)); refine blk_put (cs := #[.int .i64 t186, .string t187, .string t188, .string t189, .string t190, .string t191, .int .u8 t192, .int .i64 t193, .int .i64 t194, .int .i64 0, .int .i64 0, .int .i64 0]) ?_ 9 _ rfl; (with_reducible repeat (first | refine blk_drewN ?_ _ | refine blk_drew ?_ | refine blk_alloc ?_ _)); refine blk_put (cs := #[.int .i64 t186, .string t187, .string t188, .string t189, .string t190, .string t191, .int .u8 t192, .int .i64 t193, .int .i64 0, .int .i64 0, .int .i64 0, .int .i64 0]) ?_ 8 _ rfl; (with_reducible repeat (first | refine blk_drewN ?_ _ | refine blk_drew ?_ | refine blk_alloc ?_ _)); refine blk_put (cs := #[.int .i64 t186, .string t187, .string t188, .string t189, .string t190, .string t191, .int .u8 t192, .int .i64 0, .int .i64 0, .int .i64 0, .int .i64 0, .int .i64 0]) ?_ 7 _ rfl; (with_reducible repeat (first | refine blk_drewN ?_ _ | refine blk_drew ?_ | refine blk_alloc ?_ _)); refine blk_put (cs := #[.int .i64 t186, .string t187, .string t188, .string t189, .string t190, .string t191, .int .u8 0, .int .i64 0, .int .i64 0, .int .i64 0, .int .i64 0, .int .i64 0]) ?_ 6 _ rfl; (with_reducible repeat (first | refine blk_drewN ?_ _ | refine blk_drew ?_ | refine blk_alloc ?_ _)); refine blk_put (cs := #[.int .i64 t186, .string t187, .string t188, .string t189, .string t190, .string (⟨#[]⟩ : ByteArray), .int .u8 0, .int .i64 0, .int .i64 0, .int .i64 0, .int .i64 0, .int .i64 0]) ?_ 5 _ rfl; (with_reducible repeat (first | refine blk_drewN ?_ _ | refine blk_drew ?_ | refine blk_alloc ?_ _)); refine blk_put (cs := #[.int .i64 t186, .string t187, .string t188, .string t189, .string (⟨#[]⟩ : ByteArray), .string (⟨#[]⟩ : ByteArray), .int .u8 0, .int .i64 0, .int .i64 0, .int .i64 0, .int .i64 0, .int .i64 0]) ?_ 4 _ rfl; (with_reducible repeat (first | refine blk_drewN ?_ _ | refine blk_drew ?_ | refine blk_alloc ?_ _)); refine blk_put (cs := #[.int .i64 t186, .string t187, .string t188, .string (⟨#[]⟩ : ByteArray), .string (⟨#[]⟩ : ByteArray), .string (⟨#[]⟩ : ByteArray), .int .u8 0, .int .i64 0, .int .i64 0, .int .i64 0, .int .i64 0, .int .i64 0]) ?_ 3 _ rfl; (with_reducible repeat (first | refine blk_drewN ?_ _ | refine blk_drew ?_ | refine blk_alloc ?_ _)); refine blk_put (cs := #[.int .i64 t186, .string t187, .string (⟨#[]⟩ : ByteArray), .string (⟨#[]⟩ : ByteArray), .string (⟨#[]⟩ : ByteArray), .string (⟨#[]⟩ : ByteArray), .int .u8 0, .int .i64 0, .int .i64 0, .int .i64 0, .int .i64 0, .int .i64 0]) ?_ 2 _ rfl; (with_reducible repeat (first | refine blk_drewN ?_ _ | refine blk_drew ?_ | refine blk_alloc ?_ _)); refine blk_put (cs := #[.int .i64 t186, .string (⟨#[]⟩ : ByteArray), .string (⟨#[]⟩ : ByteArray), .string (⟨#[]⟩ : ByteArray), .string (⟨#[]⟩ : ByteArray), .string (⟨#[]⟩ : ByteArray), .int .u8 0, .int .i64 0, .int .i64 0, .int .i64 0, .int .i64 0, .int .i64 0]) ?_ 1 _ rfl; (with_reducible repeat (first | refine blk_drewN ?_ _ | refine blk_drew ?_ | refine blk_alloc ?_ _)); refine blk_put (cs := #[.int .i64 0, .string (⟨#[]⟩ : ByteArray), .string (⟨#[]⟩ : ByteArray), .string (⟨#[]⟩ : ByteArray), .string (⟨#[]⟩ : ByteArray), .string (⟨#[]⟩ : ByteArray), .int .u8 0, .int .i64 0, .int .i64 0, .int .i64 0, .int .i64 0, .int .i64 0]) ?_ 0 _ rfl; (with_reducible repeat (first | refine blk_drewN ?_ _ | refine blk_drew ?_ | refine blk_alloc ?_ _)); exact BK199.out) hb); have n3_ := Aside0.mk (below_step (by repeat (first | (with_reducible first | exact HB.out | apply below_alloc | apply pw_below_drewN | apply below_drew1 | refine below_set ?_ GE199.out) | exact HB.out)) hb); clear HO184; clear BK199; clear HB; have HO184 := n0_; have HO203 := n1_; have BK199 := n2_; have HB := n3_; clear n0_ n1_ n2_ n3_; clear hb ho24; obtain ⟨Ao25, co25, eo25⟩ := Kd.R_slice HO203.out; subst eo25) | (go_at_call 14; (with_reducible refine (head_Blank.calls k _ _ y201 t204 _ ?side1 ?side2 A17.out).mono ?_); (case side1 => repeat (first | exact (Kd.R_reads' HO203.out).2.2 | (with_reducible refine Kd.C_alloc ?_ _) | (with_reducible refine Kd.C_drewN ?_ _) | (with_reducible refine Kd.C_drew ?_))); (case side2 => exact (Kd.R_reads' HO203.out).2.1); rintro e w' ⟨rfl, ⟨nd, rfl⟩⟩))
         go_ret
         exact ⟨by first | rfl | (simp [errW_none, errW_some] <;> rfl) | (simp [*, errW_none, errW_some] <;> rfl), by repeat (first | (with_reducible first | exact HB.out | apply below_alloc | apply pw_below_drewN | apply below_drew1 | refine below_set ?_ GE199.out) | exact HB.out)⟩
        ·rw [if_neg c16] at H
         exact absurd H (by simp)
      ·rw [if_neg c8] at H
       have c8b0 : (t196 == 5) = false := beq_eq_false_iff_ne.mpr c8
       have c8b1 : (t196 != 5) = true := bne_iff_ne.mpr c8
       obtain rfl := Option.some.inj H
       go_enter Try.func10, Try.ntmps10
       go_wp2_with (first | ((with_reducible refine gate_callee (f := 15) rfl ?_); refine goesL_ (some 7) rfl rfl Try.func15 (by kernel_rfl) rfl #[.agg #[.int .i64 0, .string (⟨#[97]⟩ : ByteArray), .string (⟨#[]⟩ : ByteArray), .string (⟨#[]⟩ : ByteArray), .string (⟨#[]⟩ : ByteArray), .string (⟨#[]⟩ : ByteArray), .int .u8 48, .int .i64 420, .int .i64 0, .int .i64 0, .int .i64 5, .int .i64 0]] rfl (by (try simp only [List.map_toArray, List.map_cons, List.map_nil]); first | done | rfl | (simp only [List.length_drop, List.length_take]; rfl)) ?_; (with_reducible refine (head_Encode.calls k 0 (⟨#[97]⟩ : ByteArray) (⟨#[]⟩ : ByteArray) (⟨#[]⟩ : ByteArray) (⟨#[]⟩ : ByteArray) (⟨#[]⟩ : ByteArray) 48 420 0 0 5 0 t182 t185 _ A1.out).mono ?_); rintro e w26 ⟨v183, rfl, ho0, hb⟩; refine ⟨_, rfl, ?_⟩; have n0_ := Aside0.mk (Kd.R_lower ho0 (below_size (by repeat (first | (with_reducible first | exact HB.out | apply below_alloc | apply pw_below_drewN | apply below_drew1) | exact HB.out)))); have n1_ := Aside0.mk (below_step (by repeat (first | (with_reducible first | exact HB.out | apply below_alloc | apply pw_below_drewN | apply below_drew1) | exact HB.out)) hb); clear HB; have HO184 := n0_; have HB := n1_; clear n0_ n1_; (try clear hb); (try clear hb2); (try clear hk); (try clear hi); (try clear ho0); obtain ⟨Ao27, co27, eo27⟩ := Kd.R_slice HO184.out; subst eo27) | ((with_reducible refine gate_callee (f := 11) rfl ?_); refine goesL_ (some 12) rfl rfl Try.func11 (by kernel_rfl) rfl #[.slice Ao27 t182.length co27] rfl (by (try simp only [List.map_toArray, List.map_cons, List.map_nil]); first | done | rfl | (simp only [List.length_drop, List.length_take]; rfl)) ?_; (with_reducible refine (head_Decode.calls k _ _ t182 t186 t187 t188 t189 t190 t191 t192 t193 t194 t195 t196 t197 t198 _ ?side1 ?side2 A2.out).mono ?_); (case side1 => repeat (first | exact (Kd.R_reads' HO184.out).2.2 | (with_reducible refine Kd.C_alloc ?_ _) | (with_reducible refine Kd.C_drewN ?_ _) | (with_reducible refine Kd.C_drew ?_))); (case side2 => exact (Kd.R_reads' HO184.out).2.1); rintro e w28 ⟨rfl, hb⟩; refine ⟨_, rfl, ?_⟩; have n0_ := Aside0.mk (Kd.R_below (by (with_reducible repeat (first | apply Kd.R_alloc | apply Kd.R_drewN | apply Kd.R_drew)); exact HO184.out) hb); have n1_ := Aside0.mk (below_step (by repeat (first | (with_reducible first | exact HB.out | apply below_alloc | apply pw_below_drewN | apply below_drew1) | exact HB.out)) hb); clear HO184; clear HB; have HO184 := n0_; have HB := n1_; clear n0_ n1_; (try clear hb); (try clear hb2); (try clear hk); (try clear hi)) | ((with_reducible refine gate_dst (N := 3) rfl ?_); (try (refine gate_guard (by rfl) ?_; dsimp only)); refine box_event ?hg (N := 3) ?hd (cs := #[.int .i64 0, .string (⟨#[]⟩ : ByteArray), .string (⟨#[]⟩ : ByteArray), .string (⟨#[]⟩ : ByteArray), .string (⟨#[]⟩ : ByteArray), .string (⟨#[]⟩ : ByteArray), .int .u8 0, .int .i64 0, .int .i64 0, .int .i64 0, .int .i64 0, .int .i64 0]) (t := 25) ?hr ?_; (case hd => rfl); (case hg => rfl); (case hr => first | (go_simp; done) | (go_simp; rfl)); intro gb199 hg w29 hbox hb; have n0_ := Aside0.mk (Kd.R_below (by (with_reducible repeat (first | apply Kd.R_alloc | apply Kd.R_drewN | apply Kd.R_drew)); exact HO184.out) hb); have n1_ := Aside0.mk (below_step (by repeat (first | (with_reducible first | exact HB.out | apply below_alloc | apply pw_below_drewN | apply below_drew1) | exact HB.out)) hb); have n2_ := Aside0.mk (hbox); have n3_ := Aside0.mk ((by rw [hg]; exact (below_size (by repeat (first | (with_reducible first | exact HB.out | apply below_alloc | apply pw_below_drewN | apply below_drew1) | exact HB.out))) : w.heap.size ≤ gb199)); have n4_ := Aside0.mk ((by rw [hg]; exact (below_size (by repeat (first | (with_reducible first | exact HB.out | apply below_alloc | apply pw_below_drewN | apply below_drew1) | exact HB.out))) : w.heap.size ≤ gb199)); clear HO184; clear HB; have HO184 := n0_; have HB := n1_; have BK199 := n2_; have GW199 := n3_; have GE199 := n4_; clear n0_ n1_ n2_ n3_ n4_; clear hb hbox hg; have hcz30_0 : w29.cell? ⟨gb199, 0, none⟩ = some (.int .i64 0) := (blk_cell BK199.out 0).trans rfl; have hcz30_1 : w29.cell? ⟨gb199, 1, none⟩ = some (.string (⟨#[]⟩ : ByteArray)) := (blk_cell BK199.out 1).trans rfl; have hcz30_2 : w29.cell? ⟨gb199, 2, none⟩ = some (.string (⟨#[]⟩ : ByteArray)) := (blk_cell BK199.out 2).trans rfl; have hcz30_3 : w29.cell? ⟨gb199, 3, none⟩ = some (.string (⟨#[]⟩ : ByteArray)) := (blk_cell BK199.out 3).trans rfl; have hcz30_4 : w29.cell? ⟨gb199, 4, none⟩ = some (.string (⟨#[]⟩ : ByteArray)) := (blk_cell BK199.out 4).trans rfl; have hcz30_5 : w29.cell? ⟨gb199, 5, none⟩ = some (.string (⟨#[]⟩ : ByteArray)) := (blk_cell BK199.out 5).trans rfl; have hcz30_6 : w29.cell? ⟨gb199, 6, none⟩ = some (.int .u8 0) := (blk_cell BK199.out 6).trans rfl; have hcz30_7 : w29.cell? ⟨gb199, 7, none⟩ = some (.int .i64 0) := (blk_cell BK199.out 7).trans rfl; have hcz30_8 : w29.cell? ⟨gb199, 8, none⟩ = some (.int .i64 0) := (blk_cell BK199.out 8).trans rfl; have hcz30_9 : w29.cell? ⟨gb199, 9, none⟩ = some (.int .i64 0) := (blk_cell BK199.out 9).trans rfl; have hcz30_10 : w29.cell? ⟨gb199, 10, none⟩ = some (.int .i64 0) := (blk_cell BK199.out 10).trans rfl; have hcz30_11 : w29.cell? ⟨gb199, 11, none⟩ = some (.int .i64 0) := (blk_cell BK199.out 11).trans rfl; have hfz30_0 := blk_frozen BK199.out 0; have hfz30_1 := blk_frozen BK199.out 1; have hfz30_2 := blk_frozen BK199.out 2; have hfz30_3 := blk_frozen BK199.out 3; have hfz30_4 := blk_frozen BK199.out 4; have hfz30_5 := blk_frozen BK199.out 5; have hfz30_6 := blk_frozen BK199.out 6; have hfz30_7 := blk_frozen BK199.out 7; have hfz30_8 := blk_frozen BK199.out 8; have hfz30_9 := blk_frozen BK199.out 9; have hfz30_10 := blk_frozen BK199.out 10; have hfz30_11 := blk_frozen BK199.out 11))
       go_ret
       exact ⟨by first | rfl | (simp [errW_none, errW_some] <;> rfl) | (simp [*, errW_none, errW_some] <;> rfl), by repeat (first | (with_reducible first | exact HB.out | apply below_alloc | apply pw_below_drewN | apply below_drew1 | refine below_set ?_ GE199.out) | exact HB.out)⟩
     ·rw [if_neg c7] at H
      have c7b0 : (t186 == 1) = false := beq_eq_false_iff_ne.mpr c7
      have c7b1 : (t186 != 1) = true := bne_iff_ne.mpr c7
      obtain rfl := Option.some.inj H
      go_enter Try.func10, Try.ntmps10
      go_wp2_with (first | ((with_reducible refine gate_callee (f := 15) rfl ?_); refine goesL_ (some 7) rfl rfl Try.func15 (by kernel_rfl) rfl #[.agg #[.int .i64 0, .string (⟨#[97]⟩ : ByteArray), .string (⟨#[]⟩ : ByteArray), .string (⟨#[]⟩ : ByteArray), .string (⟨#[]⟩ : ByteArray), .string (⟨#[]⟩ : ByteArray), .int .u8 48, .int .i64 420, .int .i64 0, .int .i64 0, .int .i64 5, .int .i64 0]] rfl (by (try simp only [List.map_toArray, List.map_cons, List.map_nil]); first | done | rfl | (simp only [List.length_drop, List.length_take]; rfl)) ?_; (with_reducible refine (head_Encode.calls k 0 (⟨#[97]⟩ : ByteArray) (⟨#[]⟩ : ByteArray) (⟨#[]⟩ : ByteArray) (⟨#[]⟩ : ByteArray) (⟨#[]⟩ : ByteArray) 48 420 0 0 5 0 t182 t185 _ A1.out).mono ?_); rintro e w31 ⟨v183, rfl, ho0, hb⟩; refine ⟨_, rfl, ?_⟩; have n0_ := Aside0.mk (Kd.R_lower ho0 (below_size (by repeat (first | (with_reducible first | exact HB.out | apply below_alloc | apply pw_below_drewN | apply below_drew1) | exact HB.out)))); have n1_ := Aside0.mk (below_step (by repeat (first | (with_reducible first | exact HB.out | apply below_alloc | apply pw_below_drewN | apply below_drew1) | exact HB.out)) hb); clear HB; have HO184 := n0_; have HB := n1_; clear n0_ n1_; (try clear hb); (try clear hb2); (try clear hk); (try clear hi); (try clear ho0); obtain ⟨Ao32, co32, eo32⟩ := Kd.R_slice HO184.out; subst eo32) | ((with_reducible refine gate_callee (f := 11) rfl ?_); refine goesL_ (some 12) rfl rfl Try.func11 (by kernel_rfl) rfl #[.slice Ao32 t182.length co32] rfl (by (try simp only [List.map_toArray, List.map_cons, List.map_nil]); first | done | rfl | (simp only [List.length_drop, List.length_take]; rfl)) ?_; (with_reducible refine (head_Decode.calls k _ _ t182 t186 t187 t188 t189 t190 t191 t192 t193 t194 t195 t196 t197 t198 _ ?side1 ?side2 A2.out).mono ?_); (case side1 => repeat (first | exact (Kd.R_reads' HO184.out).2.2 | (with_reducible refine Kd.C_alloc ?_ _) | (with_reducible refine Kd.C_drewN ?_ _) | (with_reducible refine Kd.C_drew ?_))); (case side2 => exact (Kd.R_reads' HO184.out).2.1); rintro e w33 ⟨rfl, hb⟩; refine ⟨_, rfl, ?_⟩; have n0_ := Aside0.mk (Kd.R_below (by (with_reducible repeat (first | apply Kd.R_alloc | apply Kd.R_drewN | apply Kd.R_drew)); exact HO184.out) hb); have n1_ := Aside0.mk (below_step (by repeat (first | (with_reducible first | exact HB.out | apply below_alloc | apply pw_below_drewN | apply below_drew1) | exact HB.out)) hb); clear HO184; clear HB; have HO184 := n0_; have HB := n1_; clear n0_ n1_; (try clear hb); (try clear hb2); (try clear hk); (try clear hi)) | ((with_reducible refine gate_dst (N := 3) rfl ?_); (try (refine gate_guard (by rfl) ?_; dsimp only)); refine box_event ?hg (N := 3) ?hd (cs := #[.int .i64 0, .string (⟨#[]⟩ : ByteArray), .string (⟨#[]⟩ : ByteArray), .string (⟨#[]⟩ : ByteArray), .string (⟨#[]⟩ : ByteArray), .string (⟨#[]⟩ : ByteArray), .int .u8 0, .int .i64 0, .int .i64 0, .int .i64 0, .int .i64 0, .int .i64 0]) (t := 25) ?hr ?_; (case hd => rfl); (case hg => rfl); (case hr => first | (go_simp; done) | (go_simp; rfl)); intro gb199 hg w34 hbox hb; have n0_ := Aside0.mk (Kd.R_below (by (with_reducible repeat (first | apply Kd.R_alloc | apply Kd.R_drewN | apply Kd.R_drew)); exact HO184.out) hb); have n1_ := Aside0.mk (below_step (by repeat (first | (with_reducible first | exact HB.out | apply below_alloc | apply pw_below_drewN | apply below_drew1) | exact HB.out)) hb); have n2_ := Aside0.mk (hbox); have n3_ := Aside0.mk ((by rw [hg]; exact (below_size (by repeat (first | (with_reducible first | exact HB.out | apply below_alloc | apply pw_below_drewN | apply below_drew1) | exact HB.out))) : w.heap.size ≤ gb199)); have n4_ := Aside0.mk ((by rw [hg]; exact (below_size (by repeat (first | (with_reducible first | exact HB.out | apply below_alloc | apply pw_below_drewN | apply below_drew1) | exact HB.out))) : w.heap.size ≤ gb199)); clear HO184; clear HB; have HO184 := n0_; have HB := n1_; have BK199 := n2_; have GW199 := n3_; have GE199 := n4_; clear n0_ n1_ n2_ n3_ n4_; clear hb hbox hg; have hcz35_0 : w34.cell? ⟨gb199, 0, none⟩ = some (.int .i64 0) := (blk_cell BK199.out 0).trans rfl; have hcz35_1 : w34.cell? ⟨gb199, 1, none⟩ = some (.string (⟨#[]⟩ : ByteArray)) := (blk_cell BK199.out 1).trans rfl; have hcz35_2 : w34.cell? ⟨gb199, 2, none⟩ = some (.string (⟨#[]⟩ : ByteArray)) := (blk_cell BK199.out 2).trans rfl; have hcz35_3 : w34.cell? ⟨gb199, 3, none⟩ = some (.string (⟨#[]⟩ : ByteArray)) := (blk_cell BK199.out 3).trans rfl; have hcz35_4 : w34.cell? ⟨gb199, 4, none⟩ = some (.string (⟨#[]⟩ : ByteArray)) := (blk_cell BK199.out 4).trans rfl; have hcz35_5 : w34.cell? ⟨gb199, 5, none⟩ = some (.string (⟨#[]⟩ : ByteArray)) := (blk_cell BK199.out 5).trans rfl; have hcz35_6 : w34.cell? ⟨gb199, 6, none⟩ = some (.int .u8 0) := (blk_cell BK199.out 6).trans rfl; have hcz35_7 : w34.cell? ⟨gb199, 7, none⟩ = some (.int .i64 0) := (blk_cell BK199.out 7).trans rfl; have hcz35_8 : w34.cell? ⟨gb199, 8, none⟩ = some (.int .i64 0) := (blk_cell BK199.out 8).trans rfl; have hcz35_9 : w34.cell? ⟨gb199, 9, none⟩ = some (.int .i64 0) := (blk_cell BK199.out 9).trans rfl; have hcz35_10 : w34.cell? ⟨gb199, 10, none⟩ = some (.int .i64 0) := (blk_cell BK199.out 10).trans rfl; have hcz35_11 : w34.cell? ⟨gb199, 11, none⟩ = some (.int .i64 0) := (blk_cell BK199.out 11).trans rfl; have hfz35_0 := blk_frozen BK199.out 0; have hfz35_1 := blk_frozen BK199.out 1; have hfz35_2 := blk_frozen BK199.out 2; have hfz35_3 := blk_frozen BK199.out 3; have hfz35_4 := blk_frozen BK199.out 4; have hfz35_5 := blk_frozen BK199.out 5; have hfz35_6 := blk_frozen BK199.out 6; have hfz35_7 := blk_frozen BK199.out 7; have hfz35_8 := blk_frozen BK199.out 8; have hfz35_9 := blk_frozen BK199.out 9; have hfz35_10 := blk_frozen BK199.out 10; have hfz35_11 := blk_frozen BK199.out 11))
      go_ret
      exact ⟨by first | rfl | (simp [errW_none, errW_some] <;> rfl) | (simp [*, errW_none, errW_some] <;> rfl), by repeat (first | (with_reducible first | exact HB.out | apply below_alloc | apply pw_below_drewN | apply below_drew1 | refine below_set ?_ GE199.out) | exact HB.out)⟩
    ·rw [if_neg c6] at H
     have c6b0 : (t193 == 420) = false := beq_eq_false_iff_ne.mpr c6
     have c6b1 : (t193 != 420) = true := bne_iff_ne.mpr c6
     obtain rfl := Option.some.inj H
     go_enter Try.func10, Try.ntmps10
     go_wp2_with (first | ((with_reducible refine gate_callee (f := 15) rfl ?_); refine goesL_ (some 7) rfl rfl Try.func15 (by kernel_rfl) rfl #[.agg #[.int .i64 0, .string (⟨#[97]⟩ : ByteArray), .string (⟨#[]⟩ : ByteArray), .string (⟨#[]⟩ : ByteArray), .string (⟨#[]⟩ : ByteArray), .string (⟨#[]⟩ : ByteArray), .int .u8 48, .int .i64 420, .int .i64 0, .int .i64 0, .int .i64 5, .int .i64 0]] rfl (by (try simp only [List.map_toArray, List.map_cons, List.map_nil]); first | done | rfl | (simp only [List.length_drop, List.length_take]; rfl)) ?_; (with_reducible refine (head_Encode.calls k 0 (⟨#[97]⟩ : ByteArray) (⟨#[]⟩ : ByteArray) (⟨#[]⟩ : ByteArray) (⟨#[]⟩ : ByteArray) (⟨#[]⟩ : ByteArray) 48 420 0 0 5 0 t182 t185 _ A1.out).mono ?_); rintro e w36 ⟨v183, rfl, ho0, hb⟩; refine ⟨_, rfl, ?_⟩; have n0_ := Aside0.mk (Kd.R_lower ho0 (below_size (by repeat (first | (with_reducible first | exact HB.out | apply below_alloc | apply pw_below_drewN | apply below_drew1) | exact HB.out)))); have n1_ := Aside0.mk (below_step (by repeat (first | (with_reducible first | exact HB.out | apply below_alloc | apply pw_below_drewN | apply below_drew1) | exact HB.out)) hb); clear HB; have HO184 := n0_; have HB := n1_; clear n0_ n1_; (try clear hb); (try clear hb2); (try clear hk); (try clear hi); (try clear ho0); obtain ⟨Ao37, co37, eo37⟩ := Kd.R_slice HO184.out; subst eo37) | ((with_reducible refine gate_callee (f := 11) rfl ?_); refine goesL_ (some 12) rfl rfl Try.func11 (by kernel_rfl) rfl #[.slice Ao37 t182.length co37] rfl (by (try simp only [List.map_toArray, List.map_cons, List.map_nil]); first | done | rfl | (simp only [List.length_drop, List.length_take]; rfl)) ?_; (with_reducible refine (head_Decode.calls k _ _ t182 t186 t187 t188 t189 t190 t191 t192 t193 t194 t195 t196 t197 t198 _ ?side1 ?side2 A2.out).mono ?_); (case side1 => repeat (first | exact (Kd.R_reads' HO184.out).2.2 | (with_reducible refine Kd.C_alloc ?_ _) | (with_reducible refine Kd.C_drewN ?_ _) | (with_reducible refine Kd.C_drew ?_))); (case side2 => exact (Kd.R_reads' HO184.out).2.1); rintro e w38 ⟨rfl, hb⟩; refine ⟨_, rfl, ?_⟩; have n0_ := Aside0.mk (Kd.R_below (by (with_reducible repeat (first | apply Kd.R_alloc | apply Kd.R_drewN | apply Kd.R_drew)); exact HO184.out) hb); have n1_ := Aside0.mk (below_step (by repeat (first | (with_reducible first | exact HB.out | apply below_alloc | apply pw_below_drewN | apply below_drew1) | exact HB.out)) hb); clear HO184; clear HB; have HO184 := n0_; have HB := n1_; clear n0_ n1_; (try clear hb); (try clear hb2); (try clear hk); (try clear hi)) | ((with_reducible refine gate_dst (N := 3) rfl ?_); (try (refine gate_guard (by rfl) ?_; dsimp only)); refine box_event ?hg (N := 3) ?hd (cs := #[.int .i64 0, .string (⟨#[]⟩ : ByteArray), .string (⟨#[]⟩ : ByteArray), .string (⟨#[]⟩ : ByteArray), .string (⟨#[]⟩ : ByteArray), .string (⟨#[]⟩ : ByteArray), .int .u8 0, .int .i64 0, .int .i64 0, .int .i64 0, .int .i64 0, .int .i64 0]) (t := 25) ?hr ?_; (case hd => rfl); (case hg => rfl); (case hr => first | (go_simp; done) | (go_simp; rfl)); intro gb199 hg w39 hbox hb; have n0_ := Aside0.mk (Kd.R_below (by (with_reducible repeat (first | apply Kd.R_alloc | apply Kd.R_drewN | apply Kd.R_drew)); exact HO184.out) hb); have n1_ := Aside0.mk (below_step (by repeat (first | (with_reducible first | exact HB.out | apply below_alloc | apply pw_below_drewN | apply below_drew1) | exact HB.out)) hb); have n2_ := Aside0.mk (hbox); have n3_ := Aside0.mk ((by rw [hg]; exact (below_size (by repeat (first | (with_reducible first | exact HB.out | apply below_alloc | apply pw_below_drewN | apply below_drew1) | exact HB.out))) : w.heap.size ≤ gb199)); have n4_ := Aside0.mk ((by rw [hg]; exact (below_size (by repeat (first | (with_reducible first | exact HB.out | apply below_alloc | apply pw_below_drewN | apply below_drew1) | exact HB.out))) : w.heap.size ≤ gb199)); clear HO184; clear HB; have HO184 := n0_; have HB := n1_; have BK199 := n2_; have GW199 := n3_; have GE199 := n4_; clear n0_ n1_ n2_ n3_ n4_; clear hb hbox hg; have hcz40_0 : w39.cell? ⟨gb199, 0, none⟩ = some (.int .i64 0) := (blk_cell BK199.out 0).trans rfl; have hcz40_1 : w39.cell? ⟨gb199, 1, none⟩ = some (.string (⟨#[]⟩ : ByteArray)) := (blk_cell BK199.out 1).trans rfl; have hcz40_2 : w39.cell? ⟨gb199, 2, none⟩ = some (.string (⟨#[]⟩ : ByteArray)) := (blk_cell BK199.out 2).trans rfl; have hcz40_3 : w39.cell? ⟨gb199, 3, none⟩ = some (.string (⟨#[]⟩ : ByteArray)) := (blk_cell BK199.out 3).trans rfl; have hcz40_4 : w39.cell? ⟨gb199, 4, none⟩ = some (.string (⟨#[]⟩ : ByteArray)) := (blk_cell BK199.out 4).trans rfl; have hcz40_5 : w39.cell? ⟨gb199, 5, none⟩ = some (.string (⟨#[]⟩ : ByteArray)) := (blk_cell BK199.out 5).trans rfl; have hcz40_6 : w39.cell? ⟨gb199, 6, none⟩ = some (.int .u8 0) := (blk_cell BK199.out 6).trans rfl; have hcz40_7 : w39.cell? ⟨gb199, 7, none⟩ = some (.int .i64 0) := (blk_cell BK199.out 7).trans rfl; have hcz40_8 : w39.cell? ⟨gb199, 8, none⟩ = some (.int .i64 0) := (blk_cell BK199.out 8).trans rfl; have hcz40_9 : w39.cell? ⟨gb199, 9, none⟩ = some (.int .i64 0) := (blk_cell BK199.out 9).trans rfl; have hcz40_10 : w39.cell? ⟨gb199, 10, none⟩ = some (.int .i64 0) := (blk_cell BK199.out 10).trans rfl; have hcz40_11 : w39.cell? ⟨gb199, 11, none⟩ = some (.int .i64 0) := (blk_cell BK199.out 11).trans rfl; have hfz40_0 := blk_frozen BK199.out 0; have hfz40_1 := blk_frozen BK199.out 1; have hfz40_2 := blk_frozen BK199.out 2; have hfz40_3 := blk_frozen BK199.out 3; have hfz40_4 := blk_frozen BK199.out 4; have hfz40_5 := blk_frozen BK199.out 5; have hfz40_6 := blk_frozen BK199.out 6; have hfz40_7 := blk_frozen BK199.out 7; have hfz40_8 := blk_frozen BK199.out 8; have hfz40_9 := blk_frozen BK199.out 9; have hfz40_10 := blk_frozen BK199.out 10; have hfz40_11 := blk_frozen BK199.out 11))
     go_ret
     exact ⟨by first | rfl | (simp [errW_none, errW_some] <;> rfl) | (simp [*, errW_none, errW_some] <;> rfl), by repeat (first | (with_reducible first | exact HB.out | apply below_alloc | apply pw_below_drewN | apply below_drew1 | refine below_set ?_ GE199.out) | exact HB.out)⟩
   ·rw [if_neg c5] at H
    have c5b0 : (t187.toList == ([97] : List UInt8)) = false := beq_eq_false_iff_ne.mpr c5
    have c5b1 : (t187.toList != ([97] : List UInt8)) = true := bne_iff_ne.mpr c5
    obtain rfl := Option.some.inj H
    go_enter Try.func10, Try.ntmps10
    go_wp2_with (first | ((with_reducible refine gate_callee (f := 15) rfl ?_); refine goesL_ (some 7) rfl rfl Try.func15 (by kernel_rfl) rfl #[.agg #[.int .i64 0, .string (⟨#[97]⟩ : ByteArray), .string (⟨#[]⟩ : ByteArray), .string (⟨#[]⟩ : ByteArray), .string (⟨#[]⟩ : ByteArray), .string (⟨#[]⟩ : ByteArray), .int .u8 48, .int .i64 420, .int .i64 0, .int .i64 0, .int .i64 5, .int .i64 0]] rfl (by (try simp only [List.map_toArray, List.map_cons, List.map_nil]); first | done | rfl | (simp only [List.length_drop, List.length_take]; rfl)) ?_; (with_reducible refine (head_Encode.calls k 0 (⟨#[97]⟩ : ByteArray) (⟨#[]⟩ : ByteArray) (⟨#[]⟩ : ByteArray) (⟨#[]⟩ : ByteArray) (⟨#[]⟩ : ByteArray) 48 420 0 0 5 0 t182 t185 _ A1.out).mono ?_); rintro e w41 ⟨v183, rfl, ho0, hb⟩; refine ⟨_, rfl, ?_⟩; have n0_ := Aside0.mk (Kd.R_lower ho0 (below_size (by repeat (first | (with_reducible first | exact HB.out | apply below_alloc | apply pw_below_drewN | apply below_drew1) | exact HB.out)))); have n1_ := Aside0.mk (below_step (by repeat (first | (with_reducible first | exact HB.out | apply below_alloc | apply pw_below_drewN | apply below_drew1) | exact HB.out)) hb); clear HB; have HO184 := n0_; have HB := n1_; clear n0_ n1_; (try clear hb); (try clear hb2); (try clear hk); (try clear hi); (try clear ho0); obtain ⟨Ao42, co42, eo42⟩ := Kd.R_slice HO184.out; subst eo42) | ((with_reducible refine gate_callee (f := 11) rfl ?_); refine goesL_ (some 12) rfl rfl Try.func11 (by kernel_rfl) rfl #[.slice Ao42 t182.length co42] rfl (by (try simp only [List.map_toArray, List.map_cons, List.map_nil]); first | done | rfl | (simp only [List.length_drop, List.length_take]; rfl)) ?_; (with_reducible refine (head_Decode.calls k _ _ t182 t186 t187 t188 t189 t190 t191 t192 t193 t194 t195 t196 t197 t198 _ ?side1 ?side2 A2.out).mono ?_); (case side1 => repeat (first | exact (Kd.R_reads' HO184.out).2.2 | (with_reducible refine Kd.C_alloc ?_ _) | (with_reducible refine Kd.C_drewN ?_ _) | (with_reducible refine Kd.C_drew ?_))); (case side2 => exact (Kd.R_reads' HO184.out).2.1); rintro e w43 ⟨rfl, hb⟩; refine ⟨_, rfl, ?_⟩; have n0_ := Aside0.mk (Kd.R_below (by (with_reducible repeat (first | apply Kd.R_alloc | apply Kd.R_drewN | apply Kd.R_drew)); exact HO184.out) hb); have n1_ := Aside0.mk (below_step (by repeat (first | (with_reducible first | exact HB.out | apply below_alloc | apply pw_below_drewN | apply below_drew1) | exact HB.out)) hb); clear HO184; clear HB; have HO184 := n0_; have HB := n1_; clear n0_ n1_; (try clear hb); (try clear hb2); (try clear hk); (try clear hi)) | ((with_reducible refine gate_dst (N := 3) rfl ?_); (try (refine gate_guard (by rfl) ?_; dsimp only)); refine box_event ?hg (N := 3) ?hd (cs := #[.int .i64 0, .string (⟨#[]⟩ : ByteArray), .string (⟨#[]⟩ : ByteArray), .string (⟨#[]⟩ : ByteArray), .string (⟨#[]⟩ : ByteArray), .string (⟨#[]⟩ : ByteArray), .int .u8 0, .int .i64 0, .int .i64 0, .int .i64 0, .int .i64 0, .int .i64 0]) (t := 25) ?hr ?_; (case hd => rfl); (case hg => rfl); (case hr => first | (go_simp; done) | (go_simp; rfl)); intro gb199 hg w44 hbox hb; have n0_ := Aside0.mk (Kd.R_below (by (with_reducible repeat (first | apply Kd.R_alloc | apply Kd.R_drewN | apply Kd.R_drew)); exact HO184.out) hb); have n1_ := Aside0.mk (below_step (by repeat (first | (with_reducible first | exact HB.out | apply below_alloc | apply pw_below_drewN | apply below_drew1) | exact HB.out)) hb); have n2_ := Aside0.mk (hbox); have n3_ := Aside0.mk ((by rw [hg]; exact (below_size (by repeat (first | (with_reducible first | exact HB.out | apply below_alloc | apply pw_below_drewN | apply below_drew1) | exact HB.out))) : w.heap.size ≤ gb199)); have n4_ := Aside0.mk ((by rw [hg]; exact (below_size (by repeat (first | (with_reducible first | exact HB.out | apply below_alloc | apply pw_below_drewN | apply below_drew1) | exact HB.out))) : w.heap.size ≤ gb199)); clear HO184; clear HB; have HO184 := n0_; have HB := n1_; have BK199 := n2_; have GW199 := n3_; have GE199 := n4_; clear n0_ n1_ n2_ n3_ n4_; clear hb hbox hg; have hcz45_0 : w44.cell? ⟨gb199, 0, none⟩ = some (.int .i64 0) := (blk_cell BK199.out 0).trans rfl; have hcz45_1 : w44.cell? ⟨gb199, 1, none⟩ = some (.string (⟨#[]⟩ : ByteArray)) := (blk_cell BK199.out 1).trans rfl; have hcz45_2 : w44.cell? ⟨gb199, 2, none⟩ = some (.string (⟨#[]⟩ : ByteArray)) := (blk_cell BK199.out 2).trans rfl; have hcz45_3 : w44.cell? ⟨gb199, 3, none⟩ = some (.string (⟨#[]⟩ : ByteArray)) := (blk_cell BK199.out 3).trans rfl; have hcz45_4 : w44.cell? ⟨gb199, 4, none⟩ = some (.string (⟨#[]⟩ : ByteArray)) := (blk_cell BK199.out 4).trans rfl; have hcz45_5 : w44.cell? ⟨gb199, 5, none⟩ = some (.string (⟨#[]⟩ : ByteArray)) := (blk_cell BK199.out 5).trans rfl; have hcz45_6 : w44.cell? ⟨gb199, 6, none⟩ = some (.int .u8 0) := (blk_cell BK199.out 6).trans rfl; have hcz45_7 : w44.cell? ⟨gb199, 7, none⟩ = some (.int .i64 0) := (blk_cell BK199.out 7).trans rfl; have hcz45_8 : w44.cell? ⟨gb199, 8, none⟩ = some (.int .i64 0) := (blk_cell BK199.out 8).trans rfl; have hcz45_9 : w44.cell? ⟨gb199, 9, none⟩ = some (.int .i64 0) := (blk_cell BK199.out 9).trans rfl; have hcz45_10 : w44.cell? ⟨gb199, 10, none⟩ = some (.int .i64 0) := (blk_cell BK199.out 10).trans rfl; have hcz45_11 : w44.cell? ⟨gb199, 11, none⟩ = some (.int .i64 0) := (blk_cell BK199.out 11).trans rfl; have hfz45_0 := blk_frozen BK199.out 0; have hfz45_1 := blk_frozen BK199.out 1; have hfz45_2 := blk_frozen BK199.out 2; have hfz45_3 := blk_frozen BK199.out 3; have hfz45_4 := blk_frozen BK199.out 4; have hfz45_5 := blk_frozen BK199.out 5; have hfz45_6 := blk_frozen BK199.out 6; have hfz45_7 := blk_frozen BK199.out 7; have hfz45_8 := blk_frozen BK199.out 8; have hfz45_9 := blk_frozen BK199.out 9; have hfz45_10 := blk_frozen BK199.out 10; have hfz45_11 := blk_frozen BK199.out 11))
    go_ret
    exact ⟨by first | rfl | (simp [errW_none, errW_some] <;> rfl) | (simp [*, errW_none, errW_some] <;> rfl), by repeat (first | (with_reducible first | exact HB.out | apply below_alloc | apply pw_below_drewN | apply below_drew1 | refine below_set ?_ GE199.out) | exact HB.out)⟩
  ·rw [if_neg c4] at H
   have c4b0 : ((t182.length : Int) == 512) = false := beq_eq_false_iff_ne.mpr c4
   have c4b1 : ((t182.length : Int) != 512) = true := bne_iff_ne.mpr c4
   obtain rfl := Option.some.inj H
   go_enter Try.func10, Try.ntmps10
   go_wp2_with (first | ((with_reducible refine gate_callee (f := 15) rfl ?_); refine goesL_ (some 7) rfl rfl Try.func15 (by kernel_rfl) rfl #[.agg #[.int .i64 0, .string (⟨#[97]⟩ : ByteArray), .string (⟨#[]⟩ : ByteArray), .string (⟨#[]⟩ : ByteArray), .string (⟨#[]⟩ : ByteArray), .string (⟨#[]⟩ : ByteArray), .int .u8 48, .int .i64 420, .int .i64 0, .int .i64 0, .int .i64 5, .int .i64 0]] rfl (by (try simp only [List.map_toArray, List.map_cons, List.map_nil]); first | done | rfl | (simp only [List.length_drop, List.length_take]; rfl)) ?_; (with_reducible refine (head_Encode.calls k 0 (⟨#[97]⟩ : ByteArray) (⟨#[]⟩ : ByteArray) (⟨#[]⟩ : ByteArray) (⟨#[]⟩ : ByteArray) (⟨#[]⟩ : ByteArray) 48 420 0 0 5 0 t182 t185 _ A1.out).mono ?_); rintro e w46 ⟨v183, rfl, ho0, hb⟩; refine ⟨_, rfl, ?_⟩; have n0_ := Aside0.mk (Kd.R_lower ho0 (below_size (by repeat (first | (with_reducible first | exact HB.out | apply below_alloc | apply pw_below_drewN | apply below_drew1) | exact HB.out)))); have n1_ := Aside0.mk (below_step (by repeat (first | (with_reducible first | exact HB.out | apply below_alloc | apply pw_below_drewN | apply below_drew1) | exact HB.out)) hb); clear HB; have HO184 := n0_; have HB := n1_; clear n0_ n1_; (try clear hb); (try clear hb2); (try clear hk); (try clear hi); (try clear ho0); obtain ⟨Ao47, co47, eo47⟩ := Kd.R_slice HO184.out; subst eo47) | ((with_reducible refine gate_callee (f := 11) rfl ?_); refine goesL_ (some 12) rfl rfl Try.func11 (by kernel_rfl) rfl #[.slice Ao47 t182.length co47] rfl (by (try simp only [List.map_toArray, List.map_cons, List.map_nil]); first | done | rfl | (simp only [List.length_drop, List.length_take]; rfl)) ?_; (with_reducible refine (head_Decode.calls k _ _ t182 t186 t187 t188 t189 t190 t191 t192 t193 t194 t195 t196 t197 t198 _ ?side1 ?side2 A2.out).mono ?_); (case side1 => repeat (first | exact (Kd.R_reads' HO184.out).2.2 | (with_reducible refine Kd.C_alloc ?_ _) | (with_reducible refine Kd.C_drewN ?_ _) | (with_reducible refine Kd.C_drew ?_))); (case side2 => exact (Kd.R_reads' HO184.out).2.1); rintro e w48 ⟨rfl, hb⟩; refine ⟨_, rfl, ?_⟩; have n0_ := Aside0.mk (Kd.R_below (by (with_reducible repeat (first | apply Kd.R_alloc | apply Kd.R_drewN | apply Kd.R_drew)); exact HO184.out) hb); have n1_ := Aside0.mk (below_step (by repeat (first | (with_reducible first | exact HB.out | apply below_alloc | apply pw_below_drewN | apply below_drew1) | exact HB.out)) hb); clear HO184; clear HB; have HO184 := n0_; have HB := n1_; clear n0_ n1_; (try clear hb); (try clear hb2); (try clear hk); (try clear hi)) | ((with_reducible refine gate_dst (N := 3) rfl ?_); (try (refine gate_guard (by rfl) ?_; dsimp only)); refine box_event ?hg (N := 3) ?hd (cs := #[.int .i64 0, .string (⟨#[]⟩ : ByteArray), .string (⟨#[]⟩ : ByteArray), .string (⟨#[]⟩ : ByteArray), .string (⟨#[]⟩ : ByteArray), .string (⟨#[]⟩ : ByteArray), .int .u8 0, .int .i64 0, .int .i64 0, .int .i64 0, .int .i64 0, .int .i64 0]) (t := 25) ?hr ?_; (case hd => rfl); (case hg => rfl); (case hr => first | (go_simp; done) | (go_simp; rfl)); intro gb199 hg w49 hbox hb; have n0_ := Aside0.mk (Kd.R_below (by (with_reducible repeat (first | apply Kd.R_alloc | apply Kd.R_drewN | apply Kd.R_drew)); exact HO184.out) hb); have n1_ := Aside0.mk (below_step (by repeat (first | (with_reducible first | exact HB.out | apply below_alloc | apply pw_below_drewN | apply below_drew1) | exact HB.out)) hb); have n2_ := Aside0.mk (hbox); have n3_ := Aside0.mk ((by rw [hg]; exact (below_size (by repeat (first | (with_reducible first | exact HB.out | apply below_alloc | apply pw_below_drewN | apply below_drew1) | exact HB.out))) : w.heap.size ≤ gb199)); have n4_ := Aside0.mk ((by rw [hg]; exact (below_size (by repeat (first | (with_reducible first | exact HB.out | apply below_alloc | apply pw_below_drewN | apply below_drew1) | exact HB.out))) : w.heap.size ≤ gb199)); clear HO184; clear HB; have HO184 := n0_; have HB := n1_; have BK199 := n2_; have GW199 := n3_; have GE199 := n4_; clear n0_ n1_ n2_ n3_ n4_; clear hb hbox hg; have hcz50_0 : w49.cell? ⟨gb199, 0, none⟩ = some (.int .i64 0) := (blk_cell BK199.out 0).trans rfl; have hcz50_1 : w49.cell? ⟨gb199, 1, none⟩ = some (.string (⟨#[]⟩ : ByteArray)) := (blk_cell BK199.out 1).trans rfl; have hcz50_2 : w49.cell? ⟨gb199, 2, none⟩ = some (.string (⟨#[]⟩ : ByteArray)) := (blk_cell BK199.out 2).trans rfl; have hcz50_3 : w49.cell? ⟨gb199, 3, none⟩ = some (.string (⟨#[]⟩ : ByteArray)) := (blk_cell BK199.out 3).trans rfl; have hcz50_4 : w49.cell? ⟨gb199, 4, none⟩ = some (.string (⟨#[]⟩ : ByteArray)) := (blk_cell BK199.out 4).trans rfl; have hcz50_5 : w49.cell? ⟨gb199, 5, none⟩ = some (.string (⟨#[]⟩ : ByteArray)) := (blk_cell BK199.out 5).trans rfl; have hcz50_6 : w49.cell? ⟨gb199, 6, none⟩ = some (.int .u8 0) := (blk_cell BK199.out 6).trans rfl; have hcz50_7 : w49.cell? ⟨gb199, 7, none⟩ = some (.int .i64 0) := (blk_cell BK199.out 7).trans rfl; have hcz50_8 : w49.cell? ⟨gb199, 8, none⟩ = some (.int .i64 0) := (blk_cell BK199.out 8).trans rfl; have hcz50_9 : w49.cell? ⟨gb199, 9, none⟩ = some (.int .i64 0) := (blk_cell BK199.out 9).trans rfl; have hcz50_10 : w49.cell? ⟨gb199, 10, none⟩ = some (.int .i64 0) := (blk_cell BK199.out 10).trans rfl; have hcz50_11 : w49.cell? ⟨gb199, 11, none⟩ = some (.int .i64 0) := (blk_cell BK199.out 11).trans rfl; have hfz50_0 := blk_frozen BK199.out 0; have hfz50_1 := blk_frozen BK199.out 1; have hfz50_2 := blk_frozen BK199.out 2; have hfz50_3 := blk_frozen BK199.out 3; have hfz50_4 := blk_frozen BK199.out 4; have hfz50_5 := blk_frozen BK199.out 5; have hfz50_6 := blk_frozen BK199.out 6; have hfz50_7 := blk_frozen BK199.out 7; have hfz50_8 := blk_frozen BK199.out 8; have hfz50_9 := blk_frozen BK199.out 9; have hfz50_10 := blk_frozen BK199.out 10; have hfz50_11 := blk_frozen BK199.out 11))
   go_ret
   exact ⟨by first | rfl | (simp [errW_none, errW_some] <;> rfl) | (simp [*, errW_none, errW_some] <;> rfl), by repeat (first | (with_reducible first | exact HB.out | apply below_alloc | apply pw_below_drewN | apply below_drew1 | refine below_set ?_ GE199.out) | exact HB.out)⟩
 ·rw [if_neg c3] at H
  have c3b0 : ((wrap64 (t185 + t198)) == 0) = false := beq_eq_false_iff_ne.mpr c3
  have c3b1 : ((wrap64 (t185 + t198)) != 0) = true := bne_iff_ne.mpr c3
  obtain rfl := Option.some.inj H
  go_enter Try.func10, Try.ntmps10
  go_wp2_with (first | ((with_reducible refine gate_callee (f := 15) rfl ?_); refine goesL_ (some 7) rfl rfl Try.func15 (by kernel_rfl) rfl #[.agg #[.int .i64 0, .string (⟨#[97]⟩ : ByteArray), .string (⟨#[]⟩ : ByteArray), .string (⟨#[]⟩ : ByteArray), .string (⟨#[]⟩ : ByteArray), .string (⟨#[]⟩ : ByteArray), .int .u8 48, .int .i64 420, .int .i64 0, .int .i64 0, .int .i64 5, .int .i64 0]] rfl (by (try simp only [List.map_toArray, List.map_cons, List.map_nil]); first | done | rfl | (simp only [List.length_drop, List.length_take]; rfl)) ?_; (with_reducible refine (head_Encode.calls k 0 (⟨#[97]⟩ : ByteArray) (⟨#[]⟩ : ByteArray) (⟨#[]⟩ : ByteArray) (⟨#[]⟩ : ByteArray) (⟨#[]⟩ : ByteArray) 48 420 0 0 5 0 t182 t185 _ A1.out).mono ?_); rintro e w51 ⟨v183, rfl, ho0, hb⟩; refine ⟨_, rfl, ?_⟩; have n0_ := Aside0.mk (Kd.R_lower ho0 (below_size (by repeat (first | (with_reducible first | exact HB.out | apply below_alloc | apply pw_below_drewN | apply below_drew1) | exact HB.out)))); have n1_ := Aside0.mk (below_step (by repeat (first | (with_reducible first | exact HB.out | apply below_alloc | apply pw_below_drewN | apply below_drew1) | exact HB.out)) hb); clear HB; have HO184 := n0_; have HB := n1_; clear n0_ n1_; (try clear hb); (try clear hb2); (try clear hk); (try clear hi); (try clear ho0); obtain ⟨Ao52, co52, eo52⟩ := Kd.R_slice HO184.out; subst eo52) | ((with_reducible refine gate_callee (f := 11) rfl ?_); refine goesL_ (some 12) rfl rfl Try.func11 (by kernel_rfl) rfl #[.slice Ao52 t182.length co52] rfl (by (try simp only [List.map_toArray, List.map_cons, List.map_nil]); first | done | rfl | (simp only [List.length_drop, List.length_take]; rfl)) ?_; (with_reducible refine (head_Decode.calls k _ _ t182 t186 t187 t188 t189 t190 t191 t192 t193 t194 t195 t196 t197 t198 _ ?side1 ?side2 A2.out).mono ?_); (case side1 => repeat (first | exact (Kd.R_reads' HO184.out).2.2 | (with_reducible refine Kd.C_alloc ?_ _) | (with_reducible refine Kd.C_drewN ?_ _) | (with_reducible refine Kd.C_drew ?_))); (case side2 => exact (Kd.R_reads' HO184.out).2.1); rintro e w53 ⟨rfl, hb⟩; refine ⟨_, rfl, ?_⟩; have n0_ := Aside0.mk (Kd.R_below (by (with_reducible repeat (first | apply Kd.R_alloc | apply Kd.R_drewN | apply Kd.R_drew)); exact HO184.out) hb); have n1_ := Aside0.mk (below_step (by repeat (first | (with_reducible first | exact HB.out | apply below_alloc | apply pw_below_drewN | apply below_drew1) | exact HB.out)) hb); clear HO184; clear HB; have HO184 := n0_; have HB := n1_; clear n0_ n1_; (try clear hb); (try clear hb2); (try clear hk); (try clear hi)) | ((with_reducible refine gate_dst (N := 3) rfl ?_); (try (refine gate_guard (by rfl) ?_; dsimp only)); refine box_event ?hg (N := 3) ?hd (cs := #[.int .i64 0, .string (⟨#[]⟩ : ByteArray), .string (⟨#[]⟩ : ByteArray), .string (⟨#[]⟩ : ByteArray), .string (⟨#[]⟩ : ByteArray), .string (⟨#[]⟩ : ByteArray), .int .u8 0, .int .i64 0, .int .i64 0, .int .i64 0, .int .i64 0, .int .i64 0]) (t := 25) ?hr ?_; (case hd => rfl); (case hg => rfl); (case hr => first | (go_simp; done) | (go_simp; rfl)); intro gb199 hg w54 hbox hb; have n0_ := Aside0.mk (Kd.R_below (by (with_reducible repeat (first | apply Kd.R_alloc | apply Kd.R_drewN | apply Kd.R_drew)); exact HO184.out) hb); have n1_ := Aside0.mk (below_step (by repeat (first | (with_reducible first | exact HB.out | apply below_alloc | apply pw_below_drewN | apply below_drew1) | exact HB.out)) hb); have n2_ := Aside0.mk (hbox); have n3_ := Aside0.mk ((by rw [hg]; exact (below_size (by repeat (first | (with_reducible first | exact HB.out | apply below_alloc | apply pw_below_drewN | apply below_drew1) | exact HB.out))) : w.heap.size ≤ gb199)); have n4_ := Aside0.mk ((by rw [hg]; exact (below_size (by repeat (first | (with_reducible first | exact HB.out | apply below_alloc | apply pw_below_drewN | apply below_drew1) | exact HB.out))) : w.heap.size ≤ gb199)); clear HO184; clear HB; have HO184 := n0_; have HB := n1_; have BK199 := n2_; have GW199 := n3_; have GE199 := n4_; clear n0_ n1_ n2_ n3_ n4_; clear hb hbox hg; have hcz55_0 : w54.cell? ⟨gb199, 0, none⟩ = some (.int .i64 0) := (blk_cell BK199.out 0).trans rfl; have hcz55_1 : w54.cell? ⟨gb199, 1, none⟩ = some (.string (⟨#[]⟩ : ByteArray)) := (blk_cell BK199.out 1).trans rfl; have hcz55_2 : w54.cell? ⟨gb199, 2, none⟩ = some (.string (⟨#[]⟩ : ByteArray)) := (blk_cell BK199.out 2).trans rfl; have hcz55_3 : w54.cell? ⟨gb199, 3, none⟩ = some (.string (⟨#[]⟩ : ByteArray)) := (blk_cell BK199.out 3).trans rfl; have hcz55_4 : w54.cell? ⟨gb199, 4, none⟩ = some (.string (⟨#[]⟩ : ByteArray)) := (blk_cell BK199.out 4).trans rfl; have hcz55_5 : w54.cell? ⟨gb199, 5, none⟩ = some (.string (⟨#[]⟩ : ByteArray)) := (blk_cell BK199.out 5).trans rfl; have hcz55_6 : w54.cell? ⟨gb199, 6, none⟩ = some (.int .u8 0) := (blk_cell BK199.out 6).trans rfl; have hcz55_7 : w54.cell? ⟨gb199, 7, none⟩ = some (.int .i64 0) := (blk_cell BK199.out 7).trans rfl; have hcz55_8 : w54.cell? ⟨gb199, 8, none⟩ = some (.int .i64 0) := (blk_cell BK199.out 8).trans rfl; have hcz55_9 : w54.cell? ⟨gb199, 9, none⟩ = some (.int .i64 0) := (blk_cell BK199.out 9).trans rfl; have hcz55_10 : w54.cell? ⟨gb199, 10, none⟩ = some (.int .i64 0) := (blk_cell BK199.out 10).trans rfl; have hcz55_11 : w54.cell? ⟨gb199, 11, none⟩ = some (.int .i64 0) := (blk_cell BK199.out 11).trans rfl; have hfz55_0 := blk_frozen BK199.out 0; have hfz55_1 := blk_frozen BK199.out 1; have hfz55_2 := blk_frozen BK199.out 2; have hfz55_3 := blk_frozen BK199.out 3; have hfz55_4 := blk_frozen BK199.out 4; have hfz55_5 := blk_frozen BK199.out 5; have hfz55_6 := blk_frozen BK199.out 6; have hfz55_7 := blk_frozen BK199.out 7; have hfz55_8 := blk_frozen BK199.out 8; have hfz55_9 := blk_frozen BK199.out 9; have hfz55_10 := blk_frozen BK199.out 10; have hfz55_11 := blk_frozen BK199.out 11))
  go_ret
  exact ⟨by first | rfl | (simp [errW_none, errW_some] <;> rfl) | (simp [*, errW_none, errW_some] <;> rfl), by repeat (first | (with_reducible first | exact HB.out | apply below_alloc | apply pw_below_drewN | apply below_drew1 | refine below_set ?_ GE199.out) | exact HB.out)⟩

/-! ### pannierref02_big: function 38 -/
mutual
def pannierref02_big.j0 : Nat → ByteArray → Bool → Int → Option (Int × Bool)
 | 0, _, _, _ => none
 | k + 1, x0, x1, x6 => pannierref02_big.l0 k x0 x1 x6
def pannierref02_big.l0 : Nat → ByteArray → Bool → Int → Option (Int × Bool)
 | 0, _, _, _ => none
 | k + 1, x0, x1, x6 => if (x0.size : Int) < 8 then ((some (([x6] : List Int) : List Int)).bind fun y205 => (if (strOfNums y205).size + x0.size ≤ 9223372036854775807 then (pannierref02_big.l0 k ((strOfNums y205) ++ x0) x1 x6) else (none))) else (pannierref02_big.l1 k x0 x1 x6 (wrap64 ((x0.size : Int) - 8)) 0)
def pannierref02_big.l1 : Nat → ByteArray → Bool → Int → Int → Int → Option (Int × Bool)
 | 0, _, _, _, _, _ => none
 | k + 1, x0, x1, x6, x7, x8 => if x8 < x7 then (if 0 ≤ x8 then (if x8 < (x0.size : Int) then (if (bt x0 x8) = x6 then (pannierref02_big.l1 k x0 x1 x6 x7 (wrap64 (x8 + 1))) else (some (0, false))) else (none)) else (none)) else (if 0 ≤ x7 then (if x7 < (x0.size : Int) then (if ((decide ((bt x0 x7) ≥ 128)) != x1) = true then (some (0, false)) else (pannierref02_big.l2 k x0 x1 x7 0 0 0)) else (none)) else (none))
def pannierref02_big.l2 : Nat → ByteArray → Bool → Int → Int → Int → Int → Option (Int × Bool)
 | 0, _, _, _, _, _, _ => none
 | k + 1, x0, x1, x7, x9, x10, x11 => if x11 < 4 then (if 0 ≤ (wrap64 (x7 + x11)) then (if (wrap64 (x7 + x11)) < (x0.size : Int) then (if 0 ≤ (wrap64 ((wrap64 (x7 + 4)) + x11)) then (if (wrap64 ((wrap64 (x7 + 4)) + x11)) < (x0.size : Int) then (pannierref02_big.l2 k x0 x1 x7 (wrap64 ((wrap64 (x9 * 256)) + (wrap64 (bt x0 (wrap64 (x7 + x11)))))) (wrap64 ((wrap64 (x10 * 256)) + (wrap64 (bt x0 (wrap64 ((wrap64 (x7 + 4)) + x11)))))) (wrap64 (x11 + 1))) else (none)) else (none)) else (none)) else (none)) else (if x1 = true then (some (wrap64 ((wrap64 ((wrap64 (x9 - 4294967296)) * 4294967296)) + x10), true)) else (some (wrap64 ((wrap64 (x9 * 4294967296)) + x10), true)))
end
def pannierref02_big.f (k : Nat) (a0 : ByteArray) (a1 : Bool) : Option (Int × Bool) := if a1 = true then (pannierref02_big.j0 k a0 a1 255) else (pannierref02_big.j0 k a0 a1 0)
theorem pannierref02_big.mono_l : ∀ k, (∀ y0 y1 y2, LeO (pannierref02_big.j0 k y0 y1 y2) (pannierref02_big.j0 (k + 1) y0 y1 y2)) ∧ (∀ y0 y1 y2, LeO (pannierref02_big.l0 k y0 y1 y2) (pannierref02_big.l0 (k + 1) y0 y1 y2)) ∧ (∀ y0 y1 y2 y3 y4, LeO (pannierref02_big.l1 k y0 y1 y2 y3 y4) (pannierref02_big.l1 (k + 1) y0 y1 y2 y3 y4)) ∧ (∀ y0 y1 y2 y3 y4 y5, LeO (pannierref02_big.l2 k y0 y1 y2 y3 y4 y5) (pannierref02_big.l2 (k + 1) y0 y1 y2 y3 y4 y5))
 | 0 => ⟨fun _ _ _ r h => by simp [pannierref02_big.j0] at h, fun _ _ _ r h => by simp [pannierref02_big.l0] at h, fun _ _ _ _ _ r h => by simp [pannierref02_big.l1] at h, fun _ _ _ _ _ _ r h => by simp [pannierref02_big.l2] at h⟩
 | k + 1 => by
  obtain ⟨ih0, ih1, ih2, ih3⟩ := pannierref02_big.mono_l k
  refine ⟨?_, ?_, ?_, ?_⟩
  ·intro y0 y1 y2
   unfold pannierref02_big.j0
   repeat' first
   | (with_reducible exact ih0 _ _ _)
   | (with_reducible exact ih1 _ _ _)
   | (with_reducible exact ih2 _ _ _ _ _)
   | (with_reducible exact ih3 _ _ _ _ _ _)
   | (with_reducible exact LeO.refl _)
   | (with_reducible exact LeO.none _)
   | (with_reducible refine LeO.ite ?_ ?_)
   | (with_reducible refine LeO.bind ?_ (fun _ => ?_))
   | exact ih0 _ _ _
   | exact ih1 _ _ _
   | exact ih2 _ _ _ _ _
   | exact ih3 _ _ _ _ _ _
   | exact LeO.none _
   | refine LeO.ite ?_ ?_
   | refine LeO.bind ?_ (fun _ => ?_)
  ·intro y0 y1 y2
   unfold pannierref02_big.l0
   repeat' first
   | (with_reducible exact ih0 _ _ _)
   | (with_reducible exact ih1 _ _ _)
   | (with_reducible exact ih2 _ _ _ _ _)
   | (with_reducible exact ih3 _ _ _ _ _ _)
   | (with_reducible exact LeO.refl _)
   | (with_reducible exact LeO.none _)
   | (with_reducible refine LeO.ite ?_ ?_)
   | (with_reducible refine LeO.bind ?_ (fun _ => ?_))
   | exact ih0 _ _ _
   | exact ih1 _ _ _
   | exact ih2 _ _ _ _ _
   | exact ih3 _ _ _ _ _ _
   | exact LeO.none _
   | refine LeO.ite ?_ ?_
   | refine LeO.bind ?_ (fun _ => ?_)
  ·intro y0 y1 y2 y3 y4
   unfold pannierref02_big.l1
   repeat' first
   | (with_reducible exact ih0 _ _ _)
   | (with_reducible exact ih1 _ _ _)
   | (with_reducible exact ih2 _ _ _ _ _)
   | (with_reducible exact ih3 _ _ _ _ _ _)
   | (with_reducible exact LeO.refl _)
   | (with_reducible exact LeO.none _)
   | (with_reducible refine LeO.ite ?_ ?_)
   | (with_reducible refine LeO.bind ?_ (fun _ => ?_))
   | exact ih0 _ _ _
   | exact ih1 _ _ _
   | exact ih2 _ _ _ _ _
   | exact ih3 _ _ _ _ _ _
   | exact LeO.none _
   | refine LeO.ite ?_ ?_
   | refine LeO.bind ?_ (fun _ => ?_)
  ·intro y0 y1 y2 y3 y4 y5
   unfold pannierref02_big.l2
   repeat' first
   | (with_reducible exact ih0 _ _ _)
   | (with_reducible exact ih1 _ _ _)
   | (with_reducible exact ih2 _ _ _ _ _)
   | (with_reducible exact ih3 _ _ _ _ _ _)
   | (with_reducible exact LeO.refl _)
   | (with_reducible exact LeO.none _)
   | (with_reducible refine LeO.ite ?_ ?_)
   | (with_reducible refine LeO.bind ?_ (fun _ => ?_))
   | exact ih0 _ _ _
   | exact ih1 _ _ _
   | exact ih2 _ _ _ _ _
   | exact ih3 _ _ _ _ _ _
   | exact LeO.none _
   | refine LeO.ite ?_ ?_
   | refine LeO.bind ?_ (fun _ => ?_)
theorem pannierref02_big.mono : ∀ a0 a1 k, LeO (pannierref02_big.f k a0 a1) (pannierref02_big.f (k + 1) a0 a1) := by
 intro a0 a1 k
 obtain ⟨ih0, ih1, ih2, ih3⟩ := pannierref02_big.mono_l k
 unfold pannierref02_big.f
 repeat' first
   | (with_reducible exact ih0 _ _ _)
   | (with_reducible exact ih1 _ _ _)
   | (with_reducible exact ih2 _ _ _ _ _)
   | (with_reducible exact ih3 _ _ _ _ _ _)
   | (with_reducible exact LeO.refl _)
   | (with_reducible exact LeO.none _)
   | (with_reducible refine LeO.ite ?_ ?_)
   | (with_reducible refine LeO.bind ?_ (fun _ => ?_))
   | exact ih0 _ _ _
   | exact ih1 _ _ _
   | exact ih2 _ _ _ _ _
   | exact ih3 _ _ _ _ _ _
   | exact LeO.none _
   | refine LeO.ite ?_ ?_
   | refine LeO.bind ?_ (fun _ => ?_)
set_option maxHeartbeats 8000000 in
set_option maxRecDepth 100000 in
theorem pannierref02_big.calls (k : Nat) (a0 : ByteArray) (a1 : Bool) (r1 : Int) (r2 : Bool) (w : World) (h : pannierref02_big.f k a0 a1 = some (r1, r2)) :
  Calls Try.prog 38 #[.string a0, .bool a1] w fun e w' => e = .returned (.tuple #[.int .i64 r1, .bool r2]) ∧ Below w.heap.size w w' := by
 have HB := Aside0.mk (Below.refl w.heap.size w)
 have H : (if a1 = true then (pannierref02_big.j0 k a0 a1 255) else (pannierref02_big.j0 k a0 a1 0)) = some (r1, r2) := h
 clear h
 have HC3 := Aside0.mk H
 clear H
 go_enter Try.func38, Try.ntmps38
 go_upto_if 12 with (fail)
 go_cut [6] (fun v6 wc => ∃ (kq : Nat) (x6_2 : Int), v6 = .int .u8 x6_2 ∧ Aside0 (pannierref02_big.j0 kq a0 a1 x6_2 = some (r1, r2)) ∧ Aside0 (kq ≤ k) ∧ Aside0 (Below w.heap.size w wc))
 case first =>
  have H := HC3.out
  clear HC3
  by_cases c4 : a1 = true
  ·subst c4
   have H1 : (pannierref02_big.j0 k a0 true 255) = some (r1, r2) := by rw [if_pos rfl] at H; exact H
   clear H
   have H := H1
   clear H1
   have H' := Aside0.mk H
   clear H
   go_wp2
   go_meet
   case rel => exact ⟨_, (255), (by first | rfl | (simp; done) | (simp [*]; done)), H', ⟨by first | omega | exact Nat.le_refl _⟩, ⟨by repeat (first | (with_reducible first | exact HB.out | apply below_alloc | apply pw_below_drewN | apply below_drew1) | exact HB.out)⟩⟩
  ·replace c4 := Bool.eq_false_iff.mpr c4
   subst c4
   have H1 : (pannierref02_big.j0 k a0 false 0) = some (r1, r2) := by rw [if_neg (show ¬ (false = true) by decide)] at H; exact H
   clear H
   have H := H1
   clear H1
   have H' := Aside0.mk H
   clear H
   go_wp2
   go_meet
   case rel => exact ⟨_, (0), (by first | rfl | (simp; done) | (simp [*]; done)), H', ⟨by first | omega | exact Nat.le_refl _⟩, ⟨by repeat (first | (with_reducible first | exact HB.out | apply below_alloc | apply pw_below_drewN | apply below_drew1) | exact HB.out)⟩⟩
 case rest =>
  clear HC3
  try clear p2
  try clear c3
  try clear c4
  obtain ⟨kq, x6_2, rfl, HA, HJ2, HB⟩ := hcut
  cases kq with
  | zero => exact absurd HA.out (by simp [pannierref02_big.j0])
  | succ kj2 =>
   have H := HA.out
   clear HA
   simp only [pannierref02_big.j0] at H
   have H' := Aside0.mk H
   clear H
   go_wp2
   go_loopg [0] kj2 (fun kq v0 w' => ∃ (x0_2 : ByteArray), v0 = .string x0_2 ∧ Aside0 (pannierref02_big.l0 kq x0_2 a1 x6_2 = some (r1, r2)) ∧ Aside0 (kq ≤ kj2) ∧ Aside0 (Below w.heap.size w w'))
   case atStart => exact ⟨(a0), (by first | rfl | (simp; done) | (simp [*]; done)), H', ⟨Nat.le_refl _⟩, ⟨by repeat (first | (with_reducible first | exact HB.out | apply below_alloc | apply pw_below_drewN | apply below_drew1) | exact HB.out)⟩⟩
   case round =>
    clear H'
    try clear p2
    try clear c3
    try clear c4
    try clear p2
    obtain ⟨x0_2, rfl, HA, HK2, HB⟩ := hrel
    cases gk with
    | zero => exact absurd HA.out (by simp [pannierref02_big.l0])
    | succ k2 =>
     have H := HA.out
     clear HA
     simp only [pannierref02_big.l0] at H
     by_cases c5 : (x0_2.size : Int) < 8
     ·rw [if_pos c5] at H
      have c5b0 : decide ((x0_2.size : Int) < 8) = true := decide_eq_true c5
      have c5b1 : decide (x0_2.size < 8) = true := decide_eq_true (by omega)
      clear c5
      obtain ⟨y205, hy205⟩ : ∃ y_ : List Int, y_ = (([x6_2] : List Int)) := ⟨_, rfl⟩
      replace H : (if (strOfNums y205).size + x0_2.size ≤ 9223372036854775807 then (pannierref02_big.l0 k2 ((strOfNums y205) ++ x0_2) a1 x6_2) else (none)) = some (r1, r2) := by first | (rw [hy205]; with_reducible exact H) | (have H2_ := (Option.bind_some _ _).symm.trans H; rw [hy205]; with_reducible exact H2_) | (have H2_ := (Option.bind_some _ _).symm.trans H; with_reducible exact H2_) | with_reducible exact H | (rw [hy205]; exact H) | exact H
      have Ny205 := Aside0.mk hy205
      clear hy205
      by_cases c6 : (strOfNums y205).size + x0_2.size ≤ 9223372036854775807
      ·rw [if_pos c6] at H
       have c6b0 := eq_true c6
       have c6b1 : decide ((strOfNums y205).size + x0_2.size ≤ 9223372036854775807) = true := decide_eq_true c6
       try have c6b2 : (9223372036854775807 < (strOfNums y205).size + x0_2.size) = False := eq_false (Nat.not_lt.2 c6)
       have H' := Aside0.mk H
       clear H
       go_wp2_with (first | ((with_reducible refine gate_dst (N := 17) rfl ?_); refine Kd.R_lit (Kd.int .u8) _ 5 ?hg (N := 17) ?hd (xs := ([x6_2] : List Int)) (inner := [.int .u8 x6_2]) (ok := fun _ => True) (okp := fun _ => True) ?hr ?hp (fun _ hk => hk) trivial (Below.refl _ _) (Nat.le_refl _) (by simp) ?_; (case hd => rfl); (case hg => rfl); (case hr => first | (go_simp; done) | (go_simp; rfl)); (case hp => exact (Reps.one (show Kd.M (Kd.int .u8) _ _ _ x6_2 [.int .u8 x6_2] from rfl) (Reps.none _ _))); intro v206 w7 ho8 hb hg_ hnew_; clear hg_ hnew_; (first | rw [← Ny205.out] at ho8 | (simp only [Int.reduceToNat] at ho8; rw [← Ny205.out] at ho8)); have n0_ := Aside0.mk (Kd.R_lower ho8 (below_size (by repeat (first | (with_reducible first | exact HB.out | apply below_alloc | apply pw_below_drewN | apply below_drew1) | exact HB.out)))); have n1_ := Aside0.mk (below_step (by repeat (first | (with_reducible first | exact HB.out | apply below_alloc | apply pw_below_drewN | apply below_drew1) | exact HB.out)) hb); clear HB; have HO207 := n0_; have HB := n1_; clear n0_ n1_; clear hb ho8; have hcv9 := own_string (P := Try.prog) Try.underlying22 Try.underlying5 Try.underlying9 (Kd.own_of_R HO207.out); have hcv10 := fun (m_ : Nat) => own_string (P := Try.prog) Try.underlying22 Try.underlying5 Try.underlying9 (Kd.own_of_R (Kd.R_drewN HO207.out m_))))
       go_roundg k2
       case measure => have := HJ2.out; have := HK2.out; omega
       case rel => exact ⟨((strOfNums y205) ++ x0_2), (by first | rfl | (simp; done) | (simp [*]; done)), H', ⟨by have := HJ2.out; have := HK2.out; omega⟩, ⟨by repeat (first | (with_reducible first | exact HB.out | apply below_alloc | apply pw_below_drewN | apply below_drew1) | exact HB.out)⟩⟩
      ·rw [if_neg c6] at H
       exact absurd H (by simp)
     ·rw [if_neg c5] at H
      have c5b0 : decide ((x0_2.size : Int) < 8) = false := decide_eq_false c5
      have c5b1 : decide (x0_2.size < 8) = false := decide_eq_false (by omega)
      clear c5
      have H' := Aside0.mk H
      clear H
      go_wp2
      go_loopg [8] k2 (fun kq v8 w' => ∃ (x8_3 : Int), v8 = .int .i64 x8_3 ∧ Aside0 (pannierref02_big.l1 kq x0_2 a1 x6_2 (wrap64 ((x0_2.size : Int) - 8)) x8_3 = some (r1, r2)) ∧ Aside0 (kq ≤ k2) ∧ Aside0 (Below w.heap.size w w'))
      case atStart => exact ⟨(0), (by first | rfl | (simp; done) | (simp [*]; done)), H', ⟨Nat.le_refl _⟩, ⟨by repeat (first | (with_reducible first | exact HB.out | apply below_alloc | apply pw_below_drewN | apply below_drew1) | exact HB.out)⟩⟩
      case round =>
       clear H'
       try clear hcv1
       try clear p2
       try clear c3
       try clear c4
       try clear c5
       try clear c5b0
       try clear c5b1
       try clear c6
       try clear c6b0
       try clear c6b1
       try clear c6b2
       try clear p6
       try clear hcv9
       try clear hcv10
       try clear p2
       obtain ⟨x8_3, rfl, HA, HK3, HB⟩ := hrel
       cases gk with
       | zero => exact absurd HA.out (by simp [pannierref02_big.l1])
       | succ k3 =>
        have H := HA.out
        clear HA
        simp only [pannierref02_big.l1] at H
        by_cases c11 : x8_3 < (wrap64 ((x0_2.size : Int) - 8))
        ·rw [if_pos c11] at H
         have c11b0 : decide (x8_3 < (wrap64 ((x0_2.size : Int) - 8))) = true := decide_eq_true c11
         clear c11
         by_cases c12 : 0 ≤ x8_3
         ·rw [if_pos c12] at H
          have c12b0 : decide (0 ≤ x8_3) = true := decide_eq_true c12
          clear c12
          by_cases c13 : x8_3 < (x0_2.size : Int)
          ·rw [if_pos c13] at H
           have c13b0 : decide (x8_3 < (x0_2.size : Int)) = true := decide_eq_true c13
           clear c13
           by_cases c15 : (bt x0_2 x8_3) = x6_2
           ·rw [if_pos c15] at H
            have c15b0 : ((bt x0_2 x8_3) == x6_2) = true := beq_iff_eq.mpr c15
            have c15b1 : ((bt x0_2 x8_3) != x6_2) = false := bne_eq_false_iff_eq.mpr c15
            clear c15
            have H' := Aside0.mk H
            clear H
            have p14 : 0 ≤ (x8_3 : Int) := of_decide_eq_true (by first | (with_reducible assumption) | assumption)
            have q14 : x8_3 < (x0_2.size : Int) := of_decide_eq_true (by first | (with_reducible assumption) | assumption)
            have hx14 := bt_at x0_2 x8_3
            replace p14 := eq_true p14
            replace q14 := eq_true q14
            go_wp2
            go_roundg k3
            case measure => have := HJ2.out; have := HK2.out; have := HK3.out; omega
            case rel => exact ⟨(wrap64 (x8_3 + 1)), (by first | rfl | (simp; done) | (simp [*]; done)), H', ⟨by have := HJ2.out; have := HK2.out; have := HK3.out; omega⟩, ⟨by repeat (first | (with_reducible first | exact HB.out | apply below_alloc | apply pw_below_drewN | apply below_drew1) | exact HB.out)⟩⟩
           ·rw [if_neg c15] at H
            have c15b0 : ((bt x0_2 x8_3) == x6_2) = false := beq_eq_false_iff_ne.mpr c15
            have c15b1 : ((bt x0_2 x8_3) != x6_2) = true := bne_iff_ne.mpr c15
            simp only [Option.some.injEq, Prod.mk.injEq] at H
            obtain ⟨rfl, rfl⟩ := H
            have p14 : 0 ≤ (x8_3 : Int) := of_decide_eq_true (by first | (with_reducible assumption) | assumption)
            have q14 : x8_3 < (x0_2.size : Int) := of_decide_eq_true (by first | (with_reducible assumption) | assumption)
            have hx14 := bt_at x0_2 x8_3
            replace p14 := eq_true p14
            replace q14 := eq_true q14
            go_wp2
            go_ret2
            exact ⟨by first | rfl | (simp [errW_none, errW_some] <;> rfl) | (simp [*, errW_none, errW_some] <;> rfl), by repeat (first | (with_reducible first | exact HB.out | apply below_alloc | apply pw_below_drewN | apply below_drew1) | exact HB.out)⟩
          ·rw [if_neg c13] at H
           exact absurd H (by simp)
         ·rw [if_neg c12] at H
          exact absurd H (by simp)
        ·rw [if_neg c11] at H
         have c11b0 : decide (x8_3 < (wrap64 ((x0_2.size : Int) - 8))) = false := decide_eq_false c11
         clear c11
         obtain ⟨ji16, hji16⟩ : ∃ j_ : Int, (wrap64 ((x0_2.size : Int) - 8)) = j_ := ⟨_, rfl⟩
         replace H : (if 0 ≤ (ji16) then (if (ji16) < (x0_2.size : Int) then (if ((decide ((bt x0_2 (ji16)) ≥ 128)) != a1) = true then (some (0, false)) else (pannierref02_big.l2 k3 x0_2 a1 (ji16) 0 0 0)) else (none)) else (none)) = some (r1, r2) := by first | (rw [hji16] at H; exact H) | (simp only [hji16] at H ⊢; exact H)
         (try rw [hji16] at c11b0)
         have hji16w : (IntKind.i64.wrap ((x0_2.size : Int) - 8)) = ji16 := (i64_w _).trans hji16
         by_cases c17 : 0 ≤ (ji16)
         ·rw [if_pos c17] at H
          have c17b0 : decide (0 ≤ (ji16)) = true := decide_eq_true c17
          clear c17
          by_cases c18 : (ji16) < (x0_2.size : Int)
          ·rw [if_pos c18] at H
           have c18b0 : decide ((ji16) < (x0_2.size : Int)) = true := decide_eq_true c18
           clear c18
           by_cases c20 : ((decide ((bt x0_2 (ji16)) ≥ 128)) != a1) = true
           ·rw [if_pos c20] at H
            have c20b0 : ((decide ((bt x0_2 (ji16)) ≥ 128)) != a1) = true := c20
            (try (have c20b1 : decide ((decide ((bt x0_2 (ji16)) ≥ 128)) = a1) = false := by simpa using c20))
            (try (have c20b2 : ((decide ((bt x0_2 (ji16)) ≥ 128)) == a1) = false := by simpa using c20))
            (try (have c20b3 : ¬ ((decide ((bt x0_2 (ji16)) ≥ 128)) = a1) := by simpa using c20))
            clear c20
            simp only [Option.some.injEq, Prod.mk.injEq] at H
            obtain ⟨rfl, rfl⟩ := H
            have p19 : 0 ≤ ((ji16) : Int) := of_decide_eq_true (by first | (with_reducible assumption) | assumption)
            have q19 : (ji16) < (x0_2.size : Int) := of_decide_eq_true (by first | (with_reducible assumption) | assumption)
            have hx19 := bt_at x0_2 (ji16)
            replace p19 := eq_true p19
            replace q19 := eq_true q19
            go_wp2
            go_ret2
            exact ⟨by first | rfl | (simp [errW_none, errW_some] <;> rfl) | (simp only [← hji16]; first | rfl | (simp [errW_none, errW_some] <;> rfl)) | (simp [*, errW_none, errW_some] <;> rfl), by repeat (first | (with_reducible first | exact HB.out | apply below_alloc | apply pw_below_drewN | apply below_drew1) | exact HB.out)⟩
           ·rw [if_neg c20] at H
            have c20b0 : ((decide ((bt x0_2 (ji16)) ≥ 128)) != a1) = false := by simpa using c20
            (try (have c20b1 : decide ((decide ((bt x0_2 (ji16)) ≥ 128)) = a1) = true := by simpa using c20))
            (try (have c20b2 : ((decide ((bt x0_2 (ji16)) ≥ 128)) == a1) = true := by simpa using c20))
            clear c20
            have H' := Aside0.mk H
            clear H
            have p19 : 0 ≤ ((ji16) : Int) := of_decide_eq_true (by first | (with_reducible assumption) | assumption)
            have q19 : (ji16) < (x0_2.size : Int) := of_decide_eq_true (by first | (with_reducible assumption) | assumption)
            have hx19 := bt_at x0_2 (ji16)
            replace p19 := eq_true p19
            replace q19 := eq_true q19
            go_wp2
            go_loopg [9, 10, 11] k3 (fun kq v9 v10 v11 w' => ∃ (x9_4 : Int) (x10_4 : Int) (x11_4 : Int), v9 = .int .i64 x9_4 ∧ v10 = .int .i64 x10_4 ∧ v11 = .int .i64 x11_4 ∧ Aside0 (pannierref02_big.l2 kq x0_2 a1 (ji16) x9_4 x10_4 x11_4 = some (r1, r2)) ∧ Aside0 (kq ≤ k3) ∧ Aside0 (Below w.heap.size w w'))
            case atStart => exact ⟨(0), (0), (0), (by first | rfl | (simp; done) | (simp [*]; done)), (by first | rfl | (simp; done) | (simp [*]; done)), (by first | rfl | (simp; done) | (simp [*]; done)), H', ⟨Nat.le_refl _⟩, ⟨by repeat (first | (with_reducible first | exact HB.out | apply below_alloc | apply pw_below_drewN | apply below_drew1) | exact HB.out)⟩⟩
            case round =>
             clear H'
             try clear c1
             try clear p1
             try clear q1
             try clear hx1
             try clear hcv1
             try clear c2
             try clear p2
             try clear c3
             try clear c4
             try clear c5
             try clear c5b0
             try clear c5b1
             try clear c6
             try clear c6b0
             try clear c6b1
             try clear c6b2
             try clear p6
             try clear hcv9
             try clear hcv10
             try clear c11
             try clear c11b0
             try clear c12
             try clear c12b0
             try clear c13
             try clear c13b0
             try clear p14
             try clear q14
             try clear hx14
             try clear c15
             try clear c15b0
             try clear c15b1
             try clear c17
             try clear c17b0
             try clear c18
             try clear c18b0
             try clear p19
             try clear q19
             try clear hx19
             try clear c20
             try clear c20b0
             try clear c20b1
             try clear c20b2
             try clear p14
             try clear p19
             try clear p2
             try clear p6
             try clear q14
             try clear q19
             obtain ⟨x9_4, x10_4, x11_4, rfl, rfl, rfl, HA, HK4, HB⟩ := hrel
             cases gk with
             | zero => exact absurd HA.out (by simp [pannierref02_big.l2])
             | succ k4 =>
              have H := HA.out
              clear HA
              simp only [pannierref02_big.l2] at H
              by_cases c21 : x11_4 < 4
              ·rw [if_pos c21] at H
               have c21b0 : decide (x11_4 < 4) = true := decide_eq_true c21
               clear c21
               obtain ⟨ji22, hji22⟩ : ∃ j_ : Int, (wrap64 ((ji16) + x11_4)) = j_ := ⟨_, rfl⟩
               replace H : (if 0 ≤ (ji22) then (if (ji22) < (x0_2.size : Int) then (if 0 ≤ (wrap64 ((wrap64 ((ji16) + 4)) + x11_4)) then (if (wrap64 ((wrap64 ((ji16) + 4)) + x11_4)) < (x0_2.size : Int) then (pannierref02_big.l2 k4 x0_2 a1 (ji16) (wrap64 ((wrap64 (x9_4 * 256)) + (wrap64 (bt x0_2 (ji22))))) (wrap64 ((wrap64 (x10_4 * 256)) + (wrap64 (bt x0_2 (wrap64 ((wrap64 ((ji16) + 4)) + x11_4)))))) (wrap64 (x11_4 + 1))) else (none)) else (none)) else (none)) else (none)) = some (r1, r2) := by first | (rw [hji22] at H; exact H) | (simp only [hji22] at H ⊢; exact H)
               have hji22w : (IntKind.i64.wrap ((ji16) + x11_4)) = ji22 := (i64_w _).trans hji22
               by_cases c23 : 0 ≤ (ji22)
               ·rw [if_pos c23] at H
                have c23b0 : decide (0 ≤ (ji22)) = true := decide_eq_true c23
                clear c23
                by_cases c24 : (ji22) < (x0_2.size : Int)
                ·rw [if_pos c24] at H
                 have c24b0 : decide ((ji22) < (x0_2.size : Int)) = true := decide_eq_true c24
                 clear c24
                 obtain ⟨ji26, hji26⟩ : ∃ j_ : Int, (wrap64 ((wrap64 ((ji16) + 4)) + x11_4)) = j_ := ⟨_, rfl⟩
                 replace H : (if 0 ≤ (ji26) then (if (ji26) < (x0_2.size : Int) then (pannierref02_big.l2 k4 x0_2 a1 (ji16) (wrap64 ((wrap64 (x9_4 * 256)) + (wrap64 (bt x0_2 (ji22))))) (wrap64 ((wrap64 (x10_4 * 256)) + (wrap64 (bt x0_2 (ji26))))) (wrap64 (x11_4 + 1))) else (none)) else (none)) = some (r1, r2) := by first | (rw [hji26] at H; exact H) | (simp only [hji26] at H ⊢; exact H)
                 have hji26w : (IntKind.i64.wrap ((wrap64 ((ji16) + 4)) + x11_4)) = ji26 := (i64_w _).trans hji26
                 by_cases c27 : 0 ≤ (ji26)
                 ·rw [if_pos c27] at H
                  have c27b0 : decide (0 ≤ (ji26)) = true := decide_eq_true c27
                  clear c27
                  by_cases c28 : (ji26) < (x0_2.size : Int)
                  ·rw [if_pos c28] at H
                   have c28b0 : decide ((ji26) < (x0_2.size : Int)) = true := decide_eq_true c28
                   clear c28
                   have H' := Aside0.mk H
                   clear H
                   have p25 : 0 ≤ ((ji22) : Int) := of_decide_eq_true (by first | (with_reducible assumption) | assumption)
                   have q25 : (ji22) < (x0_2.size : Int) := of_decide_eq_true (by first | (with_reducible assumption) | assumption)
                   have hx25 := bt_at x0_2 (ji22)
                   replace p25 := eq_true p25
                   replace q25 := eq_true q25
                   have p29 : 0 ≤ ((ji26) : Int) := of_decide_eq_true (by first | (with_reducible assumption) | assumption)
                   have q29 : (ji26) < (x0_2.size : Int) := of_decide_eq_true (by first | (with_reducible assumption) | assumption)
                   have hx29 := bt_at x0_2 (ji26)
                   replace p29 := eq_true p29
                   replace q29 := eq_true q29
                   go_wp2
                   go_roundg k4
                   case measure => have := HJ2.out; have := HK2.out; have := HK3.out; have := HK4.out; omega
                   case rel => exact ⟨(wrap64 ((wrap64 (x9_4 * 256)) + (wrap64 (bt x0_2 (ji22))))), (wrap64 ((wrap64 (x10_4 * 256)) + (wrap64 (bt x0_2 (ji26))))), (wrap64 (x11_4 + 1)), (by first | rfl | (simp; done) | (simp only [← hji22] <;> (first | rfl | simp)) | (simp [*]; done)), (by first | rfl | (simp; done) | (simp only [← hji26] <;> (first | rfl | simp)) | (simp [*]; done)), (by first | rfl | (simp; done) | (simp [*]; done)), H', ⟨by have := HJ2.out; have := HK2.out; have := HK3.out; have := HK4.out; omega⟩, ⟨by repeat (first | (with_reducible first | exact HB.out | apply below_alloc | apply pw_below_drewN | apply below_drew1) | exact HB.out)⟩⟩
                  ·rw [if_neg c28] at H
                   exact absurd H (by simp)
                 ·rw [if_neg c27] at H
                  exact absurd H (by simp)
                ·rw [if_neg c24] at H
                 exact absurd H (by simp)
               ·rw [if_neg c23] at H
                exact absurd H (by simp)
              ·rw [if_neg c21] at H
               have c21b0 : decide (x11_4 < 4) = false := decide_eq_false c21
               clear c21
               by_cases c30 : a1 = true
               ·subst c30
                have H1 : (some (wrap64 ((wrap64 ((wrap64 (x9_4 - 4294967296)) * 4294967296)) + x10_4), true)) = some (r1, r2) := by rw [if_pos rfl] at H; exact H
                clear H
                have H := H1
                clear H1
                simp only [Option.some.injEq, Prod.mk.injEq] at H
                obtain ⟨rfl, rfl⟩ := H
                go_wp2
                go_ret2
                exact ⟨by first | rfl | (simp [errW_none, errW_some] <;> rfl) | (simp only [← hji16]; first | rfl | (simp [errW_none, errW_some] <;> rfl)) | (simp [*, errW_none, errW_some] <;> rfl), by repeat (first | (with_reducible first | exact HB.out | apply below_alloc | apply pw_below_drewN | apply below_drew1) | exact HB.out)⟩
               ·replace c30 := Bool.eq_false_iff.mpr c30
                subst c30
                have H1 : (some (wrap64 ((wrap64 (x9_4 * 4294967296)) + x10_4), true)) = some (r1, r2) := by rw [if_neg (show ¬ (false = true) by decide)] at H; exact H
                clear H
                have H := H1
                clear H1
                simp only [Option.some.injEq, Prod.mk.injEq] at H
                obtain ⟨rfl, rfl⟩ := H
                go_wp2
                go_ret2
                exact ⟨by first | rfl | (simp [errW_none, errW_some] <;> rfl) | (simp only [← hji16]; first | rfl | (simp [errW_none, errW_some] <;> rfl)) | (simp [*, errW_none, errW_some] <;> rfl), by repeat (first | (with_reducible first | exact HB.out | apply below_alloc | apply pw_below_drewN | apply below_drew1) | exact HB.out)⟩
          ·rw [if_neg c18] at H
           exact absurd H (by simp)
         ·rw [if_neg c17] at H
          exact absurd H (by simp)

end Go.Proofs.Ytchldbhnohicoaa.XA
