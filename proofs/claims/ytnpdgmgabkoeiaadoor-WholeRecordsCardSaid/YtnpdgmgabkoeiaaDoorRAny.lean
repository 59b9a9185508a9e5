/- strings.ContainsAny at '=', byte 0, newline: any text, its bytes below 128 or not. -/
import Derived.Test.YtnpdgmgabkoeiaaDoorRGlob
import Derived.Test.YtnpdgmgabkoeiaaDoorRDec
import Derived.Laws.RangeString
import Derived.Laws.RangeAny
namespace Go.Proofs.YtnpdgmgabkoeiaaDoor.R
open Go.RowKit Go.Proofs.YtnpdgmgabkoeiaaDoorW.PrintWords Go.Proofs.YtnpdgmgabkoeiaaDoorW.PrintLast Go.Proofs.YtnpdgmgabkoeiaaDoorW.PrintMore Go.Proofs.YtnpdgmgabkoeiaaDoor.Mem Go.Proofs.YtnpdgmgabkoeiaaDoor.Pure
set_option linter.unusedVariables false
set_option linter.unusedSimpArgs false

theorem below_dN (w : World) : ∀ n : Nat, Below w.heap.size w (w.drewN n)
  | 0 => Below.refl _ _
  | n + 1 => below_drew (below_dN w n)
theorem iter_at (w : World) (s : ByteArray) (pos : Nat) : (w.iter s pos).heap[w.heap.size]? = some (.stringIter s pos) := World.iter_heap w s pos
theorem iter_below (w : World) (s : ByteArray) (pos : Nat) : Below w.heap.size w (w.iter s pos) := below_alloc (Below.refl _ _) _
set_option maxHeartbeats 2000000 in
set_option maxRecDepth 100000 in
theorem rune_err (w : World) : Calls Tryd.prog 29 #[.string ⟨#[61, 0, 10]⟩, .int .i32 65533] w fun e w' => e = .returned (.int .i64 (-1)) ∧ Below w.heap.size w w' := by
  go_enter Tryd.func29, Tryd.ntmps29
  go_wp2
  go_loopw [5] (fun _ w' => ∃ pos : Nat, w' = w.iter ⟨#[61, 0, 10]⟩ pos) (fun _ w' => 3 - w'.iterPos w.heap.size)
  case atStart => exact ⟨0, rfl⟩
  case round =>
    obtain ⟨pos, rfl⟩ := hrel
    by_cases hp : pos < 3
    · have hnx : ∀ ty, (Instr.next (.pointer (some ⟨w.heap.size, 0, none⟩)) true ty).run Tryd.prog (w.iter ⟨#[61, 0, 10]⟩ pos) = _ := fun ty => run_next_ascii w (⟨#[61, 0, 10]⟩ : ByteArray) pos ty hp (by
        have : pos = 0 ∨ pos = 1 ∨ pos = 2 := by omega
        rcases this with rfl | rfl | rfl
        · show (61 : UInt8).toNat < 128; decide
        · show (0 : UInt8).toNat < 128; decide
        · show (10 : UInt8).toNat < 128; decide)
      have hne : ((((⟨#[61, 0, 10]⟩ : ByteArray)[pos]'hp).toNat : Int) == 65533) = false := beq_eq_false_iff_ne.2 (by have := ((⟨#[61, 0, 10]⟩ : ByteArray)[pos]'hp).toNat_lt; omega)
      go_wp2
      go_roundw
      case rel => exact ⟨pos + 1, rfl⟩
      case measure => simp; omega
    · have hnx : ∀ ty, (Instr.next (.pointer (some ⟨w.heap.size, 0, none⟩)) true ty).run Tryd.prog (w.iter ⟨#[61, 0, 10]⟩ pos) = _ := fun ty => run_next_end w (⟨#[61, 0, 10]⟩ : ByteArray) pos ty hp
      go_wp2
      go_ret
      exact ⟨rfl, iter_below _ _ _⟩
theorem no_one (b : UInt8) (hb : 128 ≤ b.toNat) : Lib.indexByte (⟨#[10]⟩ : ByteArray).data.toList ((b.toNat : Int)).toNat.toUInt8 = -1 := by
  have e : ((b.toNat : Int)).toNat.toUInt8 = b := by simp
  rw [e, ← Lib.index_one]
  refine index_no _ _ (fun h => ?_)
  have : b = 10 := by simpa using h
  subst this
  revert hb; decide
set_option maxHeartbeats 2000000 in
set_option maxRecDepth 100000 in
theorem rune_high (r : Int) (h : 128 ≤ r) (hn : r ≠ 65533) (hm : r ≤ 2147483647) (w : World) : Calls Tryd.prog 29 #[.string ⟨#[61, 0, 10]⟩, .int .i32 r] w fun e w' => e = .returned (.int .i64 (-1)) ∧ Below w.heap.size w w' := by
  have c1 : decide ((0 : Int) ≤ r) = true := decide_eq_true (by omega)
  have c2 : decide (r < (128 : Int)) = false := decide_eq_false (by omega)
  have c3 : (r == (65533 : Int)) = false := beq_eq_false_iff_ne.2 hn
  have hV := Tryd.utf8_ValidRune r
  cases hv : Lib.validRune r
  · rw [hv] at hV
    go_enter Tryd.func29, Tryd.ntmps29
    go_wp2_with (go_at_call 45; refine (hV _).mono ?_; rintro e w' ⟨rfl, rfl⟩)
    go_ret
    exact ⟨rfl, Below.refl _ _⟩
  · rw [hv] at hV
    have hE := enc_high r h
    clear hv h hn
    rcases hE with ⟨a, b, hE, hb⟩ | ⟨a, b, c, hE, hb⟩ | ⟨a, b, c, d, hE, hb⟩
    · have hi : ∀ w, Calls Tryd.prog 44 #[.string ((⟨#[61, 0, 10]⟩ : ByteArray).extract 2 3), .int .u8 (((((⟨#[a, b]⟩ : ByteArray)[1]'(show 1 < 2 by decide)).toNat : Int)))] w fun e w' => e = .returned (.int .i64 (-1)) ∧ w' = w := fun w => by
        have hi := Tryd.strings_IndexByte (⟨#[10]⟩ : ByteArray) (b.toNat : Int)
        have e0 : Lib.indexByte (⟨#[10]⟩ : ByteArray).data.toList ((b.toNat : Int)).toNat.toUInt8 = -1 := no_one b hb
        rw [e0] at hi
        exact hi w
      have hne : ((((⟨#[61, 0, 10]⟩ : ByteArray)[1]'(show 1 < 3 by decide)).toNat : Int) != (((⟨#[a, b]⟩ : ByteArray)[1]'(show 1 < 2 by decide)).toNat : Int)) = true := bne_iff_ne.2 (by
        show ((0 : UInt8).toNat : Int) ≠ (b.toNat : Int)
        have : (0 : UInt8).toNat = 0 := rfl
        omega)
      have hw2 : IntKind.i64.wrap 2 = 2 := by decide
      go_enter Tryd.func29, Tryd.ntmps29
      go_wp2_with (go_at_call 45; refine (hV _).mono ?_; rintro e w' ⟨rfl, rfl⟩)
      go_step3
      go_wp2
      go_loopg [9, 10] 1 (fun g v9 v10 wx => v9 = .int .i64 1 ∧ v10 = .int .i64 0 ∧ wx = w')
      case atStart => exact ⟨rfl, rfl, rfl⟩
      case round =>
        obtain ⟨rfl, rfl, rfl⟩ := hrel
        go_wp2
        go_step3
        go_wp2
        go_quiet (fail)
        go_wp2
        go_quiet (first | (go_at_call 44; refine (hi _).mono ?_; rintro e w' ⟨rfl, rfl⟩; exact ⟨rfl, _, rfl⟩))
        go_wp2
        simp only [Exit.inBlock, Exit.then, Exit.noGoto_ret]
        refine bodyPost_ret (results_tmp rfl _ _ _) rfl ?_
        exact ⟨rfl, below_dN _ _⟩
    · have hi : ∀ w, Calls Tryd.prog 44 #[.string ((⟨#[61, 0, 10]⟩ : ByteArray).extract 3 3), .int .u8 (((((⟨#[a, b, c]⟩ : ByteArray)[2]'(show 2 < 3 by decide)).toNat : Int)))] w fun e w' => e = .returned (.int .i64 (-1)) ∧ w' = w := fun w => by
        have hi := Tryd.strings_IndexByte (⟨#[]⟩ : ByteArray) (c.toNat : Int)
        have e0 : Lib.indexByte (⟨#[]⟩ : ByteArray).data.toList ((c.toNat : Int)).toNat.toUInt8 = -1 := rfl
        rw [e0] at hi
        exact hi w
      have hne : ((((⟨#[61, 0, 10]⟩ : ByteArray)[2]'(show 2 < 3 by decide)).toNat : Int) != (((⟨#[a, b, c]⟩ : ByteArray)[2]'(show 2 < 3 by decide)).toNat : Int)) = true := bne_iff_ne.2 (by
        show ((10 : UInt8).toNat : Int) ≠ (c.toNat : Int)
        have : (10 : UInt8).toNat = 10 := rfl
        omega)
      have hw2 : IntKind.i64.wrap 3 = 3 := by decide
      go_enter Tryd.func29, Tryd.ntmps29
      go_wp2_with (go_at_call 45; refine (hV _).mono ?_; rintro e w' ⟨rfl, rfl⟩)
      go_step3
      go_wp2
      go_loopg [9, 10] 1 (fun g v9 v10 wx => v9 = .int .i64 2 ∧ v10 = .int .i64 0 ∧ wx = w')
      case atStart => exact ⟨rfl, rfl, rfl⟩
      case round =>
        obtain ⟨rfl, rfl, rfl⟩ := hrel
        go_wp2
        go_step3
        go_wp2
        go_quiet (fail)
        go_wp2
        go_quiet (first | (go_at_call 44; refine (hi _).mono ?_; rintro e w' ⟨rfl, rfl⟩; exact ⟨rfl, _, rfl⟩))
        go_wp2
        simp only [Exit.inBlock, Exit.then, Exit.noGoto_ret]
        refine bodyPost_ret (results_tmp rfl _ _ _) rfl ?_
        exact ⟨rfl, below_dN _ _⟩
    · go_enter Tryd.func29, Tryd.ntmps29
      go_wp2_with (go_at_call 45; refine (hV _).mono ?_; rintro e w' ⟨rfl, rfl⟩)
      go_step3
      go_wp2
      go_loopg [9, 10] 1 (fun g v9 v10 wx => v9 = .int .i64 3 ∧ v10 = .int .i64 0 ∧ wx = w')
      case atStart => exact ⟨rfl, rfl, rfl⟩
      case round =>
        obtain ⟨rfl, rfl, rfl⟩ := hrel
        go_wp2
        simp only [Exit.inBlock, Exit.then, Exit.noGoto_ret]
        refine bodyPost_ret (results_tmp rfl _ _ _) rfl ?_
        exact ⟨rfl, Below.refl _ _⟩
/-- The three bytes, looked for. -/
theorem idx3 (c : UInt8) : Lib.indexByte (⟨#[61, 0, 10]⟩ : ByteArray).data.toList c = if c = 61 then 0 else if c = 0 then 1 else if c = 10 then 2 else -1 := by
  show Lib.indexByte [61, 0, 10] c = _
  simp only [Lib.indexByte, beq_iff_eq, eq_comm (b := c)]
  by_cases h1 : c = 61
  · simp [h1]
  · by_cases h2 : c = 0
    · simp [h2]
    · by_cases h3 : c = 10
      · simp [h3]
      · simp [h1, h2, h3]
theorem rune_c (c : Nat) (h : c ≤ 1114111) (w : World) : Calls Tryd.prog 29 #[.string ⟨#[61, 0, 10]⟩, .int .i32 (c : Int)] w fun e w' =>
    (∃ k : Int, e = .returned (.int .i64 k) ∧ decide ((0 : Int) ≤ k) = decide (c = 61 ∨ c = 0 ∨ c = 10)) ∧ Below w.heap.size w w' := by
  by_cases h1 : c < 128
  · refine (Tryd.strings_IndexRune_ascii (⟨#[61, 0, 10]⟩ : ByteArray) (c : Int) w (by omega) (by omega)).mono ?_
    rintro e w' ⟨rfl, rfl⟩
    refine ⟨⟨_, rfl, ?_⟩, Below.refl _ _⟩
    rw [idx3]
    have hc : ∀ n : Nat, n < 128 → (((c : Int).toNat.toUInt8 = UInt8.ofNat n) ↔ c = n) := fun n hn => by
      rw [← UInt8.toNat_inj]
      simp [UInt8.toNat_ofNat', Nat.toUInt8]
      omega
    have e1 := hc 61 (by omega)
    have e2 := hc 0 (by omega)
    have e3 := hc 10 (by omega)
    change _ = (61 : UInt8) ↔ _ at e1
    change _ = (0 : UInt8) ↔ _ at e2
    change _ = (10 : UInt8) ↔ _ at e3
    simp only [e1, e2, e3]
    by_cases a1 : c = 61
    · simp [a1]
    · by_cases a2 : c = 0
      · simp [a2]
      · by_cases a3 : c = 10
        · simp [a3]
        · simp [a1, a2, a3]
  · have e1 : decide (c = 61 ∨ c = 0 ∨ c = 10) = false := decide_eq_false (by omega)
    rw [e1]
    by_cases h2 : (c : Int) = 65533
    · rw [h2]
      refine (rune_err w).mono ?_
      rintro e w' ⟨rfl, hb⟩
      exact ⟨⟨_, rfl, rfl⟩, hb⟩
    · refine (rune_high (c : Int) (by omega) h2 (by omega) w).mono ?_
      rintro e w' ⟨rfl, hb⟩
      exact ⟨⟨_, rfl, rfl⟩, hb⟩
theorem dec_le (s : ByteArray) (i : Nat) : (Utf8.decode s i).1 ≤ 1114111 := by
  have h0 := (s.get! i).toNat_lt
  rw [Lib.decode_at]
  rcases Lib.decodeN_shape (s.size - i) (s.get! i).toNat (s.get! (i + 1)).toNat (s.get! (i + 2)).toNat (s.get! (i + 3)).toNat with ⟨c0, e⟩ | ⟨c1, c2, c3, cv, e⟩ | ⟨c1, c2, c3, c4, cv, cs, e⟩ | ⟨c1, c2, c3, c4, c5, cv, cw, e⟩ | e <;> rw [e] <;> simp only <;> first | omega | decide
set_option maxHeartbeats 2000000 in
set_option maxRecDepth 100000 in
theorem idxany_c (s : ByteArray) (hs : s.size ≤ 1000000) (w : World) : Calls Tryd.prog 22 #[.string s, .string ⟨#[61, 0, 10]⟩] w fun e w' =>
    (∃ k : Int, e = .returned (.int .i64 k) ∧ decide ((0 : Int) ≤ k) = s.data.toList.any sep3) ∧ Below w.heap.size w w' := by
  by_cases h8 : 8 < s.size
  · have ha : ∀ (j : Nat) b, (⟨#[61, 0, 10]⟩ : ByteArray).data.toList[j]? = some b → b.toNat < 128 := fun j b hb => by
      have hm : b ∈ [(61 : UInt8), 0, 10] := List.mem_of_getElem? hb
      simp only [List.mem_cons, List.not_mem_nil, or_false] at hm
      rcases hm with rfl | rfl | rfl <;> decide
    refine (Tryd.strings_IndexAny_long (fun w => by kernel_rfl) s ⟨#[61, 0, 10]⟩ w (by decide) h8 (by omega) (by decide) ha).mono ?_
    rintro e w' ⟨rfl, rfl⟩
    refine ⟨⟨_, rfl, ?_⟩, below_alloc (below_alloc (Below.refl _ _) _) _⟩
    show decide (0 ≤ Lib.indexAny s.data.toList [61, 0, 10]) = _
    have hn := any_no s.data.toList [61, 0, 10]
    cases hq : s.data.toList.any sep3 with
    | false =>
      rw [List.any_eq_false] at hq
      have : Lib.indexAny s.data.toList [61, 0, 10] < 0 := hn.2 (fun b hb hm => hq b hb (by
        simp only [List.mem_cons, List.not_mem_nil, or_false] at hm
        rcases hm with rfl | rfl | rfl <;> decide))
      exact decide_eq_false (by omega)
    | true =>
      rw [List.any_eq_true] at hq
      obtain ⟨b, hb, hsep⟩ := hq
      refine decide_eq_true (Int.not_lt.1 (fun hlt => hn.1 hlt b hb ?_))
      simp only [sep3, Bool.or_eq_true, beq_iff_eq] at hsep
      simp only [List.mem_cons, List.not_mem_nil, or_false]
      rcases hsep with (h | h) | h
      · exact .inl h
      · exact .inr (.inl h)
      · exact .inr (.inr h)
  · have hz : decide ((8 : Int) < (s.size : Int)) = false := decide_eq_false (by omega)
    obtain ⟨R, hR⟩ : ∃ R, R = s.data.toList.any sep3 := ⟨_, rfl⟩
    rw [← hR]
    have HR := Aside0.mk hR
    have HS := Aside0.mk hs
    clear hR h8 hs
    have hU := Tryd.strings_shouldUseASCIISet (s.size : Int)
    rw [hz] at hU
    clear hz
    go_enter Tryd.func22, Tryd.ntmps22
    go_wp2_with (first | (go_at_call 30; refine (hU _).mono ?_; rintro e w' ⟨rfl, rfl⟩))
    go_loopw [9, 10] (fun _ _ wr => ∃ pos : Nat, wr.heap[w'.heap.size]? = some (.stringIter s pos) ∧ Aside0 (Below w'.heap.size w' wr) ∧ Aside0 (∀ j, j < pos → j < s.size → sep3 (s.get! j) = false)) (fun _ _ wr => s.size - wr.iterPos w'.heap.size)
    case atStart => exact ⟨0, iter_at w' s 0, ⟨iter_below w' s 0⟩, ⟨fun j hj => absurd hj (Nat.not_lt_zero _)⟩⟩
    case round =>
      obtain ⟨pos, hk, HB, HN⟩ := hrel
      have hip : wr.iterPos w'.heap.size = pos := by simp [World.iterPos, hk]
      have HIP := Aside0.mk hip
      clear hip
      by_cases hp : pos < s.size
      · have hnx : ∀ ty, (Instr.next (.pointer (some ⟨w'.heap.size, 0, none⟩)) true ty).run Tryd.prog wr = _ := fun ty => Lib.run_next_any_at wr w'.heap.size s pos ty hk hp
        have hit := Lib.iterAt_heap wr w'.heap.size s pos (pos + (Utf8.decode s pos).2) hk
        have HIT := Aside0.mk hit
        have HB2 := Aside0.mk (Lib.below_iterAt HB.out (Nat.le_refl _) s (pos + (Utf8.decode s pos).2))
        have hwd := Lib.width_pos s pos
        have hsd := sep3_dec s pos
        have hdl := dec_le s pos
        cases hq : sep3 (s.get! pos) with
        | true =>
          have hc := rune_c (Utf8.decode s pos).1 hdl
          have e3 : decide ((Utf8.decode s pos).1 = 61 ∨ (Utf8.decode s pos).1 = 0 ∨ (Utf8.decode s pos).1 = 10) = true := by
            rw [hsd.1 hq]
            simp only [sep3, Bool.or_eq_true, beq_iff_eq] at hq
            rcases hq with (h | h) | h <;> rw [h] <;> decide
          rw [e3] at hc
          have HR2 : R = true := by
            rw [HR.out, List.any_eq_true]
            exact ⟨_, by rw [get_data s pos hp]; exact List.getElem_mem _, hq⟩
          subst HR2
          have HC := Aside0.mk hc
          clear hsd hdl hc e3 hq hk hit
          generalize wr.iterAt w'.heap.size s (pos + (Utf8.decode s pos).2) = wi at hnx HB2
          go_wp2_with (first | (go_at_call 29; refine (HC.out _).mono ?_; rintro e w2 ⟨⟨k, rfl, hk2⟩, hb2⟩; have HB3 := Aside0.mk hb2; clear hb2))
          go_ret
          exact ⟨⟨_, rfl, decide_eq_true (by omega)⟩, HB2.out.trans (HB3.out.mono HB2.out.size)⟩
        | false =>
          have hc := rune_c (Utf8.decode s pos).1 hdl
          have e3 : decide ((Utf8.decode s pos).1 = 61 ∨ (Utf8.decode s pos).1 = 0 ∨ (Utf8.decode s pos).1 = 10) = false := decide_eq_false (by
            have := (hsd.2 hq).1
            omega)
          rw [e3] at hc
          have HC := Aside0.mk hc
          have HD := Aside0.mk (hsd.2 hq).2
          clear hsd hdl hc e3 hq hk hit
          generalize hwi : wr.iterAt w'.heap.size s (pos + (Utf8.decode s pos).2) = wi at hnx HB2 HIT
          clear hwi
          go_wp2_with (first | (go_at_call 29; refine (HC.out _).mono ?_; rintro e w2 ⟨⟨k, rfl, hk2⟩, hb2⟩; have HB3 := Aside0.mk hb2; clear hb2))
          go_roundw
          case rel =>
            have hlt : w'.heap.size < wi.heap.size := (Array.getElem?_eq_some_iff.1 HIT.out).1
            refine ⟨pos + (Utf8.decode s pos).2, (HB3.out.block _ hlt).trans HIT.out, ⟨HB2.out.trans (HB3.out.mono HB2.out.size)⟩, ⟨fun j hj hjs => ?_⟩⟩
            rcases Nat.lt_or_ge j pos with h | h
            · exact HN.out j h hjs
            · exact HD.out j h hj
          case measure =>
            have hlt : w'.heap.size < wi.heap.size := (Array.getElem?_eq_some_iff.1 HIT.out).1
            have e4 : w2.iterPos w'.heap.size = pos + (Utf8.decode s pos).2 := by simp [World.iterPos, (HB3.out.block _ hlt).trans HIT.out]
            rw [e4, HIP.out]
            omega
      · have hnx : ∀ ty, (Instr.next (.pointer (some ⟨w'.heap.size, 0, none⟩)) true ty).run Tryd.prog wr = _ := fun ty => Lib.run_next_end_at wr w'.heap.size s pos ty hk hp
        have HR2 : R = false := by
          rw [HR.out, List.any_eq_false]
          intro b hb
          obtain ⟨j, hj, rfl⟩ := List.getElem_of_mem hb
          have hj' : j < s.size := by simpa using hj
          rw [← get_data s j hj', HN.out j (by omega) hj']
          decide
        subst HR2
        clear hk
        go_wp2
        go_ret
        exact ⟨⟨_, rfl, rfl⟩, HB.out⟩
set_option maxRecDepth 100000 in
theorem any_c (s : ByteArray) (hs : s.size ≤ 1000000) (w : World) : Calls Tryd.prog 16 #[.string s, .string ⟨#[61, 0, 10]⟩] w fun e w' => e = .returned (.bool (s.data.toList.any sep3)) ∧ Below w.heap.size w w' := by
  have hI := idxany_c s hs
  generalize s.data.toList.any sep3 = R at hI ⊢
  go_enter Tryd.func16, Tryd.ntmps16
  go_wp2_with (first | (go_at_call 22; refine (hI _).mono ?_; rintro e w2 ⟨⟨k, rfl, hk2⟩, hb2⟩))
  go_ret
  exact ⟨rfl, hb2⟩
end Go.Proofs.YtnpdgmgabkoeiaaDoor.R
