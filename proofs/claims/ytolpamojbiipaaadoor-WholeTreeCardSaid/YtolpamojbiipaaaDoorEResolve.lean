/- target.Resolve, walked by hand: it goes on to the next step by a label, and cuts its parts' spare room off. -/
import Derived.Test.YtolpamojbiipaaaDoorXA3
import Derived.WalkMore
namespace Go.Proofs.YtolpamojbiipaaaDoor.XA
open Go.RowKit Go.Proofs.YtolpamojbiipaaaDoorW.PrintWords Go.Proofs.YtolpamojbiipaaaDoorW.PrintLast Go.Proofs.YtolpamojbiipaaaDoorW.PrintMore
set_option linter.unusedVariables false
set_option linter.unusedSimpArgs false

/-- Step by step from the parts of a directory: where one stands then, the error's number. -/
def stepsR : List ByteArray → List ByteArray → List ByteArray × Int
  | xs, [] => (xs, 0)
  | xs, p :: r => if p.data.toList = [] then stepsR xs r else if p.data.toList = [46] then stepsR xs r else
      if p.data.toList = [46, 46] then (if xs = [] then ([], 110) else stepsR xs.dropLast r) else
      if 255 < p.size then ([], 2) else stepsR (xs ++ [p]) r
def target_Resolve.f (dir tg : ByteArray) : Option (ByteArray × Int) :=
  if Pure.sound tg.data.toList = 103 then some (⟨#[]⟩, 110) else
  if Pure.sound tg.data.toList = 0 then
    (path_Parts.f dir).bind fun ps => (strings_Split.f tg (⟨#[47]⟩ : ByteArray)).bind fun qs =>
      if ps.length ≤ 1000001 then (if (stepsR ps qs).2 = 0 then (path_Join.f (stepsR ps qs).1).bind fun j => some (j, 0) else some (⟨#[]⟩, (stepsR ps qs).2)) else none
  else some (⟨#[]⟩, Pure.sound tg.data.toList)

theorem toList_data (s : ByteArray) : s.toList = s.data.toList := Lib.toList_data s
theorem split_length {s t : ByteArray} {r : List ByteArray} (h : strings_Split.f s t = some r) : r.length ≤ 1000001 := by
  unfold strings_Split.f at h
  split at h
  · rename_i hc
    obtain rfl := Option.some.inj h
    have h1 := Pure.cutS_length s.data.toList
    have h2 := List.count_le_length (a := (47 : UInt8)) (l := s.data.toList)
    have h3 : s.data.toList.length = s.size := by simp
    rw [List.length_map]
    omega
  · cases h
theorem cut_full (A : Option Addr) (n c : Nat) (h : n ≤ c) (w : World) : (Instr.slice 45 (.slice A n c) none (some (.int .i64 (n : Int))) (some (.int .i64 (n : Int)))).run Tryd.prog w = .ok (.slice A n n) w := by
  have he : Tryd.prog.underlying 45 = some (.slice (Tryd.prog.elem 45)) := by kernel_rfl
  rw [run_slice_hm w 45 A n c he .i64 .i64 n n (by omega) (by omega) (by omega)]
  have hs : (sizeOf (Tryd.prog.elem 45)).run Tryd.prog w = .ok 1 w := by kernel_rfl
  rw [hs]
  simp only [Result.andThen, sliced]
  simp
  cases A <;> simp [Addr.add]
theorem cut_last (A : Option Addr) (n c : Nat) (h : n + 1 ≤ c) (w : World) : (Instr.slice 45 (.slice A (n + 1) c) none (some (.int .i64 (n : Int))) none).run Tryd.prog w = .ok (.slice A n c) w := by
  have he : Tryd.prog.underlying 45 = some (.slice (Tryd.prog.elem 45)) := by kernel_rfl
  rw [run_slice_h w 45 A (n + 1) c he .i64 n (by omega) (by omega)]
  have hs : (sizeOf (Tryd.prog.elem 45)).run Tryd.prog w = .ok 1 w := by kernel_rfl
  rw [hs]
  simp only [Result.andThen, sliced]
  simp
  cases A <;> simp [Addr.add]
theorem app_holds {w w' : World} {A : Option Addr} {n : Nat} {xs : List ByteArray} (h : Kd.C Kd.string w A n xs) (hb : Below w.heap.size w w') : ∀ b, A = some b → ∀ (j : Nat) (u : Value), (xs.map Value.string)[j]? = some u → w'.cell? (b.add j) = some u := by
  intro b e j u hj
  have hR := Kd.reads_of_C (enc := Value.string) (d := ByteArray.empty) (h1 := fun _ => rfl) (Kd.C_below h hb)
  rw [List.getElem?_map] at hj
  obtain ⟨x, hx, rfl⟩ := Option.map_eq_some_iff.1 hj
  obtain ⟨hl, _⟩ := List.getElem?_eq_some_iff.1 hx
  obtain ⟨ad, e2, hc⟩ := hR.2.2 (by have := hR.1; omega)
  rw [e] at e2
  obtain rfl := Option.some.inj e2
  rw [hc j (by have := hR.1; omega), List.getD_eq_getElem?_getD, hx]
  rfl
theorem below_of_grown {w w' : World} (h : w.grownBy w' none) : Below w.heap.size w w' := (Below.refl _ _).grown h (Nat.le_refl _) (fun k hk => by cases hk)
theorem app_none {w : World} {A : Option Addr} {n : Nat} {xs : List ByteArray} (h : Kd.C Kd.string w A n xs) : A = none → n = 0 ∧ n = 0 := by
  intro e
  have hR := Kd.reads_of_C (enc := Value.string) (d := ByteArray.empty) (h1 := fun _ => rfl) h
  rcases Nat.eq_zero_or_pos n with h0 | h0
  · exact ⟨h0, h0⟩
  · obtain ⟨ad, e2, _⟩ := hR.2.2 h0
    rw [e] at e2
    cases e2
theorem app_reads {w' : World} {b n : Nat} {v : Value} {xs : List ByteArray} {p : ByteArray} (hn : xs.length = n) (h : w'.ownsRow b 9 1 v (n + 1) (xs.map Value.string ++ [Value.string p])) : ∃ A c, v = .slice A (n + 1) c ∧ n + 1 ≤ c ∧ Kd.C Kd.string w' A (n + 1) (xs ++ [p]) := by
  have hl : (xs ++ [p]).length = n + 1 := by simp [hn]
  have h2 : w'.ownsRow b 9 1 v (xs ++ [p]).length (encs Value.string (xs ++ [p])) := by rw [hl]; simpa [encs] using h
  have h3 : Kd.R Kd.string 9 w' b (fun _ => True) v (xs ++ [p]) := Kd.R_of_own (enc := Value.string) (h1 := fun _ => rfl) h2 (fun _ _ => trivial)
  obtain ⟨A, c, e, hc, hC⟩ := Kd.R_reads h3
  rw [hl] at e hc hC
  exact ⟨A, c, e, hc, hC⟩
theorem reads_take {w : World} {A : Option Addr} {n : Nat} {xs : List ByteArray} (h : Kd.C Kd.string w A (n + 1) xs) : Kd.C Kd.string w A n xs.dropLast := by
  have hR := Kd.reads_of_C (enc := Value.string) (d := ByteArray.empty) (h1 := fun _ => rfl) h
  refine Kd.C_of_reads (enc := Value.string) (d := ByteArray.empty) (h1 := fun _ => rfl) ⟨by rw [List.length_dropLast, hR.1]; omega, by have := hR.2.1; omega, fun hn => ?_⟩
  obtain ⟨ad, e, hc⟩ := hR.2.2 (by omega)
  refine ⟨ad, e, fun j hj => ?_⟩
  rw [hc j (by omega)]
  congr 2
  rw [List.getD_eq_getElem?_getD, List.getD_eq_getElem?_getD, List.getElem?_dropLast, if_pos (by rw [hR.1]; omega)]

set_option maxHeartbeats 4000000 in
set_option maxRecDepth 100000 in
theorem target_Resolve.calls (dir tg : ByteArray) (r1 : ByteArray) (r2 : Int) (w : World) (h : target_Resolve.f dir tg = some (r1, r2)) (hGG0 : GG w) :
    Calls Tryd.prog 41 #[.string dir, .string tg] w fun e w' => e = .returned (.tuple #[.string r1, .int .i64 r2]) ∧ Below w.heap.size w w' := by
  have HB := Aside0.mk (Below.refl w.heap.size w)
  have HGG := Aside0.mk hGG0
  clear hGG0
  unfold target_Resolve.f at h
  obtain ⟨e0, he0⟩ : ∃ e : Int, e = Pure.sound tg.data.toList := ⟨_, rfl⟩
  have hS : path_Sound.f tg = some e0 := by rw [he0]; rfl
  rw [← he0] at h
  have HS := Aside0.mk hS
  clear hS he0
  by_cases h3 : e0 = 103
  · rw [if_pos h3] at h
    obtain ⟨rfl, rfl⟩ := Prod.mk.inj (Option.some.inj h)
    subst h3
    clear h
    go_enter Tryd.func41, Tryd.ntmps41
    go_wp2
    go_step3
    go_wp2_with (go_at_call 45; (with_reducible refine (path_Sound.calls tg 103 _ HS.out ?hGG).mono ?_); (case hGG => exact HGG.out); rintro e w5 ⟨rfl, hb⟩)
    rw [Exit.noGoto_ret]
    go_ret2
    exact ⟨rfl, hb⟩
  rw [if_neg h3] at h
  have b3 : (e0 == 103) = false := beq_eq_false_iff_ne.2 h3
  clear h3
  by_cases h0 : e0 = 0
  · rw [if_pos h0] at h
    subst h0
    clear b3
    replace h := Option.bind_eq_some_iff.1 h
    obtain ⟨ps, hp, h⟩ := h
    replace h := Option.bind_eq_some_iff.1 h
    obtain ⟨qs, hq, h⟩ := h
    have hlp : ps.length ≤ 1000001 := by
      by_cases hl : ps.length ≤ 1000001
      · exact hl
      · rw [if_neg hl] at h; cases h
    rw [if_pos hlp] at h
    have hlq : qs.length ≤ 1000001 := split_length hq
    have HLP := Aside0.mk hlp
    have HLQ := Aside0.mk hlq
    clear hlp hlq
    have HP := Aside0.mk hp
    have HQ := Aside0.mk hq
    have HH := Aside0.mk h
    clear hp hq h
    go_enter Tryd.func41, Tryd.ntmps41
    go_wp2
    go_step3
    go_wp2_with (first | (go_at_call 45; (with_reducible refine (path_Sound.calls tg 0 _ HS.out ?hGG).mono ?_); (case hGG => exact HGG.out); rintro e w5 ⟨rfl, hb⟩; have n0_ := Aside0.mk hb; clear hb HB; have HB := n0_; clear n0_) | (go_at_call 43; (with_reducible refine (path_Parts.calls dir ps _ HP.out).mono ?_); rintro e w6 ⟨v7, rfl, ho0, hb⟩; have n0_ := Aside0.mk (HB.out.trans (hb.mono HB.out.size)); have n1_ := Aside0.mk ho0; clear hb HB ho0; have HB := n0_; have HO := n1_; clear n0_ n1_))
    go_step3
    go_wp2_with (go_at_call 46; (with_reducible refine (strings_Split.calls tg (⟨#[47]⟩ : ByteArray) qs _ HQ.out).mono ?_); rintro e w8 ⟨v21, rfl, ho0, hb⟩; have n0_ := Aside0.mk (HB.out.trans (hb.mono HB.out.size)); have n1_ := Aside0.mk ho0; have n2_ := Aside0.mk (Kd.R_below HO.out hb); clear hb HB ho0 HO; have HB := n0_; have HOQ := n1_; have HO := n2_; clear n0_ n1_ n2_; obtain ⟨Aq, cq, eq⟩ := Kd.R_slice HOQ.out; subst eq; obtain ⟨Ap, cp, ep⟩ := Kd.R_slice HO.out; subst ep)
    obtain ⟨R, hR⟩ : ∃ R, R = stepsR ps qs := ⟨_, rfl⟩
    have HR := Aside0.mk hR
    have HH2 := Aside0.mk (show (if R.2 = 0 then (path_Join.f R.1).bind fun j => some (j, 0) else some (⟨#[]⟩, R.2)) = some (r1, r2) from by rw [hR]; exact HH.out)
    clear hR HH
    go_loopw [7, 23] (fun v7 v23 wr => ∃ (A : Option Addr) (n c : Nat) (xs : List ByteArray) (i : Nat), v7 = .slice A n c ∧ v23 = .int .i64 i ∧ Aside0 (i ≤ qs.length) ∧ Aside0 (Kd.C Kd.string wr A n xs) ∧ n ≤ c ∧ Aside0 (stepsR xs (qs.drop i) = R) ∧ Aside0 (n ≤ 1000001 + i) ∧ Aside0 (xs.length = n) ∧ Aside0 (Kd.C Kd.string wr Aq qs.length qs) ∧ Aside0 (Below w.heap.size w wr)) (fun _ v23 _ => qs.length - (intOf v23).toNat)
    case atStart => exact ⟨Ap, ps.length, cp, ps, 0, rfl, rfl, ⟨Nat.zero_le _⟩, ⟨(Kd.R_reads' HO.out).2.2⟩, (Kd.R_reads' HO.out).2.1, ⟨HR.out.symm⟩, ⟨by have := HLP.out; omega⟩, ⟨rfl⟩, ⟨(Kd.R_reads' HOQ.out).2.2⟩, ⟨HB.out⟩⟩
    case round =>
      clear HO HOQ HB HR
      obtain ⟨A, n, c, xs, i, rfl, rfl, HI, HX, hnc, HS, HL, HN, HQ, HB⟩ := hrel
      have hib : (i : Int) ≤ 1000001 := by have := HI.out; have := HLQ.out; omega
      have hnb : (n : Int) ≤ 3000001 := by have := HL.out; omega
      by_cases hlt : i < qs.length
      · obtain ⟨ad, ea, hx⟩ := Kd.at_string HQ.out (i : Int) (by omega) (by omega)
        subst ea
        rw [Int.toNat_natCast] at hx
        have hd : qs.drop i = rdOf ByteArray.empty qs (i : Int) :: qs.drop (i + 1) := by
          rw [List.drop_eq_getElem_cons hlt]
          congr 1
          simp [rdOf, List.getD_eq_getElem?_getD, List.getElem?_eq_getElem hlt]
        have hs := HS.out
        rw [hd] at hs
        clear HS hd
        generalize rdOf ByteArray.empty qs (i : Int) = p at hx hs
        have hlz : (i : Int) < (qs.length : Int) := by omega
        have htl := toList_data p
        by_cases c1 : p.data.toList = []
        · rw [stepsR, if_pos c1] at hs
          have b1 : p.toList.isEmpty = true := by rw [htl, c1]; rfl
          have b2 : (p.toList == ([] : List UInt8)) = true := by rw [htl, c1]; rfl
          have HS := Aside0.mk hs
          clear hs c1 htl
          go_wp2
          go_roundw
          case rel => exact ⟨A, n, c, xs, i + 1, rfl, by go_num, ⟨by omega⟩, HX, hnc, HS, ⟨by have := HL.out; omega⟩, HN, HQ, HB⟩
          case measure => simp [intOf]; omega
        rw [stepsR, if_neg c1] at hs
        have b1 : p.toList.isEmpty = false := by rw [htl]; exact List.isEmpty_eq_false_iff.2 c1
        have b2 : (p.toList == ([] : List UInt8)) = false := by rw [htl]; exact beq_eq_false_iff_ne.2 c1
        clear c1
        by_cases c2 : p.data.toList = [46]
        · rw [if_pos c2] at hs
          have b3 : (p.toList == ([46] : List UInt8)) = true := by rw [htl, c2]; rfl
          have HS := Aside0.mk hs
          clear hs c2 htl
          go_wp2
          go_roundw
          case rel => exact ⟨A, n, c, xs, i + 1, rfl, by go_num, ⟨by omega⟩, HX, hnc, HS, ⟨by have := HL.out; omega⟩, HN, HQ, HB⟩
          case measure => simp [intOf]; omega
        rw [if_neg c2] at hs
        have b3 : (p.toList == ([46] : List UInt8)) = false := by rw [htl]; exact beq_eq_false_iff_ne.2 c2
        clear c2
        by_cases c3 : p.data.toList = [46, 46]
        · rw [if_pos c3] at hs
          have b4 : (p.toList == ([46, 46] : List UInt8)) = true := by rw [htl, c3]; rfl
          clear c3 htl
          by_cases c4 : xs = []
          · rw [if_pos c4] at hs
            subst c4
            subst hs
            clear HS
            have hh := HH2.out
            rw [if_neg (by decide)] at hh
            obtain ⟨rfl, rfl⟩ := Prod.mk.inj (Option.some.inj hh)
            obtain rfl : n = 0 := by have := HN.out; simpa using this.symm
            clear hh HH2
            go_wp2
            rw [Exit.noGoto_ret]
            go_ret2
            exact ⟨rfl, HB.out⟩
          · rw [if_neg c4] at hs
            have HS := Aside0.mk hs
            obtain ⟨m, rfl⟩ : ∃ m, n = m + 1 := ⟨n - 1, by have := List.length_pos_iff.2 c4; have := HN.out; omega⟩
            have HN2 := Aside0.mk (show xs.dropLast.length = m by rw [List.length_dropLast, HN.out]; omega)
            have HX2 := Aside0.mk (reads_take HX.out)
            have hcut := cut_last A m c hnc
            have hne : ((m : Int) + 1 == 0) = false := beq_eq_false_iff_ne.2 (by omega)
            clear hs c4 HX HN
            go_wp2
            go_roundw
            case rel => exact ⟨A, m, c, xs.dropLast, i + 1, rfl, by go_num, ⟨by omega⟩, HX2, by omega, HS, ⟨by have := HL.out; omega⟩, HN2, HQ, HB⟩
            case measure => simp [intOf]; omega
        rw [if_neg c3] at hs
        have b4 : (p.toList == ([46, 46] : List UInt8)) = false := by rw [htl]; exact beq_eq_false_iff_ne.2 c3
        clear c3 htl
        by_cases c5 : 255 < p.size
        · rw [if_pos c5] at hs
          subst hs
          have b5 : decide ((255 : Int) < (p.size : Int)) = true := decide_eq_true (by omega)
          have hh := HH2.out
          rw [if_neg (by decide)] at hh
          obtain ⟨rfl, rfl⟩ := Prod.mk.inj (Option.some.inj hh)
          clear hh HH2
          go_wp2
          rw [Exit.noGoto_ret]
          go_ret2
          exact ⟨rfl, HB.out⟩
        · rw [if_neg c5] at hs
          have b5 : decide ((255 : Int) < (p.size : Int)) = false := decide_eq_false (by omega)
          have HS := Aside0.mk hs
          clear hs c5
          have hcut := cut_full A n c hnc
          have HN2 := Aside0.mk (show (xs ++ [p]).length = n + 1 by rw [List.length_append, HN.out]; rfl)
          obtain ⟨i9, hi9, hz9, hs9, hb9⟩ := info_parts info9
          have HI9 := Aside0.mk hi9
          have HZ9 := Aside0.mk hz9
          have HS9 := Aside0.mk hs9
          have HB9 := Aside0.mk hb9
          clear hi9 hz9 hs9 hb9
          go_wp2_with (at_builtin; refine wpList_append_grows _ rfl (.tmp 32) (.tmp 34) 45 rfl 9 i9 (.string ⟨#[]⟩) 1 16 Tryd.underlying45 HI9.out HZ9.out HS9.out HB9.out rfl (by omega) A n n (xs.map Value.string) rfl (app_none HX.out) (by rw [List.length_map, HN.out]; omega) ?hh ⟨wr.heap.size, 0, none⟩ 1 1 [.string p] rfl rfl ?hc ?h1 (by omega) ?hm ?hb ?_; (case hh => exact app_holds HX.out (below_alloc (Below.refl _ _) _)); (case hc => intro j u hj; (match j, hj with | 0, hj => (simp at hj; subst hj; simp [Addr.add]) | j + 1, hj => (simp at hj))); (case h1 => intro u hu; rw [List.mem_singleton.1 hu]; rfl); (case hm => unfold maxLen; omega); (case hb => omega); intro v' w' hown hgr; obtain ⟨A2, c2, e2, hc2, hX2⟩ := app_reads HN.out hown; subst e2; have HX2 := Aside0.mk hX2; have HB2 := Aside0.mk ((below_alloc HB.out _).grown hgr (by have := HB.out.size; simp; omega) (fun k hk => by cases hk)); have HQ2 := Aside0.mk (Kd.C_below (Kd.C_below HQ.out (below_alloc (Below.refl _ _) _)) (below_of_grown hgr)); clear hX2 hown hgr)
          go_roundw
          case rel => exact ⟨A2, n + 1, c2, xs ++ [p], i + 1, rfl, by go_num, ⟨by omega⟩, HX2, hc2, HS, ⟨by have := HL.out; omega⟩, HN2, HQ2, HB2⟩
          case measure => simp [intOf]; omega
      · have hs := HS.out
        have hi : i = qs.length := by have := HI.out; omega
        rw [hi, List.drop_length, stepsR] at hs
        subst hs
        have hh := HH2.out
        rw [if_pos rfl] at hh
        replace hh := Option.bind_eq_some_iff.1 hh
        obtain ⟨j, hj, hh⟩ := hh
        obtain ⟨rfl, rfl⟩ := Prod.mk.inj (Option.some.inj hh)
        have hlz : ¬ ((i : Int) < (qs.length : Int)) := by omega
        have HJ := Aside0.mk hj
        have HX2 := Aside0.mk (show Kd.C Kd.string wr A xs.length xs by rw [HN.out]; exact HX.out)
        have HC2 := Aside0.mk (show xs.length ≤ c by rw [HN.out]; exact hnc)
        have hnx := HN.out
        clear hi HS HH2 hh hj HX HN
        subst hnx
        go_wp2_with (go_at_call 24; (with_reducible refine (path_Join.calls _ _ xs j _ ?side1 ?side2 HJ.out).mono ?_); (case side1 => exact HX2.out); (case side2 => exact HC2.out); rintro e w9 ⟨rfl, hb⟩)
        rw [Exit.noGoto_ret]
        go_ret2
        exact ⟨rfl, HB.out.trans (hb.mono HB.out.size)⟩
  · rw [if_neg h0] at h
    have b0 : (e0 == 0) = false := beq_eq_false_iff_ne.2 h0
    obtain ⟨rfl, rfl⟩ := Prod.mk.inj (Option.some.inj h)
    clear h h0
    go_enter Tryd.func41, Tryd.ntmps41
    go_wp2
    go_step3
    go_wp2_with (go_at_call 45; (with_reducible refine (path_Sound.calls tg e0 _ HS.out ?hGG).mono ?_); (case hGG => exact HGG.out); rintro e w5 ⟨rfl, hb⟩)
    rw [Exit.noGoto_ret]
    go_ret2
    exact ⟨rfl, hb⟩
end Go.Proofs.YtolpamojbiipaaaDoor.XA
