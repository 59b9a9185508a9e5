/- sum.Seal: a header with its sum laid into the sum's field. -/
import Derived.Test.YtchldbhnohicoaaESums
import Derived.Test.YtchldbhnohicoaaECopy
import Derived.Test.YtchldbhnohicoaaUFormat
import Derived.Test.YtchldbhnohicoaaXA7
import Derived.Deep.RegionLaw
namespace Go.Proofs.Ytchldbhnohicoaa.XA
open Go.RowKit Go.Proofs.YtchldbhnohicoaaW.PrintWords Go.Proofs.YtchldbhnohicoaaW.PrintLast Go.Proofs.YtchldbhnohicoaaW.PrintMore
set_option linter.unusedVariables false
set_option linter.unusedSimpArgs false

def sealed (l : List Int) : List Int := l.take 148 ++ (Pure.oct (total plainOne 0 l) 6 ++ [0, 32]) ++ l.drop 156
def sum_Seal.f (l : List Int) : Option (List Int × Int) := if l.length = 512 then (if fair l then some (sealed l, 0) else none) else some ([], 1)

theorem total_plain_bound : ∀ (l : List Int) (i : Nat), (∀ x ∈ l, 0 ≤ x ∧ x < 256) → 0 ≤ total plainOne i l ∧ total plainOne i l ≤ 255 * (l.length : Int)
  | [], i, _ => by simp [total]
  | x :: l, i, hl => by
    have hx := hl x (by simp)
    have h1 : 0 ≤ blankAt i x ∧ blankAt i x < 256 := by unfold blankAt; split <;> omega
    have h2 := total_plain_bound l (i + 1) (fun y hy => hl y (by simp [hy]))
    simp only [total, plainOne, List.length_cons]
    omega
theorem fair_bytes {l : List Int} (h : fair l = true) : ∀ x ∈ l, 0 ≤ x ∧ x < 256 := by
  simp only [fair, Bool.and_eq_true, decide_eq_true_eq, List.all_eq_true] at h
  exact h.2
theorem seal_field {l : List Int} (hf : fair l = true) (hl : l.length = 512) : ∃ k, octal_Format.f k (total plainOne 0 l) 7 = some (Pure.oct (total plainOne 0 l) 6 ++ [0], 0) := by
  have hb := total_plain_bound l 0 (fair_bytes hf)
  rw [hl] at hb
  have := Pure.format_ev (n := total plainOne 0 l) (w := 7) (by omega) (by omega)
  have hfit : Pure.fits (total plainOne 0 l) 7 = true := by
    simp only [Pure.fits, decide_eq_true_eq]
    have := (Pure.digs_le 5 (total plainOne 0 l) hb.1).2 (by have e : (8 : Int) ^ (5 + 1) = 262144 := by decide
                                                             omega)
    omega
  rw [Pure.fmt, if_neg (by omega), if_pos hfit] at this
  exact this.rounds

theorem lit32 (X : World) : Kd.C (Kd.int .u8) (X.alloc (.cells #[.int .u8 32] 5)) (some ⟨X.heap.size, 0, none⟩) 1 [32] := by
  refine Kd.C_of_reads (d := (0 : Int)) (h1 := fun _ => rfl) ⟨rfl, by omega, fun _ => ⟨_, rfl, fun j hj => ?_⟩⟩
  obtain rfl : j = 0 := by omega
  rw [add_plain, World.cell?_alloc_mark]
  rfl
theorem seal_reads {W : World} {A : Option Addr} {fd : List Int} (h : (Kd.int .u8).C W A (fd ++ [32]).length (fd ++ [32])) : (Kd.scalar (Value.int .u8) (fun _ => rfl)).C W A (fd.length + 1) (fd ++ [32]) := by
  rw [List.length_append] at h
  exact h
theorem seal_fit {l : List Int} (h : l.length = 512) : 148 + 8 ≤ l.length := by omega
theorem fd_short {fd : List Int} (h : fd.length = 7) : (fd.length + 1) * 1 ≤ 140737488355328 := by omega
theorem size8 : (Try.prog.info? 5).map (·.size) = some 1 := by kernel_rfl
set_option maxHeartbeats 2000000 in
set_option maxRecDepth 100000 in
theorem sum_Seal.calls (A0 : Option Addr) (c0 : Nat) (l0 : List Int) (r1 : List Int) (r2 : Int) (w : World) (hr0 : Kd.C (Kd.int .u8) w A0 l0.length l0) (hc0 : l0.length ≤ c0) (h : sum_Seal.f l0 = some (r1, r2)) :
    Calls Try.prog 17 #[.slice A0 l0.length c0] w fun e w' => ∃ v0_ : Value, e = .returned (.tuple #[v0_, .int .i64 r2]) ∧ Kd.R (Kd.int .u8) 5 w' w.heap.size (fun _ => True) v0_ r1 ∧ Below w.heap.size w w' := by
  have HR := Aside0.mk hr0
  have HC := Aside0.mk hc0
  clear hr0 hc0
  by_cases hl : l0.length = 512
  · unfold sum_Seal.f at h
    rw [if_pos hl] at h
    by_cases hf : fair l0 = true
    · rw [if_pos hf] at h
      simp only [Option.some.injEq, Prod.mk.injEq] at h
      obtain ⟨rfl, rfl⟩ := h
      obtain ⟨k, hk⟩ := seal_field hf hl
      have HK := Aside0.mk hk
      have HP : Aside0 (sum_Plain.f l0 = some (total plainOne 0 l0)) := ⟨by unfold sum_Plain.f; rw [if_pos hf]⟩
      have HL := Aside0.mk hl
      have HF7 : Aside0 ((Pure.oct (total plainOne 0 l0) 6 ++ [0]).length = 7) := ⟨by simp [Pure.oct_length]⟩
      have HS : Aside0 (sealed l0 = l0.take 148 ++ ((Pure.oct (total plainOne 0 l0) 6 ++ [0]) ++ [32]) ++ l0.drop 156) := ⟨by simp [sealed]⟩
      have hlen : (l0.length : Int) = 512 := by omega
      have h512 : ((l0.length : Int) != 512) = false := by rw [hlen]; rfl
      obtain ⟨p, hp⟩ : ∃ p, p = total plainOne 0 l0 := ⟨_, rfl⟩
      rw [← hp] at HK HP HF7 HS
      obtain ⟨fd, hfd⟩ : ∃ fd, fd = Pure.oct p 6 ++ [0] := ⟨_, rfl⟩
      rw [← hfd] at HK HF7 HS
      have hu1 := Try.underlying22
      have hu2 := Try.underlying5
      clear hf hk hl hp hfd hlen
      go_enter Try.func17, Try.ntmps17
      go_wp2_with (first
        | ((with_reducible refine gate_dst (N := 10) rfl ?_); refine Kd.R_lit (Kd.int .u8) _ 5 ?hg (N := 10) ?hd (xs := ([] : List Int)) (inner := []) (ok := fun _ => True) (okp := fun _ => True) ?hr ?hp (fun _ hk => hk) trivial (Below.refl _ _) (Nat.le_refl _) (by simp) ?_; (case hd => rfl); (case hg => rfl); (case hr => first | (go_simp; done) | (go_simp; rfl)); (case hp => exact (Reps.none _ _)); intro v1 w1 ho1 hb1 hg_ hnew_; clear hg_ hnew_; have HO1 := Aside0.mk ho1; have HB1 := Aside0.mk hb1; clear ho1 hb1)
        | ((with_reducible refine gate_builtin (b := .append) (xs := #[.tmp 10, .tmp 11]) rfl ?_); at_builtin; refine Kd.R_append_rows (Kd.int .u8) (w0 := w) w.heap.size rfl (.tmp 10) (.tmp 11) 22 5 (.int .u8 0) 1 rfl Try.underlying22 info5 rfl (by decide) (by omega) v1 [] l0 _ _ _ (fun _ => True) (fun _ => False) rfl rfl HO1.out (Kd.C_below HR.out HB1.out) (fun _ _ h => h) (fun _ h => h.elim) (fun _ _ => trivial) HB1.out HB1.out.size (by have := HL.out; simp; omega) ?_; intro v2 w2 ho2 hb2 hg2 hat2; have HO2 := Aside0.mk ho2; have HB2 := Aside0.mk hb2; clear ho2 hb2 hg2 hat2 HO1 HB1)
        | (go_at_call 32; refine (sum_Plain.calls _ _ l0 p _ (Kd.C_below HR.out HB2.out) HC.out HP.out).mono ?_; rintro e w3 ⟨rfl, ⟨nd, rfl⟩⟩)
        | (go_at_call 28; refine (octal_Format.calls k p 7 fd 0 _ HK.out).mono ?_; rintro e w4 ⟨v4, rfl, ho4, hb4⟩; have HO4 := Aside0.mk ho4; have HB4 := Aside0.mk hb4; clear ho4 hb4))
      have hbase4 := Kd.R_base HO4.out
      have HOo := Aside0.mk (Kd.R_elder' (Kd.R_drewN HO2.out nd) hbase4 HB4.out)
      have HOf := Aside0.mk (Kd.R_lower (Kd.R_new' HO4.out (Kd.R_lt (Kd.R_drewN HO2.out nd))) (show w.heap.size ≤ (w2.drewN nd).heap.size from HB2.out.size))
      have HB5 := Aside0.mk (below_then (pw_below_drewN HB2.out nd) (show w.heap.size ≤ (w2.drewN nd).heap.size from HB2.out.size) HB4.out)
      clear hbase4 HO2 HO4 HB2 HB4
      rw [List.nil_append] at HOo
      obtain ⟨g, cap, hv2, _, _⟩ := (Kd.own_of_R HOo.out).form (by have := HL.out; omega)
      rw [HL.out] at hv2
      subst hv2
      have hcap : 512 ≤ cap := by have := (Kd.R_reads' HOo.out).2.1; have := HL.out; omega
      have hc1 : (156 : Int) ≤ (cap : Int) := by omega
      have hc2 : ¬ cap = 148 := by omega
      have hg : w.heap.size ≤ g := Kd.R_base HOo.out g (by simp [Value.ownBlock])
      have HG := Aside0.mk hg
      clear hcap hg
      obtain ⟨A4, c4, hv4⟩ := Kd.R_slice HOf.out
      rw [HF7.out] at hv4
      subst hv4
      have HK7 := HF7
      clear HF7
      go_region_law (first
        | (refine Kd.R_append_rows_step (Kd.int .u8) (w0 := w) w.heap.size ?hw (.tmp 24) (.tmp 25) 22 5 (.int .u8 0) 1 rfl Try.underlying22 info5 rfl (by decide) (by omega) (.slice A4 7 c4) fd [32] _ _ _ (fun k => some k ≠ (Value.slice (some ⟨g, 0, none⟩) 512 cap).ownBlock) (fun _ => False) rfl rfl ?aO ?aR (fun _ _ h => h) (fun _ h => h.elim) ?aF ?aB ?aS ?aL ?_; (case hw => simp [Region.wanted]); (case aR => exact lit32 _); (case aO => exact Kd.R_alloc (Kd.R_drew (Kd.R_mono HOf.out (fun _ hk => hk.2))) _); (case aF => exact Kd.fresh' (Kd.R_lt (Kd.R_alloc (Kd.R_drew HOo.out) _))); (case aB => exact below_alloc (below_drew HB5.out) _); (case aS => exact (below_alloc (below_drew HB5.out) _).size); (case aL => exact fd_short HK7.out); intro v5 w5 ho5 hb5 hg5 hat5; have HO6 := Aside0.mk (Kd.R_after (ok := fun _ => True) (Kd.R_alloc (Kd.R_drew HOo.out) _) hg5 hat5); have HO5 := Aside0.mk ho5; have HB6 := Aside0.mk hb5; clear ho5 hb5 hg5 hat5; obtain ⟨A5, c5, hv5⟩ := Kd.R_slice HO5.out; subst hv5)
        | (refine Copy.step_copyin_slice rfl (.tmp 23) (.tmp 26) 22 22 rfl (Kd.R_mono (ok' := fun _ => True) HO6.out (fun _ _ => trivial)) Try.underlying22 size8 _ _ _ 148 rfl (fun _ => rfl) (seal_fit HL.out) _ _ _ (fd ++ [32]) rfl (seal_reads (Kd.R_reads' HO5.out).2.2) ?_; intro w7 ho7 hg7; have HO7 := Aside0.mk ho7; have HB7 := Aside0.mk (pw_below_grown HB6.out _ HB6.out.size hg7 (fun k hk => by have hk2 : g = k := (by simpa using hk); rw [← hk2]; exact HG.out)); clear ho7 hg7))
      have hfin : l0.take 148 ++ (fd ++ [32]).take 8 ++ l0.drop (148 + ((fd ++ [32]).take 8).length) = sealed l0 := by
        have e : (fd ++ [32]).take 8 = fd ++ [32] := List.take_of_length_le (by rw [List.length_append, HK7.out]; simp)
        rw [HS.out, e, List.length_append, HK7.out]
        rfl
      rw [hfin] at HO7
      clear hfin
      go_wp2
      go_ret2
      exact ⟨_, rfl, HO7.out, HB7.out⟩
    · rw [if_neg hf] at h; cases h
  · unfold sum_Seal.f at h
    rw [if_neg hl] at h
    simp only [Option.some.injEq, Prod.mk.injEq] at h
    obtain ⟨rfl, rfl⟩ := h
    have h512 : ((l0.length : Int) != 512) = true := by rw [bne_iff_ne]; omega
    clear hl
    go_enter Try.func17, Try.ntmps17
    go_wp2
    go_ret2
    exact ⟨_, rfl, Kd.R_nil _ _ _ _ _, Below.refl _ _⟩
end Go.Proofs.Ytchldbhnohicoaa.XA
