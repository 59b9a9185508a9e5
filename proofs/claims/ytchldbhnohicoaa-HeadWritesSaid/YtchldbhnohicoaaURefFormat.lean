/- Layer 2: the document's Format comes to the same as the program's, in plain words. -/
import Derived.Test.YtchldbhnohicoaaUFormat
import Derived.Test.YtchldbhnohicoaaXA12
namespace Go.Proofs.Ytchldbhnohicoaa.Pure
open Go.RowKit Go.Proofs.Ytchldbhnohicoaa.XA Go.Proofs.YtchldbhnohicoaaW.PrintWords Go.Proofs.YtchldbhnohicoaaW.PrintLast Go.Proofs.YtchldbhnohicoaaW.PrintMore
set_option linter.unusedSimpArgs false

theorem oct_pad : ∀ (m : Nat) (n : Int), 0 ≤ n → n < 8 ^ m → oct n (m + 1) = 48 :: oct n m
  | 0, n, h0, h => by
    have e : (8 : Int) ^ 0 = 1 := by decide
    have : n = 0 := by omega
    subst this
    rfl
  | m + 1, n, h0, h => by
    have e : (8 : Int) ^ (m + 1) = 8 ^ m * 8 := Int.pow_succ ..
    rw [oct, oct_pad m (n / 8) (by omega) (by omega)]
    rfl
theorem ref_octal_l0 : ∀ (d : Nat) (n : Int) (s : ByteArray), 0 ≤ n → n ≤ 9223372036854775807 → digs n = d + 1 → s.size + d ≤ 1000 →
    ∃ t, Ev (fun k => pannierref02_Octal.l0 k n s) t ∧ bl t = oct n (d + 1) ++ bl s
  | 0, n, s, h0, h1, hd, hs => by
    have hn : ¬ n > 7 := by
      intro h
      rw [digs_big (by omega)] at hd
      have := digs_pos (n / 8)
      omega
    refine ⟨strOfNums [48 + n] ++ s, Ev.step (fun k => by rw [pannierref02_Octal.l0]) ?_, ?_⟩
    · simp only [hn, if_false, Option.bind_some, w64 (x := 48 + n) (by omega) (by omega), show (48 + n) % 256 = 48 + n by omega, strOfNums_size, List.length_singleton, show 1 + s.size ≤ 9223372036854775807 by omega, if_true]
      exact ev_some _
    · rw [bl_append, bl_strOfNums (by intro x hx; simp at hx; omega)]
      simp [oct]
      omega
  | d + 1, n, s, h0, h1, hd, hs => by
    have hn : n > 7 := by
      rcases Int.lt_or_le n 8 with h | h
      · rw [digs_small h] at hd; omega
      · omega
    obtain ⟨t, ht, hb⟩ := ref_octal_l0 d (n / 8) (strOfNums [48 + n % 8] ++ s) (by omega) (by omega) (by rw [digs_big (by omega)] at hd; omega) (by rw [ByteArray.size_append, strOfNums_size]; simp; omega)
    refine ⟨t, Ev.step (fun k => by rw [pannierref02_Octal.l0]) ?_, ?_⟩
    · simp only [hn, if_true, Option.bind_some, Int.tdiv_eq_ediv_of_nonneg h0, Int.tmod_eq_emod_of_nonneg h0, w64 (x := 48 + n % 8) (by omega) (by omega), show (48 + n % 8) % 256 = 48 + n % 8 by omega, w64 (x := n / 8) (by omega) (by omega), strOfNums_size, List.length_singleton, show 1 + s.size ≤ 9223372036854775807 by omega]
      exact ht
    · rw [hb, bl_append, bl_strOfNums (by intro x hx; simp at hx; omega)]
      simp [oct]
theorem ref_octal_ev {n : Int} (h0 : 0 ≤ n) (h1 : n ≤ 9223372036854775807) : ∃ t, Ev (fun k => pannierref02_Octal.f k n) t ∧ bl t = oct n (digs n) := by
  have hp := digs_pos n
  have hb := digs_le21 h0 (by omega)
  obtain ⟨t, ht, e⟩ := ref_octal_l0 (digs n - 1) n ⟨#[]⟩ h0 h1 (by omega) (by show 0 + _ ≤ _; omega)
  refine ⟨t, by unfold pannierref02_Octal.f; exact ht, ?_⟩
  rw [e, show digs n - 1 + 1 = digs n by omega]
  simp [bl]

theorem ref_format_l0 {n w : Int} (h0 : 0 ≤ n) (hw0 : 2 ≤ w) (hw : w ≤ 24) : ∀ (d j : Nat) (s : ByteArray), bl s = oct n j → digs n ≤ j → (j : Int) + d = w - 1 →
    ∃ t, Ev (fun k => pannierref02_Format.l0 k w s) (t, 0) ∧ bl t = oct n (w.toNat - 1) ++ [0]
  | 0, j, s, hs, hj, hd => by
    have hsz : s.size = j := by rw [← bl_length, hs, oct_length]
    refine ⟨s ++ ⟨#[0]⟩, Ev.step (fun k => by rw [pannierref02_Format.l0]) ?_, ?_⟩
    · simp only [w64 (x := w - 1) (by omega) (by omega), show ¬ ((s.size : Int) < w - 1) by omega, if_false, show s.size + 1 ≤ 9223372036854775807 by omega, if_true]
      exact ev_some _
    · rw [bl_append, hs, show w.toNat - 1 = j by omega]
      rfl
  | d + 1, j, s, hs, hj, hd => by
    have hsz : s.size = j := by rw [← bl_length, hs, oct_length]
    have hdp := digs_pos n
    have hn : n < 8 ^ j := by
      have := (digs_le (j - 1) n h0).1 (by omega)
      rwa [show j - 1 + 1 = j by omega] at this
    obtain ⟨t, ht, hb⟩ := ref_format_l0 h0 hw0 hw d (j + 1) (⟨#[48]⟩ ++ s) (by rw [bl_append, hs, oct_pad j n h0 hn]; rfl) (by omega) (by omega)
    refine ⟨t, Ev.step (fun k => by rw [pannierref02_Format.l0]) ?_, hb⟩
    simp only [w64 (x := w - 1) (by omega) (by omega), show ((s.size : Int) < w - 1) by omega, if_true, show 1 + s.size ≤ 9223372036854775807 by omega]
    exact ht

theorem refformat_ev {n w : Int} (h : -9223372036854775808 ≤ n) (h1 : n ≤ 9223372036854775807) : ∃ t, Ev (fun k => pannierref02_Format.f k n w) (t, (fmt n w).2) ∧ bl t = (fmt n w).1 := by
  by_cases hw : w < 2 ∨ 24 < w
  · have hf : fmt n w = ([], 1) := by rw [fmt, if_pos hw]
    rw [hf]
    refine ⟨⟨#[]⟩, ?_, rfl⟩
    have bad : Ev (fun r => pannierref02_Format.j0 r n w true) ((⟨#[]⟩ : ByteArray), 1) := by
      refine Ev.step (fun r => by rw [pannierref02_Format.j0]) ?_
      simp only [if_true]
      exact ev_some _
    unfold pannierref02_Format.f
    by_cases h2 : w < 2
    · simp only [h2, if_true]
      exact bad
    · simp only [h2, if_false, show w > 24 by omega, decide_true]
      exact bad
  · have step : ∀ {r : ByteArray × Int}, Ev (fun k => if n < 0 then some ((⟨#[]⟩ : ByteArray), 20) else ((pannierref02_Octal.f k n).bind fun t => (if (t.size : Int) > (wrap64 (w - 1)) then (some ((⟨#[]⟩ : ByteArray), 20)) else (pannierref02_Format.l0 k w t)))) r → Ev (fun k => pannierref02_Format.f k n w) r := by
      intro r e
      unfold pannierref02_Format.f
      simp only [show ¬ w < 2 by omega, if_false, show ¬ w > 24 by omega, decide_false]
      refine Ev.step (fun k => by rw [pannierref02_Format.j0]) ?_
      simp only [Bool.false_eq_true, if_false]
      exact e
    by_cases hf : fits n w = true
    · have h0 : 0 ≤ n := by simp [fits] at hf; omega
      have hfit : (digs n : Int) < w := by simp [fits] at hf; omega
      have hm : fmt n w = (oct n (w.toNat - 1) ++ [0], 0) := by rw [fmt, if_neg hw, if_pos hf]
      rw [hm]
      obtain ⟨s, hs, hb⟩ := ref_octal_ev h0 h1
      have hsz : s.size = digs n := by rw [← bl_length, hb, oct_length]
      obtain ⟨t, ht, htb⟩ := ref_format_l0 (w := w) h0 (by omega) (by omega) (w.toNat - 1 - digs n) (digs n) s hb (Nat.le_refl _) (by omega)
      refine ⟨t, step ?_, htb⟩
      simp only [show ¬ n < 0 by omega, if_false]
      refine ev_bind hs ?_
      simp only [w64 (x := w - 1) (by omega) (by omega), show ¬ ((s.size : Int) > w - 1) by omega, if_false]
      exact ht
    · have hm : fmt n w = ([], 20) := by rw [fmt, if_neg hw, if_neg hf]
      rw [hm]
      refine ⟨⟨#[]⟩, step ?_, rfl⟩
      by_cases h0 : n < 0
      · simp only [h0, if_true]
        exact ev_some _
      · simp only [h0, if_false]
        obtain ⟨s, hs, hb⟩ := ref_octal_ev (n := n) (by omega) h1
        have hsz : s.size = digs n := by rw [← bl_length, hb, oct_length]
        refine ev_bind hs ?_
        have hg : ¬ (digs n : Int) < w := by
          intro hh
          apply hf
          simp only [fits, decide_eq_true_eq]
          omega
        simp only [w64 (x := w - 1) (by omega) (by omega), show ((s.size : Int) > w - 1) by omega, if_true]
        exact ev_some _
end Go.Proofs.Ytchldbhnohicoaa.Pure
