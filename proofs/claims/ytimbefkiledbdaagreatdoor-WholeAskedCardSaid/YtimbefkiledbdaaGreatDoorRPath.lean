/- path.Clean, path.Join over Mem; ask.Encode in one form. Printed by wip/tools/gen_ask4.py. -/
import Derived.Test.YtimbefkiledbdaaGreatDoorRAsk3
import Derived.Test.YtimbefkiledbdaaGreatDoorRCode2
import Derived.Test.YtimbefkiledbdaaGreatDoorUClean
import Derived.Test.YtimbefkiledbdaaGreatDoorXA1
import Derived.Test.YtimbefkiledbdaaGreatDoorXA2
namespace Go.Proofs.YtimbefkiledbdaaGreatDoor.R
open Go.RowKit Go.Proofs.YtimbefkiledbdaaGreatDoorW.PrintWords Go.Proofs.YtimbefkiledbdaaGreatDoorW.PrintLast Go.Proofs.YtimbefkiledbdaaGreatDoorW.PrintMore Go.Proofs.YtimbefkiledbdaaGreatDoor.Mem Go.Proofs.YtimbefkiledbdaaGreatDoor.Pure Go.Proofs.YtimbefkiledbdaaGreatDoor.XA
set_option linter.unusedVariables false
set_option linter.unusedSimpArgs false

theorem clean_t (s : ByteArray) : ∃ (ts : List ByteArray) (f : Int), (f = 0 → ∃ q : ByteArray, q.size ≤ 4000 ∧ path_Join.f ts = some q) ∧ (f ≠ 0 → ts = []) ∧
    ∀ {w0 W : World} {P : Nat → Prop} {B : List Bx} {S : World → Prop}, GG w0 → Mem w0 P W B S →
      Calls Tryz.prog 8 #[.string s] W fun e w' => ∃ A c, e = .returned (.tuple #[.slice A ts.length c, .int .i64 f]) ∧ ts.length ≤ c ∧ Mem w0 P w' B (fun w => S w ∧ Kd.C Kd.string w A ts.length ts) := by
  refine ⟨(cleanS s.data.toList).1.map mkS, (cleanS s.data.toList).2, fun h => ?_, fun h => ?_, ?_⟩
  · obtain ⟨e, _, h1, h2⟩ := clean_good h
    have h3 : (names s.data.toList).length ≤ s.data.toList.length + 1 := Nat.le_trans (List.length_filter_le _ _) (cut_len _)
    rw [← e] at h3
    refine ⟨mkS (joinS (cleanS s.data.toList).1), ?_, join_f (by omega) (by rw [e]; omega)⟩
    rw [e]
    show (⟨(joinS (names s.data.toList)).toArray⟩ : ByteArray).size ≤ 4000
    rw [size_mk]
    omega
  · rw [clean_bad h]; rfl
  · intro w0 W P B S HG HM
    obtain ⟨k, hk⟩ := clean_ev s
    refine (path_Clean.calls k s _ _ W (hk k (Nat.le_refl _)) ⟨(HG.below HM.below).u8⟩).mono ?_
    rintro e w' ⟨v0, rfl, hR, hb⟩
    obtain ⟨A, c, rfl⟩ := Kd.R_slice hR
    have hr := Kd.R_reads' hR
    simp only [encP, List.length_map] at hr ⊢
    refine ⟨A, c, rfl, by have := hr.2.1; simpa using this, HM.add hb (fun W' h => ?_)⟩
    have hf := Kd.R_F (Kd.R_mono (ok' := fun k => W.heap.size ≤ k) (Kd.R_bound hR) (fun k hk => hk.2.1))
    have := hf W' (fun k hp hk => h k hk (.inr hp))
    simp only [encP, List.length_map] at this
    exact this
theorem join_m {w0 W : World} {P : Nat → Prop} {B : List Bx} {S : World → Prop} {A : Option Addr} {c : Nat} {ts : List ByteArray} {q : ByteArray} (HM : Mem w0 P W B (fun v => S v ∧ Kd.C Kd.string v A ts.length ts)) (hc : ts.length ≤ c) (h : path_Join.f ts = some q) :
    Calls Tryz.prog 12 #[.slice A ts.length c] W fun e w' => e = .returned (.string q) ∧ Mem w0 P w' B (fun v => S v ∧ Kd.C Kd.string v A ts.length ts) :=
  (path_Join.calls A c ts q W HM.now.2 hc h).mono (by rintro e w' ⟨rfl, hb⟩; exact ⟨rfl, HM.call hb⟩)
theorem join3 (n : Nat) (p : ByteArray) (h : p.data.toList ≠ []) : Lib.join ([⟨#[115, 116, 97, 116]⟩, ⟨(Lib.decDigits n).toArray⟩, p].map (fun b : ByteArray => b.data.toList)) [32] = lineB n p := by
  unfold lineB restB tailB
  rw [if_neg h]
  simp [Lib.join, List.intercalate]
theorem join2 (n : Nat) : Lib.join ([⟨#[115, 116, 97, 116]⟩, ⟨(Lib.decDigits n).toArray⟩].map (fun b : ByteArray => b.data.toList)) [32] = lineB n ⟨#[]⟩ := by
  unfold lineB restB tailB
  rw [if_pos rfl]
  simp [Lib.join, List.intercalate]
theorem line_len (n : Nat) (p : ByteArray) (hn : n ≤ 1048576) (hp : p.size ≤ 5000) : (lineB n p).length ≤ 6000 := by
  have h1 := dd7 hn
  have h2 := tailB_len p
  unfold lineB restB
  simp only [List.length_append, List.length_cons, List.length_nil]
  omega
theorem encode_c (n : Nat) (p : ByteArray) (hn : n ≤ 1048576) (hp : p.size ≤ 5000) (w : World) (hG : GG w) :
    Calls Tryz.prog 7 #[.agg #[.int .i64 6, .int .i64 (n : Int), .int .i64 0, .int .i64 0, .string p, .slice none 0 0]] w fun e w' => e = .returned (.string ⟨(lineB n p).toArray⟩) ∧ Below w.heap.size w w' := by
  have hl := line_len n p hn hp
  have hI : ∀ W, GG W → Calls Tryz.prog 17 #[.int .i64 (n : Int)] W fun e w' => e = .returned (.string ⟨(Lib.decDigits n).toArray⟩) ∧ Below W.heap.size W w' := fun W hG =>
    (itoa_c (n : Int) (by omega) (by omega) W hG).mono (by rintro e w' ⟨rfl, hb⟩; exact ⟨by rw [Lib.itoa_nonneg], hb⟩)
  by_cases h : p.data.toList = []
  · obtain rfl : p = ⟨#[]⟩ := by rw [← ba_eq p, h]
    refine encode_e n ⟨#[]⟩ _ _ w hG hI ?_
    unfold strings_Join.f
    rw [show (⟨#[32]⟩ : ByteArray).data.toList = [32] from rfl, join2, if_pos ⟨by simp, by omega⟩]
    rfl
  · refine encode_w n p _ _ ?_ w hG hI ?_
    · have e : p.toList = p.data.toList := toList_data p
      rw [e]
      cases hh : p.data.toList with
      | nil => exact absurd hh h
      | cons _ _ => rfl
    · unfold strings_Join.f
      rw [show (⟨#[32]⟩ : ByteArray).data.toList = [32] from rfl, join3 n p h, if_pos ⟨by simp, by omega⟩]
      rfl
end Go.Proofs.YtimbefkiledbdaaGreatDoor.R
