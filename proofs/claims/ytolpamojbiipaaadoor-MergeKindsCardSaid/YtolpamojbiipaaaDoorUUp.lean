/- What path.Up answers: all ahead of the last slash. -/
import Derived.Test.YtolpamojbiipaaaDoorUClean
import Derived.Test.YtolpamojbiipaaaDoorUBytes
import Derived.Test.YtolpamojbiipaaaDoorXA4
namespace Go.Proofs.YtolpamojbiipaaaDoor.Pure
open Go.RowKit Go.Proofs.YtolpamojbiipaaaDoor.XA Go.Proofs.YtolpamojbiipaaaDoorW.PrintWords Go.Proofs.YtolpamojbiipaaaDoorW.PrintLast Go.Proofs.YtolpamojbiipaaaDoorW.PrintMore
set_option linter.unusedSimpArgs false
set_option linter.unusedVariables false

theorem last_down {l : List UInt8} (hl : l.length ≤ 1000000) {r : Int} (m : Nat) : ∀ (d i : Nat), i = m + d → i ≤ l.length → (∀ j, m ≤ j → j < i → l[j]? ≠ some 47) →
    Ev (fun k => bytealg_LastIndexByteString.l0 k (mkS l) 47 ((m : Int) - 1)) r → Ev (fun k => bytealg_LastIndexByteString.l0 k (mkS l) 47 ((i : Int) - 1)) r
  | 0, i, e, _, _, h => by rw [e]; exact h
  | d + 1, i, e, hi, hn, h => by
    obtain ⟨i, rfl⟩ : ∃ q, i = q + 1 := ⟨i - 1, by omega⟩
    have ih := last_down hl m d i (by omega) (by omega) (fun j h1 h2 => hn j h1 (by omega)) h
    have hlt : i < l.length := by omega
    have hd := List.drop_eq_getElem_cons hlt
    have hne : ¬ l[i] = 47 := fun e => hn i (by omega) (by omega) (by rw [List.getElem?_eq_getElem hlt, e])
    refine Ev.step (fun k => by rw [bytealg_LastIndexByteString.l0]) ?_
    rw [show (((i + 1 : Nat) : Int) - 1) = (i : Int) by omega]
    simp only [ge_iff_le, show (0 : Int) ≤ (i : Int) by omega, if_true, mk_size, show (i : Int) < (l.length : Int) by omega, bt_mk hd, is47, hne, if_false]
    rw [w64 (by omega) (by omega)]
    exact ih
theorem last_none {l : List UInt8} (hl : l.length ≤ 1000000) (h : (47 : UInt8) ∉ l) : Ev (fun k => strings_LastIndexByte.f k (mkS l) 47) (-1) := by
  unfold strings_LastIndexByte.f bytealg_LastIndexByteString.f
  refine ev_bind (a := -1) ?_ (ev_some _)
  rw [mk_size, w64 (by omega) (by omega)]
  refine last_down hl 0 l.length l.length (by omega) (Nat.le_refl _) (fun j _ _ e => h (List.mem_of_getElem? e)) ?_
  refine Ev.step (fun k => by rw [bytealg_LastIndexByteString.l0]) ?_
  simp only [show ¬ (((0 : Nat) : Int) - 1 ≥ 0) by omega, if_false]
  exact ev_some _
theorem last_some {a b : List UInt8} (hl : (a ++ 47 :: b).length ≤ 1000000) (h : (47 : UInt8) ∉ b) : Ev (fun k => strings_LastIndexByte.f k (mkS (a ++ 47 :: b)) 47) (a.length : Int) := by
  have hll : (a ++ 47 :: b).length = a.length + 1 + b.length := by simp; omega
  unfold strings_LastIndexByte.f bytealg_LastIndexByteString.f
  refine ev_bind (a := (a.length : Int)) ?_ (ev_some _)
  rw [mk_size, w64 (by omega) (by omega)]
  refine last_down hl (a.length + 1) b.length _ (by omega) (Nat.le_refl _) (fun j h1 h2 e => ?_) ?_
  · rw [List.getElem?_append_right (by omega), show j - a.length = (j - a.length - 1) + 1 by omega, List.getElem?_cons_succ] at e
    exact h (List.mem_of_getElem? e)
  · have hd : (a ++ 47 :: b).drop a.length = 47 :: b := by simp
    refine Ev.step (fun k => by rw [bytealg_LastIndexByteString.l0]) ?_
    rw [show (((a.length + 1 : Nat) : Int) - 1) = (a.length : Int) by omega]
    simp only [ge_iff_le, show (0 : Int) ≤ (a.length : Int) by omega, if_true, mk_size, show (a.length : Int) < ((a ++ 47 :: b).length : Int) by omega, bt_mk hd, is47]
    exact ev_some _
theorem mk_nil : (⟨#[]⟩ : ByteArray) = mkS [] := rfl

/-- All ahead of the last slash. -/
def upS (s : List UInt8) : List UInt8 := ((s.reverse.dropWhile (fun b => b != 47)).drop 1).reverse
theorem dw_all : ∀ (b r : List UInt8), (47 : UInt8) ∉ b → (b ++ r).dropWhile (fun x => x != 47) = r.dropWhile (fun x => x != 47)
  | [], r, _ => rfl
  | x :: b, r, h => by
    rw [List.cons_append, List.dropWhile_cons, if_pos (by simp at h ⊢; exact fun e => h.1 e.symm)]
    exact dw_all b r (fun hm => h (List.mem_cons_of_mem _ hm))
theorem upS_some {a b : List UInt8} (h : (47 : UInt8) ∉ b) : upS (a ++ 47 :: b) = a := by
  unfold upS
  rw [List.reverse_append, List.reverse_cons, List.append_assoc, dw_all _ _ (by simpa using h)]
  simp [List.dropWhile_cons]
theorem upS_none {s : List UInt8} (h : (47 : UInt8) ∉ s) : upS s = [] := by
  unfold upS
  have := dw_all s.reverse [] (by simpa using h)
  rw [List.append_nil] at this
  rw [this]
  rfl
theorem slash_split : ∀ {s : List UInt8}, (47 : UInt8) ∈ s → ∃ a b, s = a ++ 47 :: b ∧ (47 : UInt8) ∉ b
  | x :: t, h => by
    by_cases ht : (47 : UInt8) ∈ t
    · obtain ⟨a, b, e, hb⟩ := slash_split ht
      exact ⟨x :: a, b, by rw [e, List.cons_append], hb⟩
    · have hx : x = 47 := by
        rcases List.mem_cons.1 h with h | h
        · exact h.symm
        · exact absurd h ht
      exact ⟨[], t, by rw [hx]; rfl, ht⟩
theorem upS_lt {s : List UInt8} (h : upS s ≠ []) : (upS s).length < s.length := by
  by_cases hs : (47 : UInt8) ∈ s
  · obtain ⟨a, b, rfl, hb⟩ := slash_split hs
    rw [upS_some hb]; simp
  · exact absurd (upS_none hs) h
theorem up_evS (s : List UInt8) (hl : s.length ≤ 1000000) : Ev (fun k => path_Up.f k (mkS s)) (mkS (upS s), decide (s ≠ [])) := by
  unfold path_Up.f
  simp only [mk_toList]
  by_cases h0 : s = []
  · subst h0
    simp only [if_true]
    exact ev_some _
  simp only [if_neg h0]
  rw [show decide (s ≠ []) = true by simp [h0]]
  by_cases hs : (47 : UInt8) ∈ s
  · obtain ⟨a, b, rfl, hb⟩ := slash_split hs
    rw [upS_some hb]
    refine ev_bind (last_some hl hb) ?_
    simp only [show ¬ ((a.length : Int) < 0) by omega, if_false, show (0 : Int) ≤ (a.length : Int) by omega, if_true, mk_size, show (a.length : Int) ≤ ((a ++ 47 :: b).length : Int) by simp; omega]
    refine ev_eq (ev_some _) ?_
    congr 1
    apply bl_inj
    simp [bl, Lib.extract_from_zero, mkS_data]
  · rw [upS_none hs]
    refine ev_bind (last_none hl hs) ?_
    simp only [show (-1 : Int) < 0 by omega, if_true]
    exact ev_some _
end Go.Proofs.YtolpamojbiipaaaDoor.Pure
