/- What path.Clean, Join, Parts answer: closed forms over lists of bytes. -/
import Derived.Test.YtimbefkiledbdaaGreatDoorUBase
import Derived.Test.YtimbefkiledbdaaGreatDoorUCut
import Derived.Test.YtimbefkiledbdaaGreatDoorXA1
import Derived.Test.YtimbefkiledbdaaGreatDoorXA2
namespace Go.Proofs.YtimbefkiledbdaaGreatDoor.Pure
open Go.RowKit Go.Proofs.YtimbefkiledbdaaGreatDoor.XA Go.Proofs.YtimbefkiledbdaaGreatDoorW.PrintWords Go.Proofs.YtimbefkiledbdaaGreatDoorW.PrintLast Go.Proofs.YtimbefkiledbdaaGreatDoorW.PrintMore
set_option linter.unusedSimpArgs false
set_option linter.unusedVariables false

theorem mk_toList (l : List UInt8) : (mkS l).toList = l := by rw [toList_data, mkS_data]
theorem mk_size (l : List UInt8) : (mkS l).size = l.length := by
  show (mkS l).data.size = l.length
  rw [← Array.length_toList, mkS_data]
theorem mk_inj {a b : List UInt8} (h : mkS a = mkS b) : a = b := by rw [← mkS_data a, h, mkS_data]
theorem size_dl (s : ByteArray) : s.size = s.data.toList.length := by simp
theorem rd_map {ps r : List (List UInt8)} {p : List UInt8} {i : Nat} (h : ps.drop i = p :: r) : rdOf ByteArray.empty (ps.map mkS) (i : Int) = mkS p := by
  have : ps[i]? = some p := by
    have h2 : (ps.drop i)[0]? = some p := by rw [h]; rfl
    simpa [List.getElem?_drop] using h2
  unfold rdOf
  rw [List.getD_eq_getElem?_getD, Int.toNat_natCast, List.getElem?_map, this]
  rfl
theorem map_data (ps : List (List UInt8)) : (ps.map mkS).map (·.data.toList) = ps := by
  rw [List.map_map]
  conv => rhs; rw [← List.map_id ps]
  exact List.map_congr_left fun p _ => mkS_data p

/-- Which parts are kept. -/
def keep (p : List UInt8) : Bool := !(p == [] || p == [46])
/-- A text's parts, the empty ones and the dots left out. -/
def names (l : List UInt8) : List (List UInt8) := (cutS l).filter keep
/-- The first part that may not be: its error's number; or 0. -/
def bad : List (List UInt8) → Int
  | [] => 0
  | p :: r => if p = [46, 46] then 104 else if 255 < p.length then 2 else bad r
def scan : List (List UInt8) → List (List UInt8) → List (List UInt8) × Int
  | acc, [] => (acc, 0)
  | acc, p :: r => if p = [] then scan acc r else if p = [46] then scan acc r else if p = [46, 46] then ([], 104) else if 255 < p.length then ([], 2) else scan (acc ++ [p]) r
def encP (r : List (List UInt8) × Int) : List ByteArray × Int := (r.1.map mkS, r.2)
/-- path.Clean. -/
def cleanS (l : List UInt8) : List (List UInt8) × Int :=
  if sound l = 0 then (if bad (names l) = 0 then (names l, 0) else ([], bad (names l))) else ([], sound l)

theorem keep_cons {p : List UInt8} {r : List (List UInt8)} : (p :: r).filter keep = if p = [] then r.filter keep else if p = [46] then r.filter keep else p :: r.filter keep := by
  by_cases h1 : p = []
  · subst h1; rfl
  · by_cases h2 : p = [46]
    · subst h2; rfl
    · rw [if_neg h1, if_neg h2, List.filter_cons_of_pos (by simp [keep, h1, h2])]
theorem scan_eq : ∀ (ps acc : List (List UInt8)), scan acc ps = if bad (ps.filter keep) = 0 then (acc ++ ps.filter keep, 0) else ([], bad (ps.filter keep))
  | [], acc => by simp [scan, bad]
  | p :: r, acc => by
    rw [scan, keep_cons]
    by_cases h1 : p = []
    · rw [if_pos h1, if_pos h1]; exact scan_eq r acc
    rw [if_neg h1, if_neg h1]
    by_cases h2 : p = [46]
    · rw [if_pos h2, if_pos h2]; exact scan_eq r acc
    rw [if_neg h2, if_neg h2, bad]
    by_cases h3 : p = [46, 46]
    · rw [if_pos h3, if_pos h3]; rfl
    rw [if_neg h3, if_neg h3]
    by_cases h4 : 255 < p.length
    · rw [if_pos h4, if_pos h4]; rfl
    rw [if_neg h4, if_neg h4, scan_eq r (acc ++ [p])]
    simp

theorem clean_l0 {ps : List (List UInt8)} (hps : ps.length ≤ 1000001) : ∀ (rest : List (List UInt8)) (i : Nat) (acc : List (List UInt8)), ps.drop i = rest → acc.length ≤ i →
    Ev (fun k => path_Clean.l0 k (acc.map mkS) (ps.map mkS) (ps.length : Int) (i : Int)) (encP (scan acc rest))
  | [], i, acc, h, ha => by
    have := drop_ge h
    refine Ev.step (fun k => by rw [path_Clean.l0]) ?_
    simp only [show ¬ ((i : Int) < (ps.length : Int)) by omega, if_false]
    exact ev_some _
  | p :: r, i, acc, h, ha => by
    have hlt := drop_lt h
    have go := fun (acc' : List (List UInt8)) (h' : acc'.length ≤ i + 1) => clean_l0 hps r (i + 1) acc' (drop_next h) h'
    refine Ev.step (fun k => by rw [path_Clean.l0]) ?_
    simp only [List.length_map, show (i : Int) < (ps.length : Int) by omega, show (0 : Int) ≤ (i : Int) by omega, if_true, rd_map h, mk_toList]
    rw [scan]
    by_cases h1 : p = []
    · simp only [if_pos h1]
      refine Ev.step (fun k => by rw [path_Clean.j1]) ?_
      simp only [h1, beq_self_eq_true, if_true, wnext (i := i) (by omega)]
      exact go acc (by omega)
    simp only [if_neg h1]
    refine Ev.step (fun k => by rw [path_Clean.j1]) ?_
    by_cases h2 : p = [46]
    · simp only [h2, beq_self_eq_true, if_true, wnext (i := i) (by omega)]
      exact go acc (by omega)
    simp only [beq_eq_false_iff_ne.2 h2, Bool.false_eq_true, if_false, if_neg h2, mk_toList, mk_size]
    by_cases h3 : p = [46, 46]
    · simp only [if_pos h3]
      exact ev_some _
    simp only [if_neg h3]
    by_cases h4 : 255 < p.length
    · simp only [show (p.length : Int) > 255 by omega, if_true, if_pos h4]
      exact ev_some _
    simp only [show ¬ ((p.length : Int) > 255) by omega, if_false, if_neg h4, List.length_map, show acc.length < 8796093022208 by omega, if_true, wnext (i := i) (by omega)]
    have := go (acc ++ [p]) (by simp; omega)
    simpa using this

theorem sound_le {l : List UInt8} (h : sound l = 0) : l ≠ [] ∧ l.length ≤ 4000 ∧ (0 : UInt8) ∉ l ∧ Lib.validD l = true ∧ l.getD 0 0 ≠ 47 := by
  unfold sound at h
  by_cases h1 : l = []
  · rw [if_pos h1] at h; omega
  rw [if_neg h1] at h
  by_cases h2 : 4000 < l.length
  · rw [if_pos h2] at h; omega
  rw [if_neg h2] at h
  by_cases h3 : (0 : UInt8) ∈ l
  · rw [if_pos h3] at h; omega
  rw [if_neg h3] at h
  by_cases h4 : Lib.validD l = false
  · rw [if_pos h4] at h; omega
  rw [if_neg h4] at h
  by_cases h5 : l.getD 0 0 = 47
  · rw [if_pos h5] at h; omega
  exact ⟨h1, by omega, h3, by simpa using h4, h5⟩
theorem sound_mk {l : List UInt8} (h1 : l ≠ []) (h2 : l.length ≤ 4000) (h3 : (0 : UInt8) ∉ l) (h4 : Lib.validD l = true) (h5 : l.getD 0 0 ≠ 47) : sound l = 0 := by
  unfold sound
  rw [if_neg h1, if_neg (by omega), if_neg h3, if_neg (by simp [h4]), if_neg h5]
theorem cut_len (l : List UInt8) : (cutS l).length ≤ l.length + 1 := by
  rw [cutS_length]
  have := List.count_le_length (a := (47 : UInt8)) (l := l)
  omega
theorem split_f {s : ByteArray} (h : s.size ≤ 1000000) : strings_Split.f s (⟨#[47]⟩ : ByteArray) = some ((cutS s.data.toList).map mkS) := by
  unfold strings_Split.f
  rw [if_pos ⟨rfl, h⟩]
theorem clean_ev (s : ByteArray) : Ev (fun k => path_Clean.f k s) (encP (cleanS s.data.toList)) := by
  unfold path_Clean.f path_Sound.f cleanS
  simp only [Option.bind_some]
  by_cases h : sound s.data.toList = 0
  · have hl := (sound_le h).2.1
    have hsz := size_dl s
    have hc := cut_len s.data.toList
    simp only [h, if_true, split_f (s := s) (by omega), Option.bind_some, List.length_map]
    have := clean_l0 (ps := cutS s.data.toList) (by omega) (cutS s.data.toList) 0 [] rfl (Nat.zero_le _)
    rw [scan_eq, List.nil_append] at this
    exact this
  · simp only [h, if_false]
    exact ev_some _

/-! ### path.Join, path.Parts -/
theorem join_is (ps : List (List UInt8)) : Lib.join ps [47] = joinS ps := by
  induction ps with
  | nil => rfl
  | cons p r ih =>
    cases r with
    | nil => rw [Lib.join_one]; rfl
    | cons q r =>
      rw [joinS, ← ih]
      simp [Lib.join, List.intercalate]
theorem join_f {ps : List (List UInt8)} (h1 : ps.length ≤ 140737488355328) (h2 : (joinS ps).length ≤ 140737488355328) : path_Join.f (ps.map mkS) = some (mkS (joinS ps)) := by
  unfold path_Join.f strings_Join.f
  rw [map_data, show (⟨#[47]⟩ : ByteArray).data.toList = [47] from rfl, join_is, List.length_map, if_pos ⟨h1, h2⟩]
  rfl
def partsS (l : List UInt8) : List (List UInt8) := if l = [] then [] else cutS l
/-! ### clean parts -/
structure Good (p : List UInt8) : Prop where
  ne : p ≠ []
  dot : p ≠ [46]
  dots : p ≠ [46, 46]
  len : p.length ≤ 255
  slash : (47 : UInt8) ∉ p
  nul : (0 : UInt8) ∉ p
  valid : Lib.validD p = true
theorem bad_ok : ∀ {ps : List (List UInt8)}, bad ps = 0 → ∀ p ∈ ps, p ≠ [46, 46] ∧ p.length ≤ 255
  | [], _, p, hp => by cases hp
  | q :: r, h, p, hp => by
    rw [bad] at h
    by_cases h1 : q = [46, 46]
    · rw [if_pos h1] at h; omega
    rw [if_neg h1] at h
    by_cases h2 : 255 < q.length
    · rw [if_pos h2] at h; omega
    rw [if_neg h2] at h
    rcases List.mem_cons.1 hp with rfl | hp
    · exact ⟨h1, by omega⟩
    · exact bad_ok h p hp
theorem bad_good : ∀ {ps : List (List UInt8)}, (∀ p ∈ ps, Good p) → bad ps = 0
  | [], _ => rfl
  | p :: r, h => by
    have hp := h p (List.mem_cons_self ..)
    rw [bad, if_neg hp.dots, if_neg (by have := hp.len; omega)]
    exact bad_good fun q hq => h q (List.mem_cons_of_mem _ hq)
theorem mem_names {l p : List UInt8} (h : p ∈ names l) : p ∈ cutS l ∧ p ≠ [] ∧ p ≠ [46] := by
  obtain ⟨h1, h2⟩ := List.mem_filter.1 h
  simp only [keep, Bool.not_eq_true', Bool.or_eq_false_iff, beq_eq_false_iff_ne] at h2
  exact ⟨h1, h2.1, h2.2⟩
/-- What a clean text's parts are. -/
theorem clean_good {l : List UInt8} (h : (cleanS l).2 = 0) : (cleanS l).1 = names l ∧ (∀ p ∈ names l, Good p) ∧ (joinS (names l)).length ≤ l.length ∧ l.length ≤ 4000 := by
  unfold cleanS at h ⊢
  by_cases h1 : sound l = 0
  · rw [if_pos h1] at h ⊢
    by_cases h2 : bad (names l) = 0
    · rw [if_pos h2]
      obtain ⟨s1, s2, s3, s4, s5⟩ := sound_le h1
      refine ⟨rfl, fun p hp => ?_, joinS_filter keep l, s2⟩
      obtain ⟨m1, m2, m3⟩ := mem_names hp
      obtain ⟨b1, b2⟩ := bad_ok h2 p hp
      exact ⟨m2, m3, b1, b2, cutS_noslash l p m1, fun hz => s3 ((mem_cutS m1).1 0 hz), valid_cut l s4 p m1⟩
    · rw [if_neg h2] at h; exact absurd h h2
  · rw [if_neg h1] at h; exact absurd h h1
theorem clean_bad {l : List UInt8} (h : (cleanS l).2 ≠ 0) : (cleanS l).1 = [] := by
  unfold cleanS at h ⊢
  split
  · split
    · rename_i h1 h2; rw [if_pos h1, if_pos h2] at h; exact absurd rfl h
    · rfl
  · rfl
theorem filter_good : ∀ {ps : List (List UInt8)}, (∀ p ∈ ps, Good p) → ps.filter keep = ps := by
  intro ps h
  exact List.filter_eq_self.2 fun p hp => by simp [keep, (h p hp).ne, (h p hp).dot]
theorem join_ne {ps : List (List UInt8)} (h : ∀ p ∈ ps, Good p) (hne : ps ≠ []) : joinS ps ≠ [] := by
  cases ps with
  | nil => exact absurd rfl hne
  | cons p r =>
    have hp := (h p (List.mem_cons_self ..)).ne
    cases r with
    | nil => exact hp
    | cons q r => rw [joinS]; simp
theorem parts_join {ps : List (List UInt8)} (h : ∀ p ∈ ps, Good p) : partsS (joinS ps) = ps := by
  unfold partsS
  by_cases hne : ps = []
  · subst hne; rfl
  · rw [if_neg (join_ne h hne), cutS_join hne fun p hp => (h p hp).slash]
theorem join_head {ps : List (List UInt8)} (h : ∀ p ∈ ps, Good p) (hne : ps ≠ []) : (joinS ps).getD 0 0 ≠ 47 := by
  cases ps with
  | nil => exact absurd rfl hne
  | cons p r =>
    have hp := h p (List.mem_cons_self ..)
    obtain ⟨c, t, rfl⟩ : ∃ c t, p = c :: t := by
      cases p with
      | nil => exact absurd rfl hp.ne
      | cons c t => exact ⟨c, t, rfl⟩
    have hc : c ≠ 47 := fun e => hp.slash (by rw [e]; exact List.mem_cons_self ..)
    cases r with
    | nil => simpa [joinS] using hc
    | cons q r => simpa [joinS] using hc
theorem join_sound {ps : List (List UInt8)} (h : ∀ p ∈ ps, Good p) (hne : ps ≠ []) (hl : (joinS ps).length ≤ 4000) : sound (joinS ps) = 0 := by
  refine sound_mk (join_ne h hne) hl (fun hz => ?_) (valid_join ps fun p hp => (h p hp).valid) (join_head h hne)
  rcases mem_joinS hz with h0 | ⟨p, hp, hz⟩
  · cases h0
  · exact (h p hp).nul hz
theorem names_join {ps : List (List UInt8)} (h : ∀ p ∈ ps, Good p) (hne : ps ≠ []) : names (joinS ps) = ps := by
  unfold names
  rw [cutS_join hne fun p hp => (h p hp).slash, filter_good h]
/-- Clean parts, joined, are clean. -/
theorem clean_join {ps : List (List UInt8)} (h : ∀ p ∈ ps, Good p) (hne : ps ≠ []) (hl : (joinS ps).length ≤ 4000) : cleanS (joinS ps) = (ps, 0) := by
  unfold cleanS
  rw [if_pos (join_sound h hne hl), names_join h hne, if_pos (bad_good h)]
end Go.Proofs.YtimbefkiledbdaaGreatDoor.Pure
