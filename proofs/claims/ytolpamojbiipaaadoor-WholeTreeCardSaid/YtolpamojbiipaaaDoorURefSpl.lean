/- joined by xlay.py: UBase, UClean, UOrd, UBytes, UComp, UCmp, UUp, UUnder, URefSpl -/
import Derived.Test.YtolpamojbiipaaaDoorXA0
import Derived.Test.YtolpamojbiipaaaDoorUCut
import Derived.Test.YtolpamojbiipaaaDoorXA3
/- Small words for the plain laws: rounds, wraps, bytes and lists. -/

namespace Go.Proofs.YtolpamojbiipaaaDoor.Pure
set_option linter.unusedSimpArgs false
open Go.RowKit Go.Proofs.YtolpamojbiipaaaDoorW.PrintWords Go.Proofs.YtolpamojbiipaaaDoorW.PrintLast Go.Proofs.YtolpamojbiipaaaDoorW.PrintMore

theorem w64 {x : Int} (h1 : -9223372036854775808 ≤ x) (h2 : x ≤ 9223372036854775807) : wrap64 x = x := by unfold wrap64; omega

theorem ev_some {α : Type} (r : α) : Ev (fun _ => some r) r := ⟨0, fun _ _ => rfl⟩
theorem ev_eq {α : Type} {g : Nat → Option α} {r s : α} (h : Ev g r) (e : r = s) : Ev g s := e ▸ h
/-- Two callees, one behind the other. -/
theorem ev_bind {α β : Type} {g : Nat → Option α} {f : Nat → α → Option β} {a : α} {r : β} (h : Ev g a) (k : Ev (fun n => f n a) r) : Ev (fun n => (g n).bind (f n)) r := Ev.bind h k
theorem ev_now {α β : Type} {f : Nat → α → Option β} {a : α} {r : β} (k : Ev (fun n => f n a) r) : Ev (fun n => (some a).bind (f n)) r := k

/-- Bytes as numbers. -/
def Bytes (l : List Int) : Prop := ∀ x ∈ l, 0 ≤ x ∧ x < 256
theorem bytes_wf {l : List Int} (h : ∀ x ∈ l, (Lit.int .u8 x).wf = true) : Bytes l := by
  intro x hx
  have := h x hx
  simp only [Lit.wf, IntKind.min, IntKind.max, IntKind.signed, IntKind.bits, Bool.and_eq_true] at this
  simp at this
  omega
theorem i64_wf {x : Int} (h : (Lit.int .i64 x).wf = true) : -9223372036854775808 ≤ x ∧ x ≤ 9223372036854775807 := by
  simp only [Lit.wf, IntKind.min, IntKind.max, IntKind.signed, IntKind.bits, Bool.and_eq_true, decide_eq_true_eq] at h
  simp at h
  omega
theorem u8_wf {x : Int} (h : (Lit.int .u8 x).wf = true) : 0 ≤ x ∧ x ≤ 255 := by
  simp only [Lit.wf, IntKind.min, IntKind.max, IntKind.signed, IntKind.bits, Bool.and_eq_true, decide_eq_true_eq] at h
  simp at h
  omega
theorem Bytes.tail {c : Int} {l : List Int} (h : Bytes (c :: l)) : Bytes l := fun x hx => h x (List.mem_cons_of_mem _ hx)
theorem Bytes.head {c : Int} {l : List Int} (h : Bytes (c :: l)) : 0 ≤ c ∧ c < 256 := h c (List.mem_cons_self ..)
theorem Bytes.drop {l : List Int} (h : Bytes l) (n : Nat) : Bytes (l.drop n) := fun x hx => h x (List.mem_of_mem_drop hx)
theorem Bytes.take {l : List Int} (h : Bytes l) (n : Nat) : Bytes (l.take n) := fun x hx => h x (List.mem_of_mem_take hx)
theorem Bytes.append {l m : List Int} (h : Bytes l) (k : Bytes m) : Bytes (l ++ m) := fun x hx => (List.mem_append.1 hx).elim (h x) (k x)

theorem rd_nat (l : List Int) (i : Nat) : rd l (i : Int) = l.getD i 0 := by simp [rd]
theorem rd_drop {l : List Int} {i : Nat} {c : Int} {cs : List Int} (h : l.drop i = c :: cs) : rd l (i : Int) = c := by
  rw [rd_nat, List.getD_eq_getElem?_getD]
  have : l[i]? = some c := by
    have h2 : (l.drop i)[0]? = some c := by rw [h]; rfl
    simpa [List.getElem?_drop] using h2
  rw [this]; rfl
theorem drop_next {α : Type} {l : List α} {i : Nat} {c : α} {cs : List α} (h : l.drop i = c :: cs) : l.drop (i + 1) = cs := by
  rw [← List.tail_drop, h]; rfl
theorem drop_lt {α : Type} {l : List α} {i : Nat} {c : α} {cs : List α} (h : l.drop i = c :: cs) : i < l.length := by
  rcases Nat.lt_or_ge i l.length with g | g
  · exact g
  · rw [List.drop_eq_nil_of_le g] at h; cases h
theorem drop_ge {α : Type} {l : List α} {i : Nat} (h : l.drop i = []) : l.length ≤ i := List.drop_eq_nil_iff.1 h
theorem wnext {i : Nat} (h : i ≤ 9223372036854775806) : wrap64 ((i : Int) + 1) = ((i + 1 : Nat) : Int) := by rw [w64 (by omega) (by omega)]; omega
theorem cast_succ (i : Nat) : ((i : Int) + 1) = ((i + 1 : Nat) : Int) := by omega

/-- A string's bytes as numbers. -/
def bl (s : ByteArray) : List Int := s.data.toList.map fun b => (b.toNat : Int)
theorem bl_length (s : ByteArray) : (bl s).length = s.size := by
  show (s.data.toList.map _).length = s.data.size
  rw [List.length_map, Array.length_toList]
theorem bl_bytes (s : ByteArray) : Bytes (bl s) := by
  intro x hx
  simp only [bl, List.mem_map] at hx
  obtain ⟨b, _, rfl⟩ := hx
  have := b.toNat_lt
  omega
theorem bt_bl (s : ByteArray) (i : Int) : bt s i = rd (bl s) i := by
  unfold bt rd
  rw [List.getD_eq_getElem?_getD]
  by_cases h : i.toNat < s.size
  · rw [dif_pos h, List.getElem?_eq_getElem (by rw [bl_length]; exact h)]
    simp [bl, ByteArray.getElem_eq_getElem_data]
  · rw [dif_neg h, List.getElem?_eq_none (by rw [bl_length]; omega)]
    rfl
theorem bl_strOfNums {l : List Int} (h : Bytes l) : bl (strOfNums l) = l := by
  simp only [bl, strOfNums, List.map_map]
  conv => rhs; rw [← List.map_id l]
  refine List.map_congr_left fun x hx => ?_
  have := h x hx
  simp only [Function.comp, id]
  rw [UInt8.toNat_ofNat_of_lt' (by show x.toNat < 256; omega)]
  omega
theorem bl_append (s t : ByteArray) : bl (s ++ t) = bl s ++ bl t := by simp [bl]
theorem bl_lit (a : Array UInt8) : bl ⟨a⟩ = a.toList.map fun b => (b.toNat : Int) := rfl
theorem bl_inj {s t : ByteArray} (h : bl s = bl t) : s = t := by
  have e : s.data.toList = t.data.toList := by
    have hi : Function.Injective (fun b : UInt8 => (b.toNat : Int)) := fun a b hab => UInt8.toNat_inj.1 (Int.ofNat_inj.1 hab)
    exact (List.map_inj_right (fun a b hab => hi hab)).1 h
  cases s; cases t
  simp only [ByteArray.mk.injEq]
  exact Array.toList_inj.1 e
theorem toList_data (s : ByteArray) : s.toList = s.data.toList := by
  rw [ByteArray.toList_eq]
end Go.Proofs.YtolpamojbiipaaaDoor.Pure
/- What path.Clean, Join, Parts answer: closed forms over lists of bytes. -/





namespace Go.Proofs.YtolpamojbiipaaaDoor.Pure
open Go.RowKit Go.Proofs.YtolpamojbiipaaaDoor.XA Go.Proofs.YtolpamojbiipaaaDoorW.PrintWords Go.Proofs.YtolpamojbiipaaaDoorW.PrintLast Go.Proofs.YtolpamojbiipaaaDoorW.PrintMore
set_option linter.unusedSimpArgs false
set_option linter.unusedVariables false

theorem mk_toList (l : List UInt8) : (mkS l).toList = l := by rw [toList_data, mkS_data]
theorem mk_size (l : List UInt8) : (mkS l).size = l.length := by
  show (mkS l).data.size = l.length
  rw [← Array.length_toList, mkS_data]
theorem mk_inj {a b : List UInt8} (h : mkS a = mkS b) : a = b := by rw [← mkS_data a, h, mkS_data]
theorem size_dl (s : ByteArray) : s.size = s.data.toList.length := by simp
theorem rd_map {ps r : List (List UInt8)} {p : List UInt8} {i : Nat} (h : ps.drop i = p :: r) : rdOf ByteArray.empty (ps.map mkS) (i : Int) = mkS p := by
  have : ps[i]? = some p := by
    have h2 : (ps.drop i)[0]? = some p := by rw [h]; rfl
    simpa [List.getElem?_drop] using h2
  unfold rdOf
  rw [List.getD_eq_getElem?_getD, Int.toNat_natCast, List.getElem?_map, this]
  rfl
theorem map_data (ps : List (List UInt8)) : (ps.map mkS).map (·.data.toList) = ps := by
  rw [List.map_map]
  conv => rhs; rw [← List.map_id ps]
  exact List.map_congr_left fun p _ => mkS_data p

/-- Which parts are kept. -/
def keep (p : List UInt8) : Bool := !(p == [] || p == [46])
/-- A text's parts, the empty ones and the dots left out. -/
def names (l : List UInt8) : List (List UInt8) := (cutS l).filter keep
/-- The first part that may not be: its error's number; or 0. -/
def bad : List (List UInt8) → Int
  | [] => 0
  | p :: r => if p = [46, 46] then 104 else if 255 < p.length then 2 else bad r
def scan : List (List UInt8) → List (List UInt8) → List (List UInt8) × Int
  | acc, [] => (acc, 0)
  | acc, p :: r => if p = [] then scan acc r else if p = [46] then scan acc r else if p = [46, 46] then ([], 104) else if 255 < p.length then ([], 2) else scan (acc ++ [p]) r
def encP (r : List (List UInt8) × Int) : List ByteArray × Int := (r.1.map mkS, r.2)
/-- path.Clean. -/
def cleanS (l : List UInt8) : List (List UInt8) × Int :=
  if sound l = 0 then (if bad (names l) = 0 then (names l, 0) else ([], bad (names l))) else ([], sound l)

theorem keep_cons {p : List UInt8} {r : List (List UInt8)} : (p :: r).filter keep = if p = [] then r.filter keep else if p = [46] then r.filter keep else p :: r.filter keep := by
  by_cases h1 : p = []
  · subst h1; rfl
  · by_cases h2 : p = [46]
    · subst h2; rfl
    · rw [if_neg h1, if_neg h2, List.filter_cons_of_pos (by simp [keep, h1, h2])]
theorem scan_eq : ∀ (ps acc : List (List UInt8)), scan acc ps = if bad (ps.filter keep) = 0 then (acc ++ ps.filter keep, 0) else ([], bad (ps.filter keep))
  | [], acc => by simp [scan, bad]
  | p :: r, acc => by
    rw [scan, keep_cons]
    by_cases h1 : p = []
    · rw [if_pos h1, if_pos h1]; exact scan_eq r acc
    rw [if_neg h1, if_neg h1]
    by_cases h2 : p = [46]
    · rw [if_pos h2, if_pos h2]; exact scan_eq r acc
    rw [if_neg h2, if_neg h2, bad]
    by_cases h3 : p = [46, 46]
    · rw [if_pos h3, if_pos h3]; rfl
    rw [if_neg h3, if_neg h3]
    by_cases h4 : 255 < p.length
    · rw [if_pos h4, if_pos h4]; rfl
    rw [if_neg h4, if_neg h4, scan_eq r (acc ++ [p])]
    simp

theorem clean_l0 {ps : List (List UInt8)} (hps : ps.length ≤ 1000001) : ∀ (rest : List (List UInt8)) (i : Nat) (acc : List (List UInt8)), ps.drop i = rest → acc.length ≤ i →
    Ev (fun k => path_Clean.l0 k (acc.map mkS) (ps.map mkS) (ps.length : Int) (i : Int)) (encP (scan acc rest))
  | [], i, acc, h, ha => by
    have := drop_ge h
    refine Ev.step (fun k => by rw [path_Clean.l0]) ?_
    simp only [show ¬ ((i : Int) < (ps.length : Int)) by omega, if_false]
    exact ev_some _
  | p :: r, i, acc, h, ha => by
    have hlt := drop_lt h
    have go := fun (acc' : List (List UInt8)) (h' : acc'.length ≤ i + 1) => clean_l0 hps r (i + 1) acc' (drop_next h) h'
    refine Ev.step (fun k => by rw [path_Clean.l0]) ?_
    simp only [List.length_map, show (i : Int) < (ps.length : Int) by omega, show (0 : Int) ≤ (i : Int) by omega, if_true, rd_map h, mk_toList]
    rw [scan]
    by_cases h1 : p = []
    · simp only [if_pos h1]
      refine Ev.step (fun k => by rw [path_Clean.j1]) ?_
      simp only [h1, beq_self_eq_true, if_true, wnext (i := i) (by omega)]
      exact go acc (by omega)
    simp only [if_neg h1]
    refine Ev.step (fun k => by rw [path_Clean.j1]) ?_
    by_cases h2 : p = [46]
    · simp only [h2, beq_self_eq_true, if_true, wnext (i := i) (by omega)]
      exact go acc (by omega)
    simp only [beq_eq_false_iff_ne.2 h2, Bool.false_eq_true, if_false, if_neg h2, mk_toList, mk_size]
    by_cases h3 : p = [46, 46]
    · simp only [if_pos h3]
      exact ev_some _
    simp only [if_neg h3]
    by_cases h4 : 255 < p.length
    · simp only [show (p.length : Int) > 255 by omega, if_true, if_pos h4]
      exact ev_some _
    simp only [show ¬ ((p.length : Int) > 255) by omega, if_false, if_neg h4, List.length_map, show acc.length < 8796093022208 by omega, if_true, wnext (i := i) (by omega)]
    have := go (acc ++ [p]) (by simp; omega)
    simpa using this

theorem sound_le {l : List UInt8} (h : sound l = 0) : l ≠ [] ∧ l.length ≤ 4000 ∧ (0 : UInt8) ∉ l ∧ Lib.validD l = true ∧ l.getD 0 0 ≠ 47 := by
  unfold sound at h
  by_cases h1 : l = []
  · rw [if_pos h1] at h; omega
  rw [if_neg h1] at h
  by_cases h2 : 4000 < l.length
  · rw [if_pos h2] at h; omega
  rw [if_neg h2] at h
  by_cases h3 : (0 : UInt8) ∈ l
  · rw [if_pos h3] at h; omega
  rw [if_neg h3] at h
  by_cases h4 : Lib.validD l = false
  · rw [if_pos h4] at h; omega
  rw [if_neg h4] at h
  by_cases h5 : l.getD 0 0 = 47
  · rw [if_pos h5] at h; omega
  exact ⟨h1, by omega, h3, by simpa using h4, h5⟩
theorem sound_mk {l : List UInt8} (h1 : l ≠ []) (h2 : l.length ≤ 4000) (h3 : (0 : UInt8) ∉ l) (h4 : Lib.validD l = true) (h5 : l.getD 0 0 ≠ 47) : sound l = 0 := by
  unfold sound
  rw [if_neg h1, if_neg (by omega), if_neg h3, if_neg (by simp [h4]), if_neg h5]
theorem cut_len (l : List UInt8) : (cutS l).length ≤ l.length + 1 := by
  rw [cutS_length]
  have := List.count_le_length (a := (47 : UInt8)) (l := l)
  omega
theorem split_f {s : ByteArray} (h : s.size ≤ 1000000) : strings_Split.f s (⟨#[47]⟩ : ByteArray) = some ((cutS s.data.toList).map mkS) := by
  unfold strings_Split.f
  rw [if_pos ⟨rfl, h⟩]
theorem clean_ev (s : ByteArray) : Ev (fun k => path_Clean.f k s) (encP (cleanS s.data.toList)) := by
  unfold path_Clean.f path_Sound.f cleanS
  simp only [Option.bind_some]
  by_cases h : sound s.data.toList = 0
  · have hl := (sound_le h).2.1
    have hsz := size_dl s
    have hc := cut_len s.data.toList
    simp only [h, if_true, split_f (s := s) (by omega), Option.bind_some, List.length_map]
    have := clean_l0 (ps := cutS s.data.toList) (by omega) (cutS s.data.toList) 0 [] rfl (Nat.zero_le _)
    rw [scan_eq, List.nil_append] at this
    exact this
  · simp only [h, if_false]
    exact ev_some _

/-! ### path.Join, path.Parts -/
theorem join_is (ps : List (List UInt8)) : Lib.join ps [47] = joinS ps := by
  induction ps with
  | nil => rfl
  | cons p r ih =>
    cases r with
    | nil => rw [Lib.join_one]; rfl
    | cons q r =>
      rw [joinS, ← ih]
      simp [Lib.join, List.intercalate]
theorem join_f {ps : List (List UInt8)} (h1 : ps.length ≤ 140737488355328) (h2 : (joinS ps).length ≤ 140737488355328) : path_Join.f (ps.map mkS) = some (mkS (joinS ps)) := by
  unfold path_Join.f strings_Join.f
  rw [map_data, show (⟨#[47]⟩ : ByteArray).data.toList = [47] from rfl, join_is, List.length_map, if_pos ⟨h1, h2⟩]
  rfl
def partsS (l : List UInt8) : List (List UInt8) := if l = [] then [] else cutS l
theorem parts_f {s : ByteArray} (h : s.size ≤ 1000000) : path_Parts.f s = some ((partsS s.data.toList).map mkS) := by
  unfold path_Parts.f partsS
  rw [toList_data]
  by_cases h0 : s.data.toList = []
  · rw [if_pos h0, if_pos h0]; rfl
  · rw [if_neg h0, if_neg h0, split_f h]; rfl

/-! ### clean parts -/
structure Good (p : List UInt8) : Prop where
  ne : p ≠ []
  dot : p ≠ [46]
  dots : p ≠ [46, 46]
  len : p.length ≤ 255
  slash : (47 : UInt8) ∉ p
  nul : (0 : UInt8) ∉ p
  valid : Lib.validD p = true
theorem bad_ok : ∀ {ps : List (List UInt8)}, bad ps = 0 → ∀ p ∈ ps, p ≠ [46, 46] ∧ p.length ≤ 255
  | [], _, p, hp => by cases hp
  | q :: r, h, p, hp => by
    rw [bad] at h
    by_cases h1 : q = [46, 46]
    · rw [if_pos h1] at h; omega
    rw [if_neg h1] at h
    by_cases h2 : 255 < q.length
    · rw [if_pos h2] at h; omega
    rw [if_neg h2] at h
    rcases List.mem_cons.1 hp with rfl | hp
    · exact ⟨h1, by omega⟩
    · exact bad_ok h p hp
theorem bad_good : ∀ {ps : List (List UInt8)}, (∀ p ∈ ps, Good p) → bad ps = 0
  | [], _ => rfl
  | p :: r, h => by
    have hp := h p (List.mem_cons_self ..)
    rw [bad, if_neg hp.dots, if_neg (by have := hp.len; omega)]
    exact bad_good fun q hq => h q (List.mem_cons_of_mem _ hq)
theorem mem_names {l p : List UInt8} (h : p ∈ names l) : p ∈ cutS l ∧ p ≠ [] ∧ p ≠ [46] := by
  obtain ⟨h1, h2⟩ := List.mem_filter.1 h
  simp only [keep, Bool.not_eq_true', Bool.or_eq_false_iff, beq_eq_false_iff_ne] at h2
  exact ⟨h1, h2.1, h2.2⟩
/-- What a clean text's parts are. -/
theorem clean_good {l : List UInt8} (h : (cleanS l).2 = 0) : (cleanS l).1 = names l ∧ (∀ p ∈ names l, Good p) ∧ (joinS (names l)).length ≤ l.length ∧ l.length ≤ 4000 := by
  unfold cleanS at h ⊢
  by_cases h1 : sound l = 0
  · rw [if_pos h1] at h ⊢
    by_cases h2 : bad (names l) = 0
    · rw [if_pos h2]
      obtain ⟨s1, s2, s3, s4, s5⟩ := sound_le h1
      refine ⟨rfl, fun p hp => ?_, joinS_filter keep l, s2⟩
      obtain ⟨m1, m2, m3⟩ := mem_names hp
      obtain ⟨b1, b2⟩ := bad_ok h2 p hp
      exact ⟨m2, m3, b1, b2, cutS_noslash l p m1, fun hz => s3 ((mem_cutS m1).1 0 hz), valid_cut l s4 p m1⟩
    · rw [if_neg h2] at h; exact absurd h h2
  · rw [if_neg h1] at h; exact absurd h h1
theorem clean_bad {l : List UInt8} (h : (cleanS l).2 ≠ 0) : (cleanS l).1 = [] := by
  unfold cleanS at h ⊢
  split
  · split
    · rename_i h1 h2; rw [if_pos h1, if_pos h2] at h; exact absurd rfl h
    · rfl
  · rfl
theorem filter_good : ∀ {ps : List (List UInt8)}, (∀ p ∈ ps, Good p) → ps.filter keep = ps := by
  intro ps h
  exact List.filter_eq_self.2 fun p hp => by simp [keep, (h p hp).ne, (h p hp).dot]
theorem join_ne {ps : List (List UInt8)} (h : ∀ p ∈ ps, Good p) (hne : ps ≠ []) : joinS ps ≠ [] := by
  cases ps with
  | nil => exact absurd rfl hne
  | cons p r =>
    have hp := (h p (List.mem_cons_self ..)).ne
    cases r with
    | nil => exact hp
    | cons q r => rw [joinS]; simp
theorem parts_join {ps : List (List UInt8)} (h : ∀ p ∈ ps, Good p) : partsS (joinS ps) = ps := by
  unfold partsS
  by_cases hne : ps = []
  · subst hne; rfl
  · rw [if_neg (join_ne h hne), cutS_join hne fun p hp => (h p hp).slash]
theorem join_head {ps : List (List UInt8)} (h : ∀ p ∈ ps, Good p) (hne : ps ≠ []) : (joinS ps).getD 0 0 ≠ 47 := by
  cases ps with
  | nil => exact absurd rfl hne
  | cons p r =>
    have hp := h p (List.mem_cons_self ..)
    obtain ⟨c, t, rfl⟩ : ∃ c t, p = c :: t := by
      cases p with
      | nil => exact absurd rfl hp.ne
      | cons c t => exact ⟨c, t, rfl⟩
    have hc : c ≠ 47 := fun e => hp.slash (by rw [e]; exact List.mem_cons_self ..)
    cases r with
    | nil => simpa [joinS] using hc
    | cons q r => simpa [joinS] using hc
theorem join_sound {ps : List (List UInt8)} (h : ∀ p ∈ ps, Good p) (hne : ps ≠ []) (hl : (joinS ps).length ≤ 4000) : sound (joinS ps) = 0 := by
  refine sound_mk (join_ne h hne) hl (fun hz => ?_) (valid_join ps fun p hp => (h p hp).valid) (join_head h hne)
  rcases mem_joinS hz with h0 | ⟨p, hp, hz⟩
  · cases h0
  · exact (h p hp).nul hz
theorem names_join {ps : List (List UInt8)} (h : ∀ p ∈ ps, Good p) (hne : ps ≠ []) : names (joinS ps) = ps := by
  unfold names
  rw [cutS_join hne fun p hp => (h p hp).slash, filter_good h]
/-- Clean parts, joined, are clean. -/
theorem clean_join {ps : List (List UInt8)} (h : ∀ p ∈ ps, Good p) (hne : ps ≠ []) (hl : (joinS ps).length ≤ 4000) : cleanS (joinS ps) = (ps, 0) := by
  unfold cleanS
  rw [if_pos (join_sound h hne hl), names_join h hne, if_pos (bad_good h)]
end Go.Proofs.YtolpamojbiipaaaDoor.Pure
/- What path.Compare answers. -/


namespace Go.Proofs.YtolpamojbiipaaaDoor.Pure
open Go.RowKit Go.Proofs.YtolpamojbiipaaaDoor.XA Go.Proofs.YtolpamojbiipaaaDoorW.PrintWords Go.Proofs.YtolpamojbiipaaaDoorW.PrintLast Go.Proofs.YtolpamojbiipaaaDoorW.PrintMore
set_option linter.unusedSimpArgs false
set_option linter.unusedVariables false

/-- The order of clean paths, part by part. -/
def cmpP : List (List UInt8) → List (List UInt8) → Int
  | [], y => -(y.length : Int)
  | p :: r, [] => ((p :: r).length : Int)
  | p :: r, q :: t => if Lib.compareBytes p q = 0 then cmpP r t else Lib.compareBytes p q
theorem cmpP_nil (x : List (List UInt8)) : cmpP x [] = (x.length : Int) := by cases x <;> simp [cmpP]
theorem compare_l0 {x y : List (List UInt8)} (hx : x.length ≤ 1000001) (hy : y.length ≤ 1000001) : ∀ (xr yr : List (List UInt8)) (i : Nat), x.drop i = xr → y.drop i = yr → x.length = i + xr.length → y.length = i + yr.length →
    Ev (fun k => path_Compare.l0 k (x.map mkS) (y.map mkS) (i : Int)) (cmpP xr yr)
  | [], yr, i, h1, h2, l1, l2 => by
    simp only [List.length_nil] at l1
    refine Ev.step (fun k => by rw [path_Compare.l0]) ?_
    simp only [List.length_map, show ¬ ((i : Int) < (x.length : Int)) by omega, if_false]
    refine Ev.step (fun k => by rw [path_Compare.j1]) ?_
    simp only [Bool.false_eq_true, if_false, List.length_map]
    refine ev_eq (ev_some _) ?_
    rw [w64 (by omega) (by omega), cmpP]
    omega
  | p :: r, [], i, h1, h2, l1, l2 => by
    simp only [List.length_nil, List.length_cons] at l1 l2
    refine Ev.step (fun k => by rw [path_Compare.l0]) ?_
    simp only [List.length_map, show ((i : Int) < (x.length : Int)) by omega, if_true, show ¬ ((i : Int) < (y.length : Int)) by omega, decide_false]
    refine Ev.step (fun k => by rw [path_Compare.j1]) ?_
    simp only [Bool.false_eq_true, if_false, List.length_map]
    refine ev_eq (ev_some _) ?_
    rw [w64 (by omega) (by omega), cmpP, List.length_cons]
    omega
  | p :: r, q :: t, i, h1, h2, l1, l2 => by
    simp only [List.length_cons] at l1 l2
    refine Ev.step (fun k => by rw [path_Compare.l0]) ?_
    simp only [List.length_map, show ((i : Int) < (x.length : Int)) by omega, if_true, show ((i : Int) < (y.length : Int)) by omega, decide_true]
    refine Ev.step (fun k => by rw [path_Compare.j1]) ?_
    simp only [if_true, List.length_map, show (0 : Int) ≤ (i : Int) by omega, show ((i : Int) < (x.length : Int)) by omega, show ((i : Int) < (y.length : Int)) by omega, rd_map h1, rd_map h2, strings_Compare.f, mkS_data, Option.bind_some]
    rw [cmpP]
    by_cases hc : Lib.compareBytes p q = 0
    · simp only [if_pos hc, wnext (i := i) (by omega)]
      exact compare_l0 hx hy r t (i + 1) (drop_next h1) (drop_next h2) (by omega) (by omega)
    · simp only [if_neg hc]
      exact ev_some _
theorem parts_len (l : List UInt8) : (partsS l).length ≤ l.length + 1 := by
  unfold partsS
  split
  · simp
  · exact cut_len l
theorem compare_ev {a b : List UInt8} (ha : a.length ≤ 1000000) (hb : b.length ≤ 1000000) : Ev (fun k => path_Compare.f k (mkS a) (mkS b)) (cmpP (partsS a) (partsS b)) := by
  unfold path_Compare.f
  have h1 := parts_len a
  have h2 := parts_len b
  simp only [parts_f (s := mkS a) (by rw [mk_size]; omega), parts_f (s := mkS b) (by rw [mk_size]; omega), mkS_data, Option.bind_some]
  exact compare_l0 (by omega) (by omega) _ _ 0 rfl rfl (by simp) (by simp)

/-- Does a clean path lie in another one, or is it that? -/
def underS (a b : List UInt8) : Bool := a == [] || (b == a || b.take (a.length + 1) == a ++ [47])
end Go.Proofs.YtolpamojbiipaaaDoor.Pure
/- Bytes of texts at places. -/

namespace Go.Proofs.YtolpamojbiipaaaDoor.Pure
open Go.RowKit Go.Proofs.YtolpamojbiipaaaDoor.XA Go.Proofs.YtolpamojbiipaaaDoorW.PrintWords Go.Proofs.YtolpamojbiipaaaDoorW.PrintLast Go.Proofs.YtolpamojbiipaaaDoorW.PrintMore
set_option linter.unusedSimpArgs false
set_option linter.unusedVariables false

theorem bl_mk (p : List UInt8) : bl (mkS p) = p.map fun b => (b.toNat : Int) := by simp [bl, mkS_data]
theorem bt_mk {p r : List UInt8} {c : UInt8} {j : Nat} (h : p.drop j = c :: r) : bt (mkS p) (j : Int) = (c.toNat : Int) := by
  rw [bt_bl, bl_mk]
  exact rd_drop (by rw [← List.map_drop, h]; rfl)
theorem byte_ne {c d : UInt8} (h : c ≠ d) : ¬ ((c.toNat : Int) = (d.toNat : Int)) := fun e => h (UInt8.toNat_inj.1 (by omega))
theorem byte_iff {c d : UInt8} : ((c.toNat : Int) = (d.toNat : Int)) ↔ c = d := ⟨fun e => UInt8.toNat_inj.1 (by omega), fun e => by rw [e]⟩
theorem is47 {c : UInt8} : ((c.toNat : Int) = 47) ↔ c = 47 := byte_iff (c := c) (d := 47)
theorem is0 {c : UInt8} : ((c.toNat : Int) = 0) ↔ c = 0 := byte_iff (c := c) (d := 0)
end Go.Proofs.YtolpamojbiipaaaDoor.Pure
/- What path.Under answers. -/


namespace Go.Proofs.YtolpamojbiipaaaDoor.Pure
open Go.RowKit Go.Proofs.YtolpamojbiipaaaDoor.XA Go.Proofs.YtolpamojbiipaaaDoorW.PrintWords Go.Proofs.YtolpamojbiipaaaDoorW.PrintLast Go.Proofs.YtolpamojbiipaaaDoorW.PrintMore
set_option linter.unusedSimpArgs false
set_option linter.unusedVariables false

theorem mk_append (a b : List UInt8) : mkS a ++ mkS b = mkS (a ++ b) := by
  apply bl_inj
  rw [bl_append]
  simp [bl, mkS_data]
theorem mk_lit (l : Array UInt8) : (⟨l⟩ : ByteArray) = mkS l.toList := by simp [mkS]
theorem under_f {a b : List UInt8} (ha : a.length ≤ 9223372036854775806) : path_Under.f (mkS a) (mkS b) = some (underS a b) := by
  unfold path_Under.f underS
  simp only [mk_toList, mk_size]
  by_cases h1 : a = []
  · simp [h1]
  simp only [if_neg h1, beq_eq_false_iff_ne.2 h1, Bool.false_or]
  by_cases h2 : b = a
  · simp [h2]
  simp only [if_neg h2, beq_eq_false_iff_ne.2 h2, Bool.false_or, show a.length + 1 ≤ 9223372036854775807 by omega, if_true]
  unfold strings_HasPrefix.f stringslite_HasPrefix.f
  rw [mk_lit #[47], mk_append]
  simp only [mk_size, mk_toList, show (#[47] : Array UInt8).toList = [47] from rfl, List.length_append, List.length_cons, List.length_nil]
  by_cases h3 : a.length + 1 ≤ b.length
  · have e : ((mkS b).extract 0 (((a.length + (0 + 1) : Nat) : Int)).toNat).toList = b.take (a.length + 1) := by
      rw [toList_data, Lib.extract_from_zero, mkS_data]
      congr 1
    simp only [show ((b.length : Int) ≥ ((a.length + (0 + 1) : Nat) : Int)) by omega, show (0 : Int) ≤ ((a.length + (0 + 1) : Nat) : Int) by omega, show ((a.length + (0 + 1) : Nat) : Int) ≤ (b.length : Int) by omega, if_true, e, Option.bind_some]
  · have e : (b.take (a.length + 1) == a ++ [47]) = false := by
      refine beq_eq_false_iff_ne.2 fun e => ?_
      have := congrArg List.length e
      simp at this
      omega
    simp only [show ¬ ((b.length : Int) ≥ ((a.length + (0 + 1) : Nat) : Int)) by omega, if_false, e, Option.bind_some]
end Go.Proofs.YtolpamojbiipaaaDoor.Pure
/- The order of clean paths is one: plain laws. -/

namespace Go.Proofs.YtolpamojbiipaaaDoor.Pure
open Go.RowKit Go.Proofs.YtolpamojbiipaaaDoor.XA Go.Proofs.YtolpamojbiipaaaDoorW.PrintWords Go.Proofs.YtolpamojbiipaaaDoorW.PrintLast Go.Proofs.YtolpamojbiipaaaDoorW.PrintMore
set_option linter.unusedSimpArgs false
set_option linter.unusedVariables false

theorem cb_cons (a b : UInt8) (at_ bt_ : List UInt8) : Lib.compareBytes (a :: at_) (b :: bt_) = if a < b then -1 else if b < a then 1 else Lib.compareBytes at_ bt_ := by
  rw [Lib.compareBytes]
theorem cb_range : ∀ (a b : List UInt8), Lib.compareBytes a b = -1 ∨ Lib.compareBytes a b = 0 ∨ Lib.compareBytes a b = 1
  | [], [] => by simp [Lib.compareBytes]
  | [], _ :: _ => by simp [Lib.compareBytes]
  | _ :: _, [] => by simp [Lib.compareBytes]
  | a :: at_, b :: bt_ => by
    rw [cb_cons]
    split
    · exact .inl rfl
    · split
      · exact .inr (.inr rfl)
      · exact cb_range at_ bt_
theorem cb_zero : ∀ {a b : List UInt8}, Lib.compareBytes a b = 0 ↔ a = b
  | [], [] => by simp [Lib.compareBytes]
  | [], _ :: _ => by simp [Lib.compareBytes]
  | _ :: _, [] => by simp [Lib.compareBytes]
  | a :: at_, b :: bt_ => by
    rw [cb_cons]
    by_cases h1 : a < b
    · rw [if_pos h1]
      refine ⟨fun h => by omega, fun h => ?_⟩
      injection h with h _
      subst h
      exact absurd h1 (UInt8.lt_irrefl _)
    rw [if_neg h1]
    by_cases h2 : b < a
    · rw [if_pos h2]
      refine ⟨fun h => by omega, fun h => ?_⟩
      injection h with h _
      subst h
      exact absurd h2 (UInt8.lt_irrefl _)
    rw [if_neg h2, cb_zero]
    have e : a = b := UInt8.le_antisymm (UInt8.not_lt.1 h2) (UInt8.not_lt.1 h1)
    subst e
    simp
theorem cb_neg : ∀ (a b : List UInt8), Lib.compareBytes b a = -Lib.compareBytes a b
  | [], [] => by simp [Lib.compareBytes]
  | [], _ :: _ => by simp [Lib.compareBytes]
  | _ :: _, [] => by simp [Lib.compareBytes]
  | a :: at_, b :: bt_ => by
    rw [cb_cons, cb_cons]
    by_cases h1 : a < b
    · have h2 := UInt8.lt_asymm h1
      simp [h1, h2]
    by_cases h2 : b < a
    · simp [h1, h2]
    · simp only [h1, h2, if_false]
      exact cb_neg at_ bt_
theorem cb_trans : ∀ {a b c : List UInt8}, Lib.compareBytes a b < 0 → Lib.compareBytes b c < 0 → Lib.compareBytes a c < 0
  | [], [], _, h, _ => by simp [Lib.compareBytes] at h
  | _ :: _, [], _, h, _ => by simp [Lib.compareBytes] at h
  | _, _ :: _, [], _, h => by simp [Lib.compareBytes] at h
  | [], _ :: _, _ :: _, _, _ => by simp [Lib.compareBytes]
  | a :: at_, b :: bt_, c :: ct_, h1, h2 => by
    rw [cb_cons] at h1 h2 ⊢
    by_cases ab : a < b
    · by_cases bc : b < c
      · rw [if_pos (UInt8.lt_trans ab bc)]; omega
      · rw [if_neg bc] at h2
        by_cases cb : c < b
        · rw [if_pos cb] at h2; omega
        · have e : b = c := UInt8.le_antisymm (UInt8.not_lt.1 cb) (UInt8.not_lt.1 bc)
          subst e
          rw [if_pos ab]; omega
    · rw [if_neg ab] at h1
      by_cases ba : b < a
      · rw [if_pos ba] at h1; omega
      · rw [if_neg ba] at h1
        have e : a = b := UInt8.le_antisymm (UInt8.not_lt.1 ba) (UInt8.not_lt.1 ab)
        subst e
        by_cases bc : a < c
        · rw [if_pos bc]; omega
        · rw [if_neg bc] at h2 ⊢
          by_cases cb : c < a
          · rw [if_pos cb] at h2; omega
          · rw [if_neg cb] at h2 ⊢
            exact cb_trans h1 h2

theorem cmp_zero : ∀ {x y : List (List UInt8)}, cmpP x y = 0 ↔ x = y
  | [], [] => by simp [cmpP]
  | [], _ :: _ => by simp [cmpP]; omega
  | _ :: _, [] => by simp [cmpP]; omega
  | p :: r, q :: t => by
    rw [cmpP]
    by_cases h : Lib.compareBytes p q = 0
    · rw [if_pos h, cmp_zero]
      rw [cb_zero] at h
      subst h
      simp
    · rw [if_neg h]
      refine ⟨fun h2 => absurd h2 h, fun h2 => ?_⟩
      injection h2 with h2 _
      exact absurd (cb_zero.2 h2) h
theorem cmp_neg : ∀ (x y : List (List UInt8)), cmpP y x = -cmpP x y
  | [], [] => by simp [cmpP]
  | [], _ :: _ => by simp [cmpP]
  | _ :: _, [] => by simp [cmpP]
  | p :: r, q :: t => by
    rw [cmpP, cmpP, cb_neg p q]
    by_cases h : Lib.compareBytes p q = 0
    · rw [if_pos (by omega), if_pos h]
      exact cmp_neg r t
    · rw [if_neg (by omega), if_neg h]
theorem cmp_trans : ∀ {x y z : List (List UInt8)}, cmpP x y < 0 → cmpP y z < 0 → cmpP x z < 0
  | [], [], _, h, _ => by simp [cmpP] at h
  | _ :: _, [], _, h, _ => by simp [cmpP] at h; omega
  | _, _ :: _, [], _, h => by simp [cmpP] at h; omega
  | [], _ :: _, _ :: _, _, _ => by simp only [cmpP, List.length_cons]; omega
  | p :: r, q :: t, s :: u, h1, h2 => by
    rw [cmpP] at h1 h2 ⊢
    by_cases pq : Lib.compareBytes p q = 0
    · rw [if_pos pq] at h1
      rw [cb_zero] at pq
      subst pq
      by_cases qs : Lib.compareBytes p s = 0
      · rw [if_pos qs] at h2 ⊢
        exact cmp_trans h1 h2
      · rw [if_neg qs] at h2 ⊢
        exact h2
    · rw [if_neg pq] at h1
      by_cases qs : Lib.compareBytes q s = 0
      · rw [if_pos qs] at h2
        rw [cb_zero] at qs
        subst qs
        rw [if_neg pq]
        exact h1
      · rw [if_neg qs] at h2
        have := cb_trans h1 h2
        rw [if_neg (by omega)]
        exact this
theorem cmp_le_trans {x y z : List (List UInt8)} (h1 : cmpP x y ≤ 0) (h2 : cmpP y z ≤ 0) : cmpP x z ≤ 0 := by
  by_cases e1 : cmpP x y = 0
  · rw [cmp_zero.1 e1]; exact h2
  by_cases e2 : cmpP y z = 0
  · rw [← cmp_zero.1 e2]; exact h1
  have := cmp_trans (x := x) (y := y) (z := z) (by omega) (by omega)
  omega
/-- What lies ahead of a directory's things, and behind it, lies in it. -/
theorem cmp_between : ∀ {d x r : List (List UInt8)}, cmpP d x ≤ 0 → cmpP x (d ++ r) ≤ 0 → ∃ t, x = d ++ t
  | [], x, _, _, _ => ⟨x, rfl⟩
  | p :: d, [], _, h, _ => by simp [cmpP] at h; omega
  | p :: d, q :: x, r, h1, h2 => by
    rw [List.cons_append] at h2
    rw [cmpP] at h1 h2
    have hn := cb_neg p q
    by_cases pq : Lib.compareBytes p q = 0
    · rw [if_pos pq] at h1
      rw [if_pos (by omega)] at h2
      obtain ⟨t, rfl⟩ := cmp_between h1 h2
      rw [cb_zero] at pq
      subst pq
      exact ⟨t, rfl⟩
    · rw [if_neg pq] at h1
      rw [if_neg (by omega)] at h2
      omega
end Go.Proofs.YtolpamojbiipaaaDoor.Pure
/- What path.Up answers: all ahead of the last slash. -/



namespace Go.Proofs.YtolpamojbiipaaaDoor.Pure
open Go.RowKit Go.Proofs.YtolpamojbiipaaaDoor.XA Go.Proofs.YtolpamojbiipaaaDoorW.PrintWords Go.Proofs.YtolpamojbiipaaaDoorW.PrintLast Go.Proofs.YtolpamojbiipaaaDoorW.PrintMore
set_option linter.unusedSimpArgs false
set_option linter.unusedVariables false

theorem last_down {l : List UInt8} (hl : l.length ≤ 1000000) {r : Int} (m : Nat) : ∀ (d i : Nat), i = m + d → i ≤ l.length → (∀ j, m ≤ j → j < i → l[j]? ≠ some 47) →
    Ev (fun k => bytealg_LastIndexByteString.l0 k (mkS l) 47 ((m : Int) - 1)) r → Ev (fun k => bytealg_LastIndexByteString.l0 k (mkS l) 47 ((i : Int) - 1)) r
  | 0, i, e, _, _, h => by rw [e]; exact h
  | d + 1, i, e, hi, hn, h => by
    obtain ⟨i, rfl⟩ : ∃ q, i = q + 1 := ⟨i - 1, by omega⟩
    have ih := last_down hl m d i (by omega) (by omega) (fun j h1 h2 => hn j h1 (by omega)) h
    have hlt : i < l.length := by omega
    have hd := List.drop_eq_getElem_cons hlt
    have hne : ¬ l[i] = 47 := fun e => hn i (by omega) (by omega) (by rw [List.getElem?_eq_getElem hlt, e])
    refine Ev.step (fun k => by rw [bytealg_LastIndexByteString.l0]) ?_
    rw [show (((i + 1 : Nat) : Int) - 1) = (i : Int) by omega]
    simp only [ge_iff_le, show (0 : Int) ≤ (i : Int) by omega, if_true, mk_size, show (i : Int) < (l.length : Int) by omega, bt_mk hd, is47, hne, if_false]
    rw [w64 (by omega) (by omega)]
    exact ih
theorem last_none {l : List UInt8} (hl : l.length ≤ 1000000) (h : (47 : UInt8) ∉ l) : Ev (fun k => strings_LastIndexByte.f k (mkS l) 47) (-1) := by
  unfold strings_LastIndexByte.f bytealg_LastIndexByteString.f
  refine ev_bind (a := -1) ?_ (ev_some _)
  rw [mk_size, w64 (by omega) (by omega)]
  refine last_down hl 0 l.length l.length (by omega) (Nat.le_refl _) (fun j _ _ e => h (List.mem_of_getElem? e)) ?_
  refine Ev.step (fun k => by rw [bytealg_LastIndexByteString.l0]) ?_
  simp only [show ¬ (((0 : Nat) : Int) - 1 ≥ 0) by omega, if_false]
  exact ev_some _
theorem last_some {a b : List UInt8} (hl : (a ++ 47 :: b).length ≤ 1000000) (h : (47 : UInt8) ∉ b) : Ev (fun k => strings_LastIndexByte.f k (mkS (a ++ 47 :: b)) 47) (a.length : Int) := by
  have hll : (a ++ 47 :: b).length = a.length + 1 + b.length := by simp; omega
  unfold strings_LastIndexByte.f bytealg_LastIndexByteString.f
  refine ev_bind (a := (a.length : Int)) ?_ (ev_some _)
  rw [mk_size, w64 (by omega) (by omega)]
  refine last_down hl (a.length + 1) b.length _ (by omega) (Nat.le_refl _) (fun j h1 h2 e => ?_) ?_
  · rw [List.getElem?_append_right (by omega), show j - a.length = (j - a.length - 1) + 1 by omega, List.getElem?_cons_succ] at e
    exact h (List.mem_of_getElem? e)
  · have hd : (a ++ 47 :: b).drop a.length = 47 :: b := by simp
    refine Ev.step (fun k => by rw [bytealg_LastIndexByteString.l0]) ?_
    rw [show (((a.length + 1 : Nat) : Int) - 1) = (a.length : Int) by omega]
    simp only [ge_iff_le, show (0 : Int) ≤ (a.length : Int) by omega, if_true, mk_size, show (a.length : Int) < ((a ++ 47 :: b).length : Int) by omega, bt_mk hd, is47]
    exact ev_some _
theorem mk_nil : (⟨#[]⟩ : ByteArray) = mkS [] := rfl

/-- All ahead of the last slash. -/
def upS (s : List UInt8) : List UInt8 := ((s.reverse.dropWhile (fun b => b != 47)).drop 1).reverse
theorem dw_all : ∀ (b r : List UInt8), (47 : UInt8) ∉ b → (b ++ r).dropWhile (fun x => x != 47) = r.dropWhile (fun x => x != 47)
  | [], r, _ => rfl
  | x :: b, r, h => by
    rw [List.cons_append, List.dropWhile_cons, if_pos (by simp at h ⊢; exact fun e => h.1 e.symm)]
    exact dw_all b r (fun hm => h (List.mem_cons_of_mem _ hm))
theorem upS_some {a b : List UInt8} (h : (47 : UInt8) ∉ b) : upS (a ++ 47 :: b) = a := by
  unfold upS
  rw [List.reverse_append, List.reverse_cons, List.append_assoc, dw_all _ _ (by simpa using h)]
  simp [List.dropWhile_cons]
theorem upS_none {s : List UInt8} (h : (47 : UInt8) ∉ s) : upS s = [] := by
  unfold upS
  have := dw_all s.reverse [] (by simpa using h)
  rw [List.append_nil] at this
  rw [this]
  rfl
theorem slash_split : ∀ {s : List UInt8}, (47 : UInt8) ∈ s → ∃ a b, s = a ++ 47 :: b ∧ (47 : UInt8) ∉ b
  | x :: t, h => by
    by_cases ht : (47 : UInt8) ∈ t
    · obtain ⟨a, b, e, hb⟩ := slash_split ht
      exact ⟨x :: a, b, by rw [e, List.cons_append], hb⟩
    · have hx : x = 47 := by
        rcases List.mem_cons.1 h with h | h
        · exact h.symm
        · exact absurd h ht
      exact ⟨[], t, by rw [hx]; rfl, ht⟩
theorem upS_lt {s : List UInt8} (h : upS s ≠ []) : (upS s).length < s.length := by
  by_cases hs : (47 : UInt8) ∈ s
  · obtain ⟨a, b, rfl, hb⟩ := slash_split hs
    rw [upS_some hb]; simp
  · exact absurd (upS_none hs) h
theorem up_evS (s : List UInt8) (hl : s.length ≤ 1000000) : Ev (fun k => path_Up.f k (mkS s)) (mkS (upS s), decide (s ≠ [])) := by
  unfold path_Up.f
  simp only [mk_toList]
  by_cases h0 : s = []
  · subst h0
    simp only [if_true]
    exact ev_some _
  simp only [if_neg h0]
  rw [show decide (s ≠ []) = true by simp [h0]]
  by_cases hs : (47 : UInt8) ∈ s
  · obtain ⟨a, b, rfl, hb⟩ := slash_split hs
    rw [upS_some hb]
    refine ev_bind (last_some hl hb) ?_
    simp only [show ¬ ((a.length : Int) < 0) by omega, if_false, show (0 : Int) ≤ (a.length : Int) by omega, if_true, mk_size, show (a.length : Int) ≤ ((a ++ 47 :: b).length : Int) by simp; omega]
    refine ev_eq (ev_some _) ?_
    congr 1
    apply bl_inj
    simp [bl, Lib.extract_from_zero, mkS_data]
  · rw [upS_none hs]
    refine ev_bind (last_none hl hs) ?_
    simp only [show (-1 : Int) < 0 by omega, if_true]
    exact ev_some _
end Go.Proofs.YtolpamojbiipaaaDoor.Pure
/- Which clean paths lie in which: by their parts. -/


namespace Go.Proofs.YtolpamojbiipaaaDoor.Pure
open Go.RowKit Go.Proofs.YtolpamojbiipaaaDoor.XA Go.Proofs.YtolpamojbiipaaaDoorW.PrintWords Go.Proofs.YtolpamojbiipaaaDoorW.PrintLast Go.Proofs.YtolpamojbiipaaaDoorW.PrintMore
set_option linter.unusedSimpArgs false
set_option linter.unusedVariables false

theorem join_append : ∀ {d t : List (List UInt8)}, d ≠ [] → t ≠ [] → joinS (d ++ t) = joinS d ++ 47 :: joinS t
  | [], _, h, _ => absurd rfl h
  | [p], t, _, ht => by rw [List.singleton_append, joinS_cons ht]; rfl
  | p :: q :: r, t, _, ht => by
    rw [List.cons_append, joinS_cons (by simp), joinS_cons (r := q :: r) (by simp), join_append (d := q :: r) (by simp) ht]
    simp
theorem join_inj {x y : List (List UInt8)} (hx : ∀ p ∈ x, Good p) (hy : ∀ p ∈ y, Good p) (h : joinS x = joinS y) : x = y := by
  rw [← parts_join hx, h, parts_join hy]
theorem join_nil {x : List (List UInt8)} (hx : ∀ p ∈ x, Good p) (h : joinS x = []) : x = [] := by
  by_cases e : x = []
  · exact e
  · exact absurd h (join_ne hx e)
theorem under_iff {d x : List (List UInt8)} (hd : ∀ p ∈ d, Good p) (hx : ∀ p ∈ x, Good p) : underS (joinS d) (joinS x) = true ↔ ∃ t, x = d ++ t := by
  unfold underS
  simp only [Bool.or_eq_true, beq_iff_eq]
  constructor
  · rintro (h | h | h)
    · rw [join_nil hd h]; exact ⟨x, rfl⟩
    · rw [join_inj hx hd h]; exact ⟨[], (List.append_nil _).symm⟩
    · have e : joinS x = joinS d ++ 47 :: (joinS x).drop ((joinS d).length + 1) := by
        conv => lhs; rw [← List.take_append_drop ((joinS d).length + 1) (joinS x), h]
        simp
      by_cases d0 : d = []
      · subst d0; exact ⟨x, rfl⟩
      · have x0 : x ≠ [] := by
          rintro rfl
          simp [joinS] at e
        have c1 := cutS_join x0 fun p hp => (hx p hp).slash
        have c2 := cutS_join d0 fun p hp => (hd p hp).slash
        rw [e, cutS_append, c2] at c1
        exact ⟨_, c1.symm⟩
  · rintro ⟨t, rfl⟩
    by_cases d0 : d = []
    · subst d0; exact .inl rfl
    by_cases t0 : t = []
    · subst t0; right; left; rw [List.append_nil]
    · right; right
      rw [join_append d0 t0, show joinS d ++ 47 :: joinS t = (joinS d ++ [47]) ++ joinS t by simp, List.take_append_of_le_length (by simp), List.take_of_length_le (by simp)]
end Go.Proofs.YtolpamojbiipaaaDoor.Pure
/- The document's answer for layer 10: its parts, its joining, its order. -/



namespace Go.Proofs.YtolpamojbiipaaaDoor.Pure
open Go.RowKit Go.Proofs.YtolpamojbiipaaaDoor.XA Go.Proofs.YtolpamojbiipaaaDoorW.PrintWords Go.Proofs.YtolpamojbiipaaaDoorW.PrintLast Go.Proofs.YtolpamojbiipaaaDoorW.PrintMore
set_option linter.unusedSimpArgs false
set_option linter.unusedVariables false

theorem mk_extract {l r : List UInt8} {c : UInt8} {i : Nat} (h : l.drop i = c :: r) : (mkS l).extract i (i + 1) = mkS [c] := by
  apply bl_inj
  rw [bl_mk]
  simp only [bl, Lib.extract_data, mkS_data]
  congr 1
  have hlt := drop_lt h
  rw [h, show i + 1 - i = 1 by omega]
  rfl
theorem names_cons {cur : List UInt8} (h : (47 : UInt8) ∉ cur) (r : List UInt8) : names (cur ++ 47 :: r) = (if cur = [] then [] else if cur = [46] then [] else [cur]) ++ names r := by
  unfold names
  rw [cutS_append, List.filter_append, cutS_plain h, keep_cons]
  rfl
theorem names_plain {cur : List UInt8} (h : (47 : UInt8) ∉ cur) : names cur = if cur = [] then [] else if cur = [46] then [] else [cur] := by
  unfold names
  rw [cutS_plain h, keep_cons]
  rfl
theorem refsplit_end {l : List UInt8} {out : List (List UInt8)} {x : ByteArray} {i : Nat} (h : l.length < i) : Ev (fun k => pannierref10_Split.l0 k (mkS l) (out.map mkS) x (i : Int)) (out.map mkS) := by
  refine Ev.step (fun k => by rw [pannierref10_Split.l0]) ?_
  simp only [mk_size, show ¬ ((i : Int) ≤ (l.length : Int)) by omega, if_false]
  exact ev_some _
theorem refsplit_part {l : List UInt8} (hl : l.length ≤ 1000000) {out : List (List UInt8)} {cur : List UInt8} {i : Nat} (hi : i ≤ l.length) (ho : out.length ≤ i) {R : List (List UInt8)}
    (h : Ev (fun k => pannierref10_Split.l0 k (mkS l) ((out ++ if cur = [] then [] else if cur = [46] then [] else [cur]).map mkS) (mkS []) ((i + 1 : Nat) : Int)) (R.map mkS)) :
    Ev (fun k => pannierref10_Split.j1 k (mkS l) (out.map mkS) (mkS cur) (i : Int) false) (R.map mkS) := by
  refine Ev.step (fun k => by rw [pannierref10_Split.j1]) ?_
  simp only [Bool.false_eq_true, if_false, mk_toList, wnext (i := i) (by omega), List.length_map, show out.length < 8796093022208 by omega, if_true]
  by_cases h1 : cur = []
  · simp only [if_pos h1, List.append_nil] at h ⊢
    exact h
  simp only [if_neg h1] at h ⊢
  by_cases h2 : cur = [46]
  · simp only [if_pos h2, List.append_nil] at h ⊢
    exact h
  simp only [if_neg h2, List.map_append] at h ⊢
  exact h
theorem refsplit_l0 {l : List UInt8} (hl : l.length ≤ 1000000) : ∀ (r : List UInt8) (i : Nat) (out : List (List UInt8)) (cur : List UInt8), l.drop i = r → i ≤ l.length → out.length ≤ i → cur.length ≤ i → (47 : UInt8) ∉ cur →
    Ev (fun k => pannierref10_Split.l0 k (mkS l) (out.map mkS) (mkS cur) (i : Int)) ((out ++ names (cur ++ r)).map mkS)
  | [], i, out, cur, h, hi, ho, hcu, hc => by
    have hge := drop_ge h
    refine Ev.step (fun k => by rw [pannierref10_Split.l0]) ?_
    simp only [mk_size, show (i : Int) ≤ (l.length : Int) by omega, if_true, show ¬ ((i : Int) < (l.length : Int)) by omega, if_false]
    refine refsplit_part hl hi ho ?_
    rw [List.append_nil, names_plain hc]
    exact refsplit_end (by omega)
  | c :: r, i, out, cur, h, hi, ho, hcu, hc => by
    have hlt := drop_lt h
    refine Ev.step (fun k => by rw [pannierref10_Split.l0]) ?_
    simp only [mk_size, show (i : Int) ≤ (l.length : Int) by omega, if_true, show (i : Int) < (l.length : Int) by omega, show (0 : Int) ≤ (i : Int) by omega, bt_mk h]
    by_cases h47 : c = 47
    · subst h47
      rw [show ((((47 : UInt8).toNat : Int)) != 47) = false from rfl]
      refine refsplit_part hl hi ho ?_
      rw [names_cons hc, ← List.append_assoc]
      refine refsplit_l0 hl r (i + 1) _ [] (drop_next h) (by omega) ?_ (by simp) (by simp)
      split
      · simp; omega
      · split <;> simp <;> omega
    · rw [show ((c.toNat : Int) != 47) = true from bne_iff_ne.2 (fun e => h47 (is47.1 e))]
      refine Ev.step (fun k => by rw [pannierref10_Split.j1]) ?_
      simp only [if_true, wnext (i := i) (by omega), show (0 : Int) ≤ (i : Int) by omega, show (i : Int) ≤ ((i + 1 : Nat) : Int) by omega, mk_size, show ((i + 1 : Nat) : Int) ≤ (l.length : Int) by omega, Int.toNat_natCast, mk_extract h, mk_append, List.length_cons, List.length_nil, show cur.length + (0 + 1) ≤ 9223372036854775807 by omega]
      have := refsplit_l0 hl r (i + 1) out (cur ++ [c]) (drop_next h) (by omega) (by omega) (by simp; omega) (by simp only [List.mem_append, List.mem_singleton, not_or]; exact ⟨hc, fun e => h47 e.symm⟩)
      rwa [List.append_assoc, List.singleton_append] at this
theorem refsplit_ev {l : List UInt8} (hl : l.length ≤ 1000000) : Ev (fun k => pannierref10_Split.f k (mkS l)) ((names l).map mkS) := by
  unfold pannierref10_Split.f
  exact refsplit_l0 hl l 0 [] [] rfl (Nat.zero_le _) (Nat.le_refl _) (Nat.le_refl _) (by simp)

/-! ### joined -/
end Go.Proofs.YtolpamojbiipaaaDoor.Pure
