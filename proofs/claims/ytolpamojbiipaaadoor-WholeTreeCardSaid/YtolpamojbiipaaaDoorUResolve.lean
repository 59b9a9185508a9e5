/- What target.Resolve and Relative answer: closed forms over the parts of clean paths. -/
import Derived.Test.YtolpamojbiipaaaDoorURefSpl
import Derived.Test.YtolpamojbiipaaaDoorEResolve
import Derived.Test.YtolpamojbiipaaaDoorXA20
namespace Go.Proofs.YtolpamojbiipaaaDoor.Pure
open Go.RowKit Go.Proofs.YtolpamojbiipaaaDoor.XA Go.Proofs.YtolpamojbiipaaaDoorW.PrintWords Go.Proofs.YtolpamojbiipaaaDoorW.PrintLast Go.Proofs.YtolpamojbiipaaaDoorW.PrintMore
set_option linter.unusedSimpArgs false
set_option linter.unusedVariables false

/-- Step by step from a directory's parts. -/
def steps : List (List UInt8) → List (List UInt8) → List (List UInt8) × Int
  | xs, [] => (xs, 0)
  | xs, p :: r => if p = [46, 46] then (if xs = [] then ([], 110) else steps xs.dropLast r) else if 255 < p.length then ([], 2) else steps (xs ++ [p]) r
/-- To what a text in a directory points: its parts, the error's number. -/
def resS (d : List (List UInt8)) (l : List UInt8) : List (List UInt8) × Int :=
  if sound l = 103 then ([], 110) else if sound l = 0 then steps d (names l) else ([], sound l)
theorem steps_bad : ∀ {ps xs : List (List UInt8)}, (steps xs ps).2 ≠ 0 → (steps xs ps).1 = []
  | [], xs, h => absurd rfl h
  | p :: r, xs, h => by
    rw [steps] at h ⊢
    by_cases h1 : p = [46, 46]
    · rw [if_pos h1] at h ⊢
      by_cases h2 : xs = []
      · rw [if_pos h2]
      · rw [if_neg h2] at h ⊢
        exact steps_bad h
    · rw [if_neg h1] at h ⊢
      by_cases h2 : 255 < p.length
      · rw [if_pos h2]
      · rw [if_neg h2] at h ⊢
        exact steps_bad h
theorem stepsR_is : ∀ (ps xs : List (List UInt8)), stepsR (xs.map mkS) (ps.map mkS) = encP (steps xs (ps.filter keep))
  | [], xs => rfl
  | p :: r, xs => by
    rw [List.map_cons, stepsR, mkS_data, mk_size, keep_cons]
    by_cases h1 : p = []
    · rw [if_pos h1, if_pos h1]; exact stepsR_is r xs
    rw [if_neg h1, if_neg h1]
    by_cases h2 : p = [46]
    · rw [if_pos h2, if_pos h2]; exact stepsR_is r xs
    rw [if_neg h2, if_neg h2, steps]
    by_cases h3 : p = [46, 46]
    · rw [if_pos h3, if_pos h3]
      by_cases h4 : xs = []
      · rw [if_pos h4, if_pos (by rw [h4]; rfl)]; rfl
      · rw [if_neg h4, if_neg (by simpa using h4), ← List.map_dropLast]
        exact stepsR_is r xs.dropLast
    · rw [if_neg h3, if_neg h3]
      by_cases h4 : 255 < p.length
      · rw [if_pos h4, if_pos h4]; rfl
      · rw [if_neg h4, if_neg h4]
        have := stepsR_is r (xs ++ [p])
        rwa [List.map_append] at this
/-- So many bytes parts take, a slash behind each. -/
def weight (ps : List (List UInt8)) : Nat := (ps.map (fun p => p.length + 1)).sum
theorem weight_cons (p : List UInt8) (r : List (List UInt8)) : weight (p :: r) = p.length + 1 + weight r := by simp [weight]
theorem weight_append (a b : List (List UInt8)) : weight (a ++ b) = weight a + weight b := by simp [weight]
theorem weight_drop (x : List (List UInt8)) : weight x.dropLast ≤ weight x := by
  by_cases h0 : x = []
  · subst h0; simp
  · conv => rhs; rw [← List.dropLast_concat_getLast h0, weight_append]
    omega
theorem weight_join (x : List (List UInt8)) : (joinS x).length ≤ weight x ∧ (x ≠ [] → (joinS x).length + 1 = weight x) := by
  by_cases h0 : x = []
  · subst h0; exact ⟨by simp [joinS], fun h => absurd rfl h⟩
  · have := joinS_length x h0
    exact ⟨by unfold weight; omega, fun _ => this⟩
theorem weight_len (x : List (List UInt8)) : x.length ≤ weight x := by
  induction x with
  | nil => simp
  | cons p r ih => rw [weight_cons, List.length_cons]; omega
theorem weight_names (l : List UInt8) : weight (names l) ≤ l.length + 1 := by
  have h1 := sum_filter (fun p => p.length + 1) keep (cutS l)
  have h2 := joinS_length _ (cutS_ne l)
  rw [join_cutS] at h2
  unfold weight names
  omega
theorem steps_weight : ∀ (ps xs : List (List UInt8)), weight (steps xs ps).1 ≤ weight xs + weight ps
  | [], xs => by simp [steps, weight]
  | p :: r, xs => by
    rw [steps, weight_cons]
    by_cases h1 : p = [46, 46]
    · rw [if_pos h1]
      by_cases h2 : xs = []
      · rw [if_pos h2]; simp [weight]
      · rw [if_neg h2]
        have := steps_weight r xs.dropLast
        have := weight_drop xs
        omega
    · rw [if_neg h1]
      by_cases h2 : 255 < p.length
      · rw [if_pos h2]; simp [weight]
      · rw [if_neg h2]
        have := steps_weight r (xs ++ [p])
        rw [weight_append, weight_cons] at this
        have h0 : weight [] = 0 := rfl
        omega
theorem resolve_f {d : List (List UInt8)} {l : List UInt8} (hg : ∀ p ∈ d, Good p) (hd : (joinS d).length ≤ 1000000) :
    target_Resolve.f (mkS (joinS d)) (mkS l) = some (mkS (joinS (resS d l).1), (resS d l).2) := by
  unfold target_Resolve.f resS
  rw [mkS_data]
  by_cases h1 : sound l = 103
  · rw [if_pos h1, if_pos h1]; rfl
  rw [if_neg h1, if_neg h1]
  by_cases h2 : sound l = 0
  · have hl := (sound_le h2).2.1
    have hw := weight_join d
    have hwd := weight_len d
    have hwn := weight_names l
    have hws := steps_weight (names l) d
    have hj := weight_join (steps d (names l)).1
    have hjl := weight_len (steps d (names l)).1
    have hwd2 : weight d ≤ 1000001 := by
      by_cases h0 : d = []
      · subst h0; simp [weight]
      · have := hw.2 h0; omega
    rw [if_pos h2, if_pos h2, parts_f (s := mkS (joinS d)) (by rw [mk_size]; omega), split_f (s := mkS l) (by rw [mk_size]; omega), mkS_data, mkS_data, parts_join hg]
    simp only [Option.bind_some, List.length_map, show d.length ≤ 1000001 by omega, if_true, stepsR_is, encP]
    show (if (steps d (names l)).2 = 0 then (path_Join.f ((steps d (names l)).1.map mkS)).bind fun j => some (j, (0 : Int)) else some (⟨#[]⟩, (steps d (names l)).2)) = _
    by_cases h3 : (steps d (names l)).2 = 0
    · rw [if_pos h3, join_f (by omega) (by omega), h3]; rfl
    · rw [if_neg h3, steps_bad h3]; rfl
  · rw [if_neg h2, if_neg h2]; rfl

theorem names_good {l : List UInt8} (h : sound l = 0) {p : List UInt8} (hp : p ∈ names l) (h1 : p ≠ [46, 46]) (h2 : p.length ≤ 255) : Good p := by
  obtain ⟨s1, s2, s3, s4, s5⟩ := sound_le h
  obtain ⟨m1, m2, m3⟩ := mem_names hp
  exact ⟨m2, m3, h1, h2, cutS_noslash l p m1, fun hz => s3 ((mem_cutS m1).1 0 hz), valid_cut l s4 p m1⟩
theorem steps_good : ∀ (ps xs : List (List UInt8)), (∀ p ∈ ps, p ≠ [46, 46] → p.length ≤ 255 → Good p) → (∀ p ∈ xs, Good p) → ∀ p ∈ (steps xs ps).1, Good p
  | [], xs, _, h => h
  | p :: r, xs, hp, h => by
    have hr : ∀ q ∈ r, q ≠ [46, 46] → q.length ≤ 255 → Good q := fun q hq => hp q (List.mem_cons_of_mem _ hq)
    rw [steps]
    by_cases h1 : p = [46, 46]
    · rw [if_pos h1]
      by_cases h2 : xs = []
      · rw [if_pos h2]; intro q hq; cases hq
      · rw [if_neg h2]
        exact steps_good r _ hr fun q hq => h q ((List.dropLast_sublist xs).subset hq)
    · rw [if_neg h1]
      by_cases h2 : 255 < p.length
      · rw [if_pos h2]; intro q hq; cases hq
      · rw [if_neg h2]
        refine steps_good r _ hr fun q hq => ?_
        rcases List.mem_append.1 hq with hq | hq
        · exact h q hq
        · rw [List.mem_singleton.1 hq]
          exact hp p (List.mem_cons_self ..) h1 (by omega)
theorem res_good {d : List (List UInt8)} {l : List UInt8} (hg : ∀ p ∈ d, Good p) : ∀ p ∈ (resS d l).1, Good p := by
  unfold resS
  by_cases h1 : sound l = 103
  · rw [if_pos h1]; intro q hq; cases hq
  rw [if_neg h1]
  by_cases h2 : sound l = 0
  · rw [if_pos h2]
    exact steps_good _ _ (fun p hp a b => names_good h2 hp a b) hg
  · rw [if_neg h2]; intro q hq; cases hq
theorem res_bad {d : List (List UInt8)} {l : List UInt8} (h : (resS d l).2 ≠ 0) : (resS d l).1 = [] := by
  unfold resS at h ⊢
  by_cases h1 : sound l = 103
  · rw [if_pos h1]
  rw [if_neg h1] at h ⊢
  by_cases h2 : sound l = 0
  · rw [if_pos h2] at h ⊢
    exact steps_bad h
  · rw [if_neg h2]
theorem res_ok {d : List (List UInt8)} {l : List UInt8} (h : (resS d l).2 = 0) : sound l = 0 ∧ resS d l = steps d (names l) := by
  unfold resS at h ⊢
  by_cases h1 : sound l = 103
  · rw [if_pos h1] at h; simp at h
  rw [if_neg h1] at h ⊢
  by_cases h2 : sound l = 0
  · exact ⟨h2, by rw [if_pos h2]⟩
  · rw [if_neg h2] at h; exact absurd h h2
theorem res_of {d : List (List UInt8)} {l : List UInt8} (h : sound l = 0) : resS d l = steps d (names l) := by
  unfold resS
  rw [if_neg (by omega), if_pos h]
theorem res_weight {d : List (List UInt8)} {l : List UInt8} : weight (resS d l).1 ≤ weight d + (l.length + 1) := by
  have h := weight_names l
  unfold resS
  by_cases h1 : sound l = 103
  · rw [if_pos h1]; simp [weight]
  rw [if_neg h1]
  by_cases h2 : sound l = 0
  · rw [if_pos h2]
    have := steps_weight (names l) d
    omega
  · rw [if_neg h2]; simp [weight]

/-! ### the steps of a clean path; the steps up -/
theorem steps_down : ∀ {t d : List (List UInt8)}, (∀ p ∈ t, Good p) → steps d t = (d ++ t, 0)
  | [], d, _ => by simp [steps]
  | p :: r, d, h => by
    have hp := h p (List.mem_cons_self ..)
    rw [steps, if_neg hp.dots, if_neg (by have := hp.len; omega), steps_down fun q hq => h q (List.mem_cons_of_mem _ hq)]
    simp
theorem steps_up : ∀ (k : Nat) {c a r : List (List UInt8)}, a.length = k → steps (c ++ a) (List.replicate k [46, 46] ++ r) = steps c r
  | 0, c, a, r, h => by
    rw [List.eq_nil_of_length_eq_zero h]; simp
  | k + 1, c, a, r, h => by
    have h0 : a ≠ [] := fun e => by rw [e] at h; simp at h
    rw [List.replicate_succ, List.cons_append, steps, if_pos rfl, if_neg (by simp [h0]), List.dropLast_append_of_ne_nil h0]
    exact steps_up k (by rw [List.length_dropLast]; omega)
theorem steps_out : ∀ (k : Nat) {d r : List (List UInt8)}, d.length < k → steps d (List.replicate k [46, 46] ++ r) = ([], 110)
  | 0, d, r, h => by omega
  | k + 1, d, r, h => by
    rw [List.replicate_succ, List.cons_append, steps, if_pos rfl]
    by_cases h0 : d = []
    · rw [if_pos h0]
    · rw [if_neg h0]
      have := List.length_pos_iff.2 h0
      exact steps_out k (by rw [List.length_dropLast]; omega)

/-! ### how a path is named from a directory -/
def strip : List (List UInt8) → List (List UInt8) → List (List UInt8) × List (List UInt8)
  | p :: r, q :: t => if p = q then strip r t else (p :: r, q :: t)
  | x, y => (x, y)
theorem strip_nil (x : List (List UInt8)) : strip x [] = (x, []) := by cases x <;> rfl
/-- What both have together is the same ahead. -/
theorem strip_spec : ∀ (x y : List (List UInt8)), ∃ c, x = c ++ (strip x y).1 ∧ y = c ++ (strip x y).2
  | [], y => ⟨[], rfl, rfl⟩
  | p :: r, [] => ⟨[], rfl, rfl⟩
  | p :: r, q :: t => by
    rw [strip]
    by_cases h : p = q
    · rw [if_pos h]
      obtain ⟨c, e1, e2⟩ := strip_spec r t
      exact ⟨p :: c, by rw [List.cons_append, ← e1], by rw [List.cons_append, ← e2, h]⟩
    · rw [if_neg h]
      exact ⟨[], rfl, rfl⟩
/-- The steps from a directory to a path. -/
def ways (x y : List (List UInt8)) : List (List UInt8) := List.replicate (strip x y).1.length [46, 46] ++ (strip x y).2
def relS (x y : List (List UInt8)) : List UInt8 := if ways x y = [] then [46] else joinS (ways x y)
theorem rel_l1 {b : List (List UInt8)} (hb : b.length ≤ 1000001) {n : Nat} (hn : n ≤ 1000001) (hj : (joinS (List.replicate n [46, 46] ++ b)).length ≤ 140737488355328) : ∀ (m i : Nat), i + m = n →
    Ev (fun k => target_Relative.l1 k (b.map mkS) ((List.replicate i ([46, 46] : List UInt8)).map mkS) (n : Int) (i : Int)) (mkS (if List.replicate n [46, 46] ++ b = [] then [46] else joinS (List.replicate n [46, 46] ++ b)))
  | 0, i, h => by
    obtain rfl : i = n := by omega
    refine Ev.step (fun k => by rw [target_Relative.l1]) ?_
    simp only [Int.lt_irrefl, if_false, List.length_map, List.length_replicate, show i + b.length < 8796093022208 by omega, if_true, ← List.map_append, Option.bind_some]
    have hl : (List.replicate i ([46, 46] : List UInt8) ++ b).length = i + b.length := by simp
    by_cases h0 : List.replicate i ([46, 46] : List UInt8) ++ b = []
    · simp only [h0, if_true, List.length_nil, show (((0 : Nat) : Int) = 0) from rfl]
      exact ev_some _
    · have := List.length_pos_iff.2 h0
      simp only [if_neg h0, show ¬ (((List.replicate i ([46, 46] : List UInt8) ++ b).length : Int) = 0) by omega, if_false]
      rw [join_f (by omega) hj]
      exact ev_some _
  | m + 1, i, h => by
    refine Ev.step (fun k => by rw [target_Relative.l1]) ?_
    simp only [show (i : Int) < (n : Int) by omega, if_true, List.length_map, List.length_replicate, show i < 8796093022208 by omega, wnext (i := i) (by omega)]
    have := rel_l1 hb hn hj m (i + 1) (by omega)
    rw [List.replicate_succ', List.map_append] at this
    exact this
theorem rel_j1 {a b : List (List UInt8)} (ha : a.length ≤ 1000001) (hb : b.length ≤ 1000001) (hj : (joinS (List.replicate a.length [46, 46] ++ b)).length ≤ 140737488355328) :
    Ev (fun k => target_Relative.j1 k (a.map mkS) (b.map mkS)) (mkS (if List.replicate a.length [46, 46] ++ b = [] then [46] else joinS (List.replicate a.length [46, 46] ++ b))) := by
  refine Ev.step (fun k => by rw [target_Relative.j1]) ?_
  simp only [List.length_map]
  exact rel_l1 hb ha hj a.length 0 (by omega)
theorem rel_l0 : ∀ (a b : List (List UInt8)), a.length ≤ 1000001 → b.length ≤ 1000001 → (joinS (ways a b)).length ≤ 140737488355328 →
    Ev (fun k => target_Relative.l0 k (a.map mkS) (b.map mkS)) (mkS (relS a b))
  | [], b, ha, hb, hj => by
    refine Ev.step (fun k => by rw [target_Relative.l0]) ?_
    simp only [List.map_nil, List.length_nil, show ¬ (((0 : Nat) : Int) > 0) by omega, if_false]
    exact rel_j1 (a := []) ha hb hj
  | p :: r, [], ha, hb, hj => by
    refine Ev.step (fun k => by rw [target_Relative.l0]) ?_
    simp only [List.length_map, List.length_cons, show ((r.length + 1 : Nat) : Int) > 0 by omega, if_true, List.map_nil, List.length_nil, show ¬ (((0 : Nat) : Int) > 0) by omega, if_false]
    exact rel_j1 (a := p :: r) (b := []) ha hb hj
  | p :: r, q :: t, ha, hb, hj => by
    refine Ev.step (fun k => by rw [target_Relative.l0]) ?_
    have e1 : rdOf ByteArray.empty ((p :: r).map mkS) 0 = mkS p := rfl
    have e2 : rdOf ByteArray.empty ((q :: t).map mkS) 0 = mkS q := rfl
    simp only [e1, e2, List.length_map, List.length_cons, show ((r.length + 1 : Nat) : Int) > 0 by omega, show ((t.length + 1 : Nat) : Int) > 0 by omega, show (0 : Int) < ((r.length + 1 : Nat) : Int) by omega, show (0 : Int) < ((t.length + 1 : Nat) : Int) by omega, if_true, mk_toList, show (1 : Int) ≤ ((r.length + 1 : Nat) : Int) by omega, show (1 : Int) ≤ ((t.length + 1 : Nat) : Int) by omega]
    simp only [List.length_cons] at ha hb
    by_cases h : p = q
    · have hw : ways (p :: r) (q :: t) = ways r t := by unfold ways; rw [strip, if_pos h]
      have hr : relS (p :: r) (q :: t) = relS r t := by unfold relS; rw [hw]
      rw [hw] at hj
      rw [hr]
      simp only [if_pos h]
      exact rel_l0 r t (by omega) (by omega) hj
    · simp only [if_neg h]
      have hw : ways (p :: r) (q :: t) = List.replicate (p :: r).length [46, 46] ++ (q :: t) := by unfold ways; rw [strip, if_neg h]
      have hr : relS (p :: r) (q :: t) = (if List.replicate (p :: r).length [46, 46] ++ (q :: t) = [] then [46] else joinS (List.replicate (p :: r).length [46, 46] ++ (q :: t))) := by unfold relS; rw [hw]
      rw [hw] at hj
      rw [hr]
      exact rel_j1 (a := p :: r) (b := q :: t) (by simp; omega) (by simp; omega) hj
theorem ways_weight (x y : List (List UInt8)) : weight (ways x y) ≤ 3 * x.length + weight y := by
  obtain ⟨c, e1, e2⟩ := strip_spec x y
  unfold ways
  have h1 : weight y = weight c + weight (strip x y).2 := by conv => lhs; rw [e2, weight_append]
  have h2 : (strip x y).1.length ≤ x.length := by conv => rhs; rw [e1, List.length_append]
                                                  omega
  have h3 : ∀ n : Nat, weight (List.replicate n [46, 46]) = 3 * n := by
    intro n
    induction n with
    | zero => rfl
    | succ n ih => rw [List.replicate_succ, weight_cons, ih]; simp; omega
  rw [weight_append, h3]
  omega
theorem relative_ev {x y : List (List UInt8)} (hx : ∀ p ∈ x, Good p) (hy : ∀ p ∈ y, Good p) (lx : (joinS x).length ≤ 100000) (ly : (joinS y).length ≤ 100000) :
    Ev (fun k => target_Relative.f k (mkS (joinS x)) (mkS (joinS y))) (mkS (relS x y)) := by
  unfold target_Relative.f
  have w1 := weight_join x
  have w2 := weight_join y
  have l1 := weight_len x
  have l2 := weight_len y
  have w3 := ways_weight x y
  have w4 := (weight_join (ways x y)).1
  have wx : weight x ≤ 100001 := by
    by_cases h0 : x = []
    · subst h0; simp [weight]
    · have := w1.2 h0; omega
  have wy : weight y ≤ 100001 := by
    by_cases h0 : y = []
    · subst h0; simp [weight]
    · have := w2.2 h0; omega
  simp only [parts_f (s := mkS (joinS x)) (by rw [mk_size]; omega), parts_f (s := mkS (joinS y)) (by rw [mk_size]; omega), mkS_data, parts_join hx, parts_join hy, Option.bind_some]
  exact rel_l0 x y (by omega) (by omega) (by omega)
end Go.Proofs.YtolpamojbiipaaaDoor.Pure
