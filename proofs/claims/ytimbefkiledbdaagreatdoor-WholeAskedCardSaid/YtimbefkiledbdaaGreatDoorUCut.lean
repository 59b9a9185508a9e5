/- Texts cut at slashes, and joined again: plain laws on lists of bytes. -/
import Derived.Lib.ValidLaws
import Derived.Lib.SplitLaws
namespace Go.Proofs.YtimbefkiledbdaaGreatDoor.Pure
set_option linter.unusedSimpArgs false
set_option linter.unusedVariables false

/-- A text cut at its slashes. -/
def cutS : List UInt8 → List (List UInt8)
  | [] => [[]]
  | b :: t => if b = 47 then [] :: cutS t else match cutS t with
    | [] => [[b]]
    | p :: r => (b :: p) :: r
/-- Parts with a slash between any two. -/
def joinS : List (List UInt8) → List UInt8
  | [] => []
  | [p] => p
  | p :: q :: r => p ++ 47 :: joinS (q :: r)

theorem cutS_ne (l : List UInt8) : cutS l ≠ [] := by
  cases l with
  | nil => simp [cutS]
  | cons b t =>
    unfold cutS
    split
    · simp
    · split <;> simp
theorem cutS_slash (t : List UInt8) : cutS (47 :: t) = [] :: cutS t := by rw [cutS]; simp
theorem cutS_cons {b : UInt8} {t p : List UInt8} {r : List (List UInt8)} (hb : b ≠ 47) (h : cutS t = p :: r) : cutS (b :: t) = (b :: p) :: r := by
  rw [cutS, if_neg hb, h]
/-- Cut at a slash that stands somewhere. -/
theorem cutS_append (a b : List UInt8) : cutS (a ++ 47 :: b) = cutS a ++ cutS b := by
  induction a with
  | nil => simp [cutS_slash, cutS]
  | cons c t ih =>
    by_cases hc : c = 47
    · subst hc
      rw [List.cons_append, cutS_slash, cutS_slash, ih]
      rfl
    · obtain ⟨p, r, h⟩ : ∃ p r, cutS t = p :: r := by
        cases h : cutS t with
        | nil => exact absurd h (cutS_ne t)
        | cons p r => exact ⟨p, r, rfl⟩
      rw [List.cons_append, cutS_cons hc h, cutS_cons (p := p) (r := r ++ cutS b) hc (by rw [ih, h]; rfl)]
      rfl
theorem cutS_plain {l : List UInt8} (h : (47 : UInt8) ∉ l) : cutS l = [l] := by
  induction l with
  | nil => rfl
  | cons b t ih =>
    simp only [List.mem_cons, not_or] at h
    exact cutS_cons (Ne.symm h.1) (ih h.2)
theorem cutS_noslash : ∀ (l : List UInt8), ∀ p ∈ cutS l, (47 : UInt8) ∉ p
  | [], p, hp => by simp [cutS] at hp; subst hp; simp
  | b :: t, p, hp => by
    by_cases hb : b = 47
    · subst hb
      rw [cutS_slash] at hp
      rcases List.mem_cons.1 hp with rfl | hp
      · simp
      · exact cutS_noslash t p hp
    · obtain ⟨q, r, h⟩ : ∃ q r, cutS t = q :: r := by
        cases h : cutS t with
        | nil => exact absurd h (cutS_ne t)
        | cons p r => exact ⟨p, r, rfl⟩
      rw [cutS_cons hb h] at hp
      have ih := cutS_noslash t
      rw [h] at ih
      rcases List.mem_cons.1 hp with rfl | hp
      · have := ih q (List.mem_cons_self ..)
        simp only [List.mem_cons, not_or]
        exact ⟨Ne.symm hb, this⟩
      · exact ih p (List.mem_cons_of_mem _ hp)
theorem cutS_join {ps : List (List UInt8)} (hne : ps ≠ []) (h : ∀ p ∈ ps, (47 : UInt8) ∉ p) : cutS (joinS ps) = ps := by
  induction ps with
  | nil => exact absurd rfl hne
  | cons p r ih =>
    cases r with
    | nil => exact cutS_plain (h p (List.mem_cons_self ..))
    | cons q r =>
      rw [joinS, cutS_append, cutS_plain (h p (List.mem_cons_self ..)), ih (by simp) (fun x hx => h x (List.mem_cons_of_mem _ hx))]
      rfl
theorem joinS_cons {p : List UInt8} {r : List (List UInt8)} (h : r ≠ []) : joinS (p :: r) = p ++ 47 :: joinS r := by
  cases r with
  | nil => exact absurd rfl h
  | cons q r => rfl
theorem join_cutS (l : List UInt8) : joinS (cutS l) = l := by
  induction l with
  | nil => rfl
  | cons b t ih =>
    by_cases hb : b = 47
    · subst hb
      rw [cutS_slash, joinS_cons (cutS_ne t), ih]
      rfl
    · obtain ⟨q, r, h⟩ : ∃ q r, cutS t = q :: r := by
        cases h : cutS t with
        | nil => exact absurd h (cutS_ne t)
        | cons p r => exact ⟨p, r, rfl⟩
      rw [cutS_cons hb h]
      rw [h] at ih
      cases r with
      | nil => simpa [joinS] using ih
      | cons q2 r => simp only [joinS, List.cons_append] at ih ⊢; rw [ih]
theorem mem_cutS {l p : List UInt8} (hp : p ∈ cutS l) : (∀ b ∈ p, b ∈ l) ∧ p.length ≤ l.length := by
  induction l generalizing p with
  | nil => simp [cutS] at hp; subst hp; simp
  | cons b t ih =>
    by_cases hb : b = 47
    · subst hb
      rw [cutS_slash] at hp
      rcases List.mem_cons.1 hp with rfl | hp
      · simp
      · exact ⟨fun x hx => List.mem_cons_of_mem _ ((ih hp).1 x hx), by have := (ih hp).2; simp; omega⟩
    · obtain ⟨q, r, h⟩ : ∃ q r, cutS t = q :: r := by
        cases h : cutS t with
        | nil => exact absurd h (cutS_ne t)
        | cons p r => exact ⟨p, r, rfl⟩
      rw [cutS_cons hb h] at hp
      rw [h] at ih
      rcases List.mem_cons.1 hp with rfl | hp
      · have := ih (p := q) (List.mem_cons_self ..)
        refine ⟨fun x hx => ?_, by have := this.2; simp; omega⟩
        rcases List.mem_cons.1 hx with rfl | hx
        · exact List.mem_cons_self ..
        · exact List.mem_cons_of_mem _ (this.1 x hx)
      · have := ih (p := p) (List.mem_cons_of_mem _ hp)
        exact ⟨fun x hx => List.mem_cons_of_mem _ (this.1 x hx), by have := this.2; simp; omega⟩
theorem cutS_length (l : List UInt8) : (cutS l).length = l.count 47 + 1 := by
  induction l with
  | nil => rfl
  | cons b t ih =>
    by_cases hb : b = 47
    · subst hb
      rw [cutS_slash, List.length_cons, ih]; simp
    · obtain ⟨q, r, h⟩ : ∃ q r, cutS t = q :: r := by
        cases h : cutS t with
        | nil => exact absurd h (cutS_ne t)
        | cons p r => exact ⟨p, r, rfl⟩
      rw [cutS_cons hb h, List.count_cons_of_ne (by simpa using hb)]
      rw [h] at ih
      simpa using ih
theorem mem_joinS {ps : List (List UInt8)} {b : UInt8} (h : b ∈ joinS ps) : b = 47 ∨ ∃ p ∈ ps, b ∈ p := by
  induction ps with
  | nil => simp [joinS] at h
  | cons p r ih =>
    cases r with
    | nil => exact .inr ⟨p, List.mem_cons_self .., h⟩
    | cons q r =>
      rw [joinS, List.mem_append, List.mem_cons] at h
      rcases h with h | h | h
      · exact .inr ⟨p, List.mem_cons_self .., h⟩
      · exact .inl h
      · rcases ih h with h | ⟨x, hx, hb⟩
        · exact .inl h
        · exact .inr ⟨x, List.mem_cons_of_mem _ hx, hb⟩
theorem joinS_length (ps : List (List UInt8)) (h : ps ≠ []) : (joinS ps).length + 1 = (ps.map (fun p => p.length + 1)).sum := by
  induction ps with
  | nil => exact absurd rfl h
  | cons p r ih =>
    cases r with
    | nil => simp [joinS]
    | cons q r =>
      have := ih (by simp)
      rw [joinS, List.length_append, List.length_cons, List.map_cons, List.sum_cons]
      omega
theorem sum_filter (f : List UInt8 → Nat) (k : List UInt8 → Bool) (ps : List (List UInt8)) : ((ps.filter k).map f).sum ≤ (ps.map f).sum := by
  induction ps with
  | nil => simp
  | cons p r ih =>
    by_cases h : k p = true
    · rw [List.filter_cons_of_pos h]; simp; omega
    · rw [List.filter_cons_of_neg h]; simp; omega
/-- What is left out makes a text no longer. -/
theorem joinS_filter (k : List UInt8 → Bool) (l : List UInt8) : (joinS ((cutS l).filter k)).length ≤ l.length := by
  by_cases h : (cutS l).filter k = []
  · rw [h]; simp [joinS]
  · have h1 := joinS_length _ h
    have h2 := joinS_length _ (cutS_ne l)
    have h3 := sum_filter (fun p => p.length + 1) k (cutS l)
    rw [join_cutS] at h2
    omega

/-- The library's Split at one slash. -/
theorem splitK_cut : ∀ (k : Nat) (l : List UInt8), l.count 47 = k → Lib.splitK [47] 0 k l = cutS l
  | 0, l, h => by
    rw [Lib.splitK, cutS_plain (List.count_eq_zero.1 h)]
  | k + 1, l, h => by
    have hmem : (47 : UInt8) ∈ l := List.count_pos_iff.1 (by omega)
    rcases Lib.index_spec l [47] with ⟨he, hno⟩ | ⟨i, he, hi, ho, hno⟩
    · exfalso
      obtain ⟨j, hj, hb⟩ := List.getElem_of_mem hmem
      have := hno j (by omega)
      rw [Lib.occAt_iff_take l [47] j (by simp; omega)] at this
      have e : (l.drop j).take 1 = [47] := by
        rw [List.drop_eq_getElem_cons hj, hb]
        simp
      simp [e] at this
    · have hroom : i + 1 ≤ l.length := by
        rcases Lib.occAt_room ho with h | h
        · simpa using h
        · cases h
      have htake := Lib.occAt_iff_take l [47] i (by simpa using hroom)
      rw [ho] at htake
      have e : (l.drop i).take 1 = [47] := by simpa using htake.symm
      have hl : l = l.take i ++ 47 :: l.drop (i + 1) := by
        conv => lhs; rw [← List.take_append_drop i l]
        rw [List.drop_eq_getElem_cons (by omega)] at e ⊢
        simp only [List.take_succ_cons, List.take_zero, List.cons.injEq, and_true] at e
        rw [e]
      have hpre : (47 : UInt8) ∉ l.take i := by
        intro hm
        obtain ⟨j, hj, hb⟩ := List.getElem_of_mem hm
        have hj' : j < i := by simp at hj; omega
        have := hno j hj'
        rw [Lib.occAt_iff_take l [47] j (by simp; omega)] at this
        have e2 : (l.drop j).take 1 = [47] := by
          rw [List.drop_eq_getElem_cons (by omega)]
          rw [List.getElem_take] at hb
          rw [hb]
          rfl
        simp [e2] at this
      have hc : (l.drop (i + 1)).count 47 = k := by
        have := h
        rw [hl, List.count_append, List.count_eq_zero.2 hpre, List.count_cons_self] at this
        omega
      unfold Lib.splitK
      rw [he, if_neg (by simp)]
      simp only [Int.toNat_natCast, Nat.add_zero, List.length_cons, List.length_nil, Nat.zero_add]
      rw [splitK_cut k _ hc]
      conv => rhs; rw [hl, cutS_append, cutS_plain hpre]
      rfl
theorem splitB_cut (s : ByteArray) : (Lib.splitB (⟨#[47]⟩ : ByteArray) 0 (Lib.countB s (⟨#[47]⟩ : ByteArray)) s).map (·.data.toList) = cutS s.data.toList := by
  have e : Lib.countB s (⟨#[47]⟩ : ByteArray) = s.data.toList.count 47 := Lib.count_one 47 s.data.toList
  rw [Lib.splitB_data, e]
  exact splitK_cut _ _ rfl

/-! ### UTF-8 -/
theorem lo128 : ∀ b : Fin 256, (Lib.firstT b.val % 8 = 2 ∨ Lib.firstT b.val % 8 = 3 ∨ Lib.firstT b.val % 8 = 4) → 128 ≤ Lib.accLo (Lib.firstT b.val / 16) := by decide +kernel
/-- How many bytes the sign at a text's begin has; none: it is none. -/
def chk (l : List UInt8) : Option Nat := Lib.checkN l.length (l.getD 1 0).toNat (l.getD 2 0).toNat (l.getD 3 0).toNat (Lib.firstT (l.getD 0 0).toNat % 8) (Lib.accLo (Lib.firstT (l.getD 0 0).toNat / 16)) (Lib.accHi (Lib.firstT (l.getD 0 0).toNat / 16))
theorem valid_lead (l : List UInt8) (hne : l ≠ []) (h0 : 128 ≤ (l.getD 0 0).toNat) : Lib.validD l = match chk l with
    | none => false
    | some k => Lib.validD (l.drop k) := Lib.validD_lead l hne h0
/-- A sign that ends ahead of a slash is the same with the slash behind it; one that doesn't is none. -/
theorem check_slash (c : UInt8) (a b : List UInt8) (h0 : 128 ≤ c.toNat) :
    (chk (c :: a) = none ∧ chk (c :: a ++ 47 :: b) = none) ∨ ∃ k, 2 ≤ k ∧ k ≤ (c :: a).length ∧ chk (c :: a) = some k ∧ chk (c :: a ++ 47 :: b) = some k := by
  obtain ⟨A, hA⟩ : ∃ A, A = c :: a := ⟨_, rfl⟩
  obtain ⟨X, hX⟩ : ∃ X, X = c :: a ++ 47 :: b := ⟨_, rfl⟩
  rw [← hX, ← hA]
  have hlo := lo128 ⟨c.toNat, c.toNat_lt⟩
  simp only at hlo
  have e47 : (47 : UInt8).toNat = 47 := rfl
  have kA : (A.getD 0 0) = c := by rw [hA]; rfl
  have kX : (X.getD 0 0) = c := by rw [hX]; rfl
  simp only [chk, kA, kX]
  subst hA hX
  generalize Lib.firstT c.toNat % 8 = sz at hlo ⊢
  generalize Lib.accLo (Lib.firstT c.toNat / 16) = lo at hlo ⊢
  generalize Lib.accHi (Lib.firstT c.toNat / 16) = hi
  by_cases h2 : sz = 2
  · subst h2
    have hlo := hlo (.inl rfl)
    rcases a with _ | ⟨x, a⟩
    · left
      constructor
      · simp [Lib.checkN]
      · simp only [Lib.checkN, List.cons_append, List.nil_append, List.getD_cons_succ, List.getD_cons_zero, e47]
        simp; omega
    · have e : ∀ l : List UInt8, ∀ b2 b3, Lib.checkN (c :: x :: l).length x.toNat b2 b3 2 lo hi = if x.toNat < lo ∨ hi < x.toNat then none else some 2 := by
        intro l b2 b3; simp [Lib.checkN, show ¬ (l.length + 1 + 1 < 2) by omega]
      simp only [List.cons_append, List.getD_cons_succ, List.getD_cons_zero, e]
      split
      · exact .inl ⟨rfl, rfl⟩
      · exact .inr ⟨2, by omega, by simp, rfl, rfl⟩
  by_cases h3 : sz = 3
  · subst h3
    have hlo := hlo (.inr (.inl rfl))
    rcases a with _ | ⟨x, _ | ⟨y, a⟩⟩
    · left
      constructor
      · simp [Lib.checkN]
      · simp only [Lib.checkN, List.cons_append, List.nil_append, List.getD_cons_succ, List.getD_cons_zero, e47]
        simp; omega
    · left
      constructor
      · simp [Lib.checkN]
      · simp only [Lib.checkN, List.cons_append, List.nil_append, List.getD_cons_succ, List.getD_cons_zero, e47]
        simp
    · have e : ∀ l : List UInt8, ∀ b3, Lib.checkN (c :: x :: y :: l).length x.toNat y.toNat b3 3 lo hi = if x.toNat < lo ∨ hi < x.toNat ∨ y.toNat < 128 ∨ 191 < y.toNat then none else some 3 := by
        intro l b3; simp [Lib.checkN, show ¬ (l.length + 1 + 1 + 1 < 3) by omega]
      simp only [List.cons_append, List.getD_cons_succ, List.getD_cons_zero, e]
      split
      · exact .inl ⟨rfl, rfl⟩
      · exact .inr ⟨3, by omega, by simp, rfl, rfl⟩
  by_cases h4 : sz = 4
  · subst h4
    have hlo := hlo (.inr (.inr rfl))
    rcases a with _ | ⟨x, _ | ⟨y, _ | ⟨z, a⟩⟩⟩
    · left
      constructor
      · simp [Lib.checkN]
      · simp only [Lib.checkN, List.cons_append, List.nil_append, List.getD_cons_succ, List.getD_cons_zero, e47]
        simp; omega
    · left
      constructor
      · simp [Lib.checkN]
      · simp only [Lib.checkN, List.cons_append, List.nil_append, List.getD_cons_succ, List.getD_cons_zero, e47]
        simp
    · left
      constructor
      · simp [Lib.checkN]
      · simp only [Lib.checkN, List.cons_append, List.nil_append, List.getD_cons_succ, List.getD_cons_zero, e47]
        simp
    · have e : ∀ l : List UInt8, Lib.checkN (c :: x :: y :: z :: l).length x.toNat y.toNat z.toNat 4 lo hi = if x.toNat < lo ∨ hi < x.toNat ∨ y.toNat < 128 ∨ 191 < y.toNat ∨ z.toNat < 128 ∨ 191 < z.toNat then none else some 4 := by
        intro l; simp [Lib.checkN, show ¬ (l.length + 1 + 1 + 1 + 1 < 4) by omega]
      simp only [List.cons_append, List.getD_cons_succ, List.getD_cons_zero, e]
      split
      · exact .inl ⟨rfl, rfl⟩
      · exact .inr ⟨4, by omega, by simp, rfl, rfl⟩
  · left
    simp [Lib.checkN, h2, h3, h4]
theorem valid_append_slash : ∀ (n : Nat) (a b : List UInt8), a.length ≤ n → Lib.validD (a ++ 47 :: b) = (Lib.validD a && Lib.validD b)
  | _, [], b, _ => by
    rw [List.nil_append, Lib.validD_cons 47 b (by decide), Lib.validD_nil, Bool.true_and]
  | 0, _ :: _, _, h => by simp at h
  | n + 1, c :: a, b, h => by
    by_cases h0 : c.toNat < 128
    · rw [List.cons_append, Lib.validD_cons c _ h0, Lib.validD_cons c _ h0]
      exact valid_append_slash n a b (by simpa using h)
    · have h0' : 128 ≤ c.toNat := by omega
      rw [valid_lead (c :: a ++ 47 :: b) (by simp) (by simpa using h0'), valid_lead (c :: a) (by simp) (by simpa using h0')]
      rcases check_slash c a b h0' with ⟨e1, e2⟩ | ⟨k, hk, hl, e1, e2⟩
      · rw [e1, e2]; rfl
      · rw [e1, e2]
        simp only
        rw [List.drop_append_of_le_length hl]
        exact valid_append_slash n _ b (by rw [List.length_drop]; simp at h ⊢; omega)
theorem valid_slash (a b : List UInt8) : Lib.validD (a ++ 47 :: b) = (Lib.validD a && Lib.validD b) := valid_append_slash a.length a b (Nat.le_refl _)
theorem valid_join : ∀ ps : List (List UInt8), (∀ p ∈ ps, Lib.validD p = true) → Lib.validD (joinS ps) = true
  | [], _ => rfl
  | [p], h => h p (List.mem_cons_self ..)
  | p :: q :: r, h => by
    rw [joinS, valid_slash, h p (List.mem_cons_self ..), valid_join (q :: r) (fun x hx => h x (List.mem_cons_of_mem _ hx))]
    rfl
theorem valid_cut (l : List UInt8) (h : Lib.validD l = true) : ∀ p ∈ cutS l, Lib.validD p = true := by
  have key : ∀ ps : List (List UInt8), Lib.validD (joinS ps) = true → ∀ p ∈ ps, Lib.validD p = true := by
    intro ps
    induction ps with
    | nil => intro _ p hp; cases hp
    | cons p r ih =>
      intro hv x hx
      cases r with
      | nil => rw [List.mem_singleton.1 hx]; exact hv
      | cons q r =>
        rw [joinS, valid_slash, Bool.and_eq_true] at hv
        rcases List.mem_cons.1 hx with rfl | hx
        · exact hv.1
        · exact ih hv.2 x hx
  exact key _ (by rw [join_cutS]; exact h)

/-! ### a byte nought, sign by sign -/
/-- What the decoder makes of a place: a byte below 128 itself; or no nought, over bytes that are none. -/
theorem dec_nul (s : ByteArray) (i : Nat) (hi : i < s.size) :
    (s.get! i = 0 → Utf8.decode s i = (0, 1)) ∧ (s.get! i ≠ 0 → (Utf8.decode s i).1 ≠ 0 ∧ ∀ j, i ≤ j → j < i + (Utf8.decode s i).2 → s.get! j ≠ 0) := by
  have h0 := (s.get! i).toNat_lt
  rw [Lib.decode_at]
  have one : s.get! i ≠ 0 → ∀ j, i ≤ j → j < i + 1 → s.get! j ≠ 0 := fun h j h1 h2 => (show i = j by omega) ▸ h
  have nz : ∀ b : UInt8, 128 ≤ b.toNat → b ≠ 0 := fun b hb e => by rw [e] at hb; simp at hb
  have n0 : s.get! i = 0 ↔ (s.get! i).toNat = 0 := ⟨fun h => by rw [h]; rfl, fun h => UInt8.toNat_inj.1 h⟩
  rcases Lib.decodeN_shape (s.size - i) (s.get! i).toNat (s.get! (i + 1)).toNat (s.get! (i + 2)).toNat (s.get! (i + 3)).toNat with ⟨c, e⟩ | ⟨c1, c2, c3, cv, e⟩ | ⟨c1, c2, c3, c4, cv, cs, e⟩ | ⟨c1, c2, c3, c4, c5, cv, cw, e⟩ | e
  · rw [e]
    exact ⟨fun h => by rw [n0.1 h], fun h => ⟨fun h2 => h (n0.2 h2), one h⟩⟩
  · rw [e]
    refine ⟨fun h => by rw [n0.1 h] at c1; omega, fun h => ⟨by simp only; omega, fun j h1 h2 => ?_⟩⟩
    simp only at h2
    obtain rfl | rfl : j = i ∨ j = i + 1 := by omega
    · exact h
    · exact nz _ (by omega)
  · rw [e]
    refine ⟨fun h => by rw [n0.1 h] at c1; omega, fun h => ⟨by simp only; omega, fun j h1 h2 => ?_⟩⟩
    simp only at h2
    obtain rfl | rfl | rfl : j = i ∨ j = i + 1 ∨ j = i + 2 := by omega
    · exact h
    · exact nz _ (by omega)
    · exact nz _ (by omega)
  · rw [e]
    refine ⟨fun h => by rw [n0.1 h] at c1; omega, fun h => ⟨by simp only; omega, fun j h1 h2 => ?_⟩⟩
    simp only at h2
    obtain rfl | rfl | rfl | rfl : j = i ∨ j = i + 1 ∨ j = i + 2 ∨ j = i + 3 := by omega
    · exact h
    · exact nz _ (by omega)
    · exact nz _ (by omega)
    · exact nz _ (by omega)
  · by_cases h128 : (s.get! i).toNat < 128
    · have e2 : Lib.decodeN (s.size - i) (s.get! i).toNat (s.get! (i + 1)).toNat (s.get! (i + 2)).toNat (s.get! (i + 3)).toNat = ((s.get! i).toNat, 1) := by simp [Lib.decodeN, h128]
      rw [e2]
      exact ⟨fun h => by rw [n0.1 h], fun h => ⟨fun h2 => h (n0.2 h2), one h⟩⟩
    · rw [e]
      exact ⟨fun h => by rw [n0.1 h] at h128; omega, fun h => ⟨by simp, one h⟩⟩
/-- What a text is looked at for: the error's number of one that isn't sound, or 0. -/
def sound (l : List UInt8) : Int :=
  if l = [] then 100 else if 4000 < l.length then 2 else if (0 : UInt8) ∈ l then 101 else if Lib.validD l = false then 102 else if l.getD 0 0 = 47 then 103 else 0
end Go.Proofs.YtimbefkiledbdaaGreatDoor.Pure
