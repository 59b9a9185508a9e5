/- 'copy' into a row of the call's own: bytes (or other elements of one cell) out of a slice, or out of a string that fits. -/
import Derived.Test.YtchldbhnohicoaaXA0
import Derived.Laws.CopyOwn
import Derived.Lib.BufferWrite
namespace Go.Proofs.Ytchldbhnohicoaa.Copy
open Go.RowKit Go.Proofs.YtchldbhnohicoaaW.PrintWords Go.Proofs.YtchldbhnohicoaaW.PrintLast Go.Proofs.YtchldbhnohicoaaW.PrintMore Go.Proofs.YtchldbhnohicoaaW.PrintWords.Kd
set_option linter.unusedVariables false
set_option linter.unusedSimpArgs false

theorem take_splice {α : Type} (cur xs cs : List α) (off : Nat) (hx : cur.take xs.length = xs) (hfit : off + cs.length ≤ xs.length) :
    (cur.take off ++ (cs ++ cur.drop (off + cs.length))).take xs.length = xs.take off ++ cs ++ xs.drop (off + cs.length) := by
  have hc : cur = xs ++ cur.drop xs.length := by
    conv => lhs; rw [← List.take_append_drop xs.length cur, hx]
  have h1 : cur.take off = xs.take off := by
    rw [hc, List.take_append_of_le_length (by omega)]
  have h2 : cur.drop (off + cs.length) = xs.drop (off + cs.length) ++ cur.drop xs.length := by
    conv => lhs; rw [hc]
    rw [List.drop_append_of_le_length (by omega)]
  rw [h1, h2, ← List.append_assoc, ← List.append_assoc]
  rw [List.take_append_of_le_length (by simp only [List.length_append, List.length_take, List.length_drop]; omega)]
  rw [List.take_of_length_le (by simp only [List.length_append, List.length_take, List.length_drop]; omega)]

section
variable {P : Program} {α : Type} {enc : α → Value} {h1 : ∀ x, (enc x).oneCell' = true} {e : Nat} {W : World} {base g n cap : Nat} {ok : Nat → Prop} {xs : List α}
/-- The row with cells laid over it from a place on. -/
theorem R_laid (HO : (Kd.scalar enc h1).R e W base ok (.slice (some ⟨g, 0, none⟩) n cap) xs) (off : Nat) (ys : List α) (hfit : off + ys.length ≤ xs.length) :
    ∃ cur : Array Value, W.heap[g]? = some (.cells cur e (0, 0)) ∧ off + (encs enc ys).length ≤ cur.size ∧ base ≤ g ∧
      (Kd.scalar enc h1).R e (W.setRow g (cur.toList.take off ++ (encs enc ys ++ cur.toList.drop (off + (encs enc ys).length))).toArray) base ok (.slice (some ⟨g, 0, none⟩) n cap) (xs.take off ++ ys ++ xs.drop (off + ys.length)) ∧
      W.grownBy (W.setRow g (cur.toList.take off ++ (encs enc ys ++ cur.toList.drop (off + (encs enc ys).length))).toArray) (some g) := by
  have ho := Kd.own_of_R HO
  obtain ⟨hl, hh⟩ := ho
  rcases hh with ⟨hv, _⟩ | ⟨g', cap', cur, hv, hg, hb, hn, hm, hc, ht⟩
  · cases hv
  · injection hv with ha hn' hc'
    injection ha with ha
    injection ha with ha
    subst ha hn' hc'
    have hel : (encs enc ys).length = ys.length := by simp [encs]
    have hxl : (encs enc xs).length = xs.length := by simp [encs]
    simp only [Nat.mul_one] at hc ht
    refine ⟨cur, hb, by rw [hel]; omega, hg, ?_, ?_⟩
    · have hlen : (xs.take off ++ ys ++ xs.drop (off + ys.length)).length = xs.length := by simp only [List.length_append, List.length_take, List.length_drop]; omega
      have key := R_of_own (enc := enc) (h1 := h1) (e := e) (w := W.setRow g (cur.toList.take off ++ (encs enc ys ++ cur.toList.drop (off + (encs enc ys).length))).toArray) (base := base) (ok := ok) (v := .slice (some ⟨g, 0, none⟩) xs.length cap) (xs := xs.take off ++ ys ++ xs.drop (off + ys.length))
      refine key ?_ HO.1
      rw [hlen]
      refine ⟨by simp only [encs, List.length_map]; omega, .inr ⟨g, cap, _, rfl, hg, setRow_heap W g cur _ _ _ hb, hn, hm, ?_, ?_⟩⟩
      · simp only [List.size_toArray, List.length_append, List.length_take, List.length_drop, Array.length_toList, hel]
        omega
      · have := take_splice cur.toList (encs enc xs) (encs enc ys) off (by rw [hxl]; exact ht) (by rw [hel, hxl]; exact hfit)
        rw [hxl, hel] at this
        rw [Nat.mul_one, hel]
        rw [this]
        simp [encs, List.map_take, List.map_drop]
    · exact ⟨rfl, rfl, rfl, by simp [World.setRow], fun k hk hne => setRow_other W g k _ (fun he => hne (by rw [he]))⟩

theorem run_copyin_slice (HO : (Kd.scalar enc h1).R e W base ok (.slice (some ⟨g, 0, none⟩) n cap) xs) (dT sT ty : TypeId) (hu : P.underlying dT = some (.slice e)) (hsz : (P.info? e).map (·.size) = some 1)
    (dp : Option Addr) (dLen dCap off : Nat) (hdp : 0 < dLen → dp = some ⟨g, off, none⟩) (hfit : off + dLen ≤ xs.length)
    (sp : Option Addr) (sLen sCap : Nat) (ys : List α) (hC : (Kd.scalar enc h1).C W sp sLen ys) :
    ∃ w2, (Builtin.copy_ #[dT, sT] ty #[.slice dp dLen dCap, .slice sp sLen sCap]).run P W = .ok (goInt (((ys.take dLen).length : Nat) : Int)) w2 ∧
      (Kd.scalar enc h1).R e w2 base ok (.slice (some ⟨g, 0, none⟩) n cap) (xs.take off ++ ys.take dLen ++ xs.drop (off + (ys.take dLen).length)) ∧ W.grownBy w2 (some g) ∧ base ≤ g := by
  have hyl : ys.length = sLen := hC.1
  have htl : (ys.take dLen).length = min sLen dLen := by rw [List.length_take, hyl]; omega
  obtain ⟨cur, hb, hs, hg, hR, hgr⟩ := R_laid HO off (ys.take dLen) (by omega)
  have hel : (encs enc (ys.take dLen)).length = min sLen dLen := by simp only [encs, List.length_map]; exact htl
  by_cases h0 : min sLen dLen = 0
  · refine ⟨W, by rw [show (ys.take dLen).length = 0 by omega]; exact run_copy_none (P := P) W dT sT ty e dp sp dLen dCap sLen sCap hu hsz h0, ?_, ⟨rfl, rfl, rfl, Nat.le_refl _, fun _ _ _ => rfl⟩, hg⟩
    have : ys.take dLen = [] := List.eq_nil_of_length_eq_zero (by omega)
    rw [this]
    simpa using HO
  · obtain rfl := hdp (by omega)
    obtain ⟨ad, hsp, hcell⟩ := hC.2.2 (by omega)
    subst hsp
    refine ⟨_, ?_, hR, hgr, hg⟩
    have := run_copy_row (P := P) W dT sT ty e g off dLen dCap ad sLen sCap cur e (encs enc (ys.take dLen)) hu hsz hb hel ?_ hs ?_
    · rw [this, hel, ← htl]
      simp
    · intro j v hv
      simp only [encs, List.getElem?_map, Option.map_eq_some_iff] at hv
      obtain ⟨p, hp, rfl⟩ := hv
      have hp2 : ys[j]? = some p := by
        rw [List.getElem?_take] at hp
        split at hp
        · exact hp
        · cases hp
      obtain ⟨c, hc, hK, hu⟩ := hcell j p hp2
      have hK' : c = [enc p] := hK
      subst hK'
      have := hu 0 (enc p) rfl
      simpa [scalar] using this
    · intro v hv
      simp only [encs, List.mem_map] at hv
      obtain ⟨p, _, rfl⟩ := hv
      exact h1 p
end
theorem encs_bytes (s : ByteArray) : Lib.byteCells s.data.toList = encs (Value.int .u8) (bytesOf s) := by
  simp [Lib.byteCells, encs, bytesOf]
theorem run_copyin_string {P : Program} {e : Nat} {W : World} {base g n cap : Nat} {ok : Nat → Prop} {xs : List Int} (HO : (Kd.int .u8).R e W base ok (.slice (some ⟨g, 0, none⟩) n cap) xs) (dT sT ty : TypeId) (hu : P.underlying dT = some (.slice e)) (hsz : (P.info? e).map (·.size) = some 1)
    (dp : Option Addr) (dLen dCap off : Nat) (hdp : 0 < dLen → dp = some ⟨g, off, none⟩) (hfit : off + dLen ≤ xs.length) (s : ByteArray) (hle : s.size ≤ dLen) :
    ∃ w2, (Builtin.copy_ #[dT, sT] ty #[.slice dp dLen dCap, .string s]).run P W = .ok (goInt s.size) w2 ∧
      (Kd.int .u8).R e w2 base ok (.slice (some ⟨g, 0, none⟩) n cap) (xs.take off ++ bytesOf s ++ xs.drop (off + s.size)) ∧ W.grownBy w2 (some g) ∧ base ≤ g := by
  have hbl := bytesOf_length s
  obtain ⟨cur, hb, hs, hg, hR, hgr⟩ := R_laid HO off (bytesOf s) (by omega)
  have hel : (encs (Value.int .u8) (bytesOf s)).length = s.size := by simp only [encs, List.length_map]; exact hbl
  by_cases h0 : s.size = 0
  · refine ⟨W, by rw [h0]; exact Lib.run_copy_empty_string (P := P) W dT sT ty e dp dLen dCap s hu (by rw [hsz]; rfl) h0, ?_, ⟨rfl, rfl, rfl, Nat.le_refl _, fun _ _ _ => rfl⟩, hg⟩
    have : bytesOf s = [] := List.eq_nil_of_length_eq_zero (by omega)
    rw [this, h0]
    simpa using HO
  · obtain rfl := hdp (by omega)
    have := Lib.run_copy_row_string (P := P) W dT sT ty e g off dLen dCap s cur e hu hsz hb hle (by omega)
    rw [encs_bytes] at this
    refine ⟨_, this, ?_, ?_, hg⟩
    · rw [hbl, hel] at hR
      rw [List.append_assoc (List.take off cur.toList)]
      exact hR
    · rw [hel] at hgr
      rw [List.append_assoc]
      exact hgr
/-- The copy as the walk meets it: a slice goes over. -/
theorem wpList_copyin_slice {P : Program} {ops : Array Oper} {rest : List Oper} {o : Oper} {a : Act} {Q : Exit → Act → World → Prop} {α : Type} {enc : α → Value} {h1 : ∀ x, (enc x).oneCell' = true} {e : Nat} {W : World} {base g n cap : Nat} {ok : Nat → Prop} {xs : List α}
    (hgd : o.guard = none) (d s : Operand) (dT sT : TypeId) (ho : o.op = .call { callee := .builtin .copy, args := #[d, s], argTypes := #[dT, sT] })
    (HO : (Kd.scalar enc h1).R e W base ok (.slice (some ⟨g, 0, none⟩) n cap) xs) (hu : P.underlying dT = some (.slice e)) (hsz : (P.info? e).map (·.size) = some 1)
    (dp : Option Addr) (dLen dCap off : Nat) (hd : a.eval d = .slice dp dLen dCap) (hdp : 0 < dLen → dp = some ⟨g, off, none⟩) (hfit : off + dLen ≤ xs.length)
    (sp : Option Addr) (sLen sCap : Nat) (ys : List α) (hs : a.eval s = .slice sp sLen sCap) (hC : (Kd.scalar enc h1).C W sp sLen ys)
    (h : ∀ w2, (Kd.scalar enc h1).R e w2 base ok (.slice (some ⟨g, 0, none⟩) n cap) (xs.take off ++ ys.take dLen ++ xs.drop (off + (ys.take dLen).length)) → W.grownBy w2 (some g) → wpList P ops Q rest (a.put o.dst (goInt (((ys.take dLen).length : Nat) : Int))) w2) :
    wpList P ops Q (o :: rest) a W := by
  obtain ⟨w2, hrun, hR, hg, _⟩ := run_copyin_slice HO dT sT o.type hu hsz dp dLen dCap off hdp hfit sp sLen sCap ys hC
  generalize hc : (ys.take dLen).length = c at hrun hR h
  refine wpList_plain hgd fun K hK => ?_
  unfold Oper.wp
  simp [execOp, ho, resolve, invoke, builtin, hd, hs, hrun, Result.andThen]
  exact hK _ _ (h w2 hR hg)
/-- A string goes over. -/
theorem wpList_copyin_string {P : Program} {ops : Array Oper} {rest : List Oper} {o : Oper} {a : Act} {Q : Exit → Act → World → Prop} {e : Nat} {W : World} {base g n cap : Nat} {ok : Nat → Prop} {xs : List Int}
    (hgd : o.guard = none) (d s : Operand) (dT sT : TypeId) (ho : o.op = .call { callee := .builtin .copy, args := #[d, s], argTypes := #[dT, sT] })
    (HO : (Kd.int .u8).R e W base ok (.slice (some ⟨g, 0, none⟩) n cap) xs) (hu : P.underlying dT = some (.slice e)) (hsz : (P.info? e).map (·.size) = some 1)
    (dp : Option Addr) (dLen dCap off : Nat) (hd : a.eval d = .slice dp dLen dCap) (hdp : 0 < dLen → dp = some ⟨g, off, none⟩) (hfit : off + dLen ≤ xs.length)
    (x : ByteArray) (hs : a.eval s = .string x) (hle : x.size ≤ dLen)
    (h : ∀ w2, (Kd.int .u8).R e w2 base ok (.slice (some ⟨g, 0, none⟩) n cap) (xs.take off ++ bytesOf x ++ xs.drop (off + x.size)) → W.grownBy w2 (some g) → wpList P ops Q rest (a.put o.dst (goInt x.size)) w2) :
    wpList P ops Q (o :: rest) a W := by
  obtain ⟨w2, hrun, hR, hg, _⟩ := run_copyin_string HO dT sT o.type hu hsz dp dLen dCap off hdp hfit x hle
  refine wpList_plain hgd fun K hK => ?_
  unfold Oper.wp
  simp [execOp, ho, resolve, invoke, builtin, hd, hs, hrun, Result.andThen]
  exact hK _ _ (h w2 hR hg)
/-- The copy in a region that draws its order. -/
theorem step_copyin_slice {P : Program} {ops : Array Oper} {o : Oper} {a : Act} {K : Act → World → Prop} {Q : Exit → Act → World → Prop} {E : Prop} {α : Type} {enc : α → Value} {h1 : ∀ x, (enc x).oneCell' = true} {e : Nat} {W : World} {base g n cap : Nat} {ok : Nat → Prop} {xs : List α}
    (hgd : o.guard = none) (d s : Operand) (dT sT : TypeId) (ho : o.op = .call { callee := .builtin .copy, args := #[d, s], argTypes := #[dT, sT] })
    (HO : (Kd.scalar enc h1).R e W base ok (.slice (some ⟨g, 0, none⟩) n cap) xs) (hu : P.underlying dT = some (.slice e)) (hsz : (P.info? e).map (·.size) = some 1)
    (dp : Option Addr) (dLen dCap off : Nat) (hd : a.eval d = .slice dp dLen dCap) (hdp : 0 < dLen → dp = some ⟨g, off, none⟩) (hfit : off + dLen ≤ xs.length)
    (sp : Option Addr) (sLen sCap : Nat) (ys : List α) (hs : a.eval s = .slice sp sLen sCap) (hC : (Kd.scalar enc h1).C W sp sLen ys)
    (h : ∀ w2, (Kd.scalar enc h1).R e w2 base ok (.slice (some ⟨g, 0, none⟩) n cap) (xs.take off ++ ys.take dLen ++ xs.drop (off + (ys.take dLen).length)) → W.grownBy w2 (some g) → K (a.put o.dst (goInt (((ys.take dLen).length : Nat) : Int))) w2) :
    if Region.wanted o (yielded ops a.tmps) = true then Oper.wp P o a W K Q else E := by
  have hw : Region.wanted o (yielded ops a.tmps) = true := by simp [Region.wanted, hgd]
  rw [if_pos hw]
  obtain ⟨w2, hrun, hR, hg, _⟩ := run_copyin_slice HO dT sT o.type hu hsz dp dLen dCap off hdp hfit sp sLen sCap ys hC
  generalize hc : (ys.take dLen).length = c at hrun hR h
  unfold Oper.wp
  simp [execOp, ho, resolve, invoke, builtin, hd, hs, hrun, Result.andThen]
  exact h w2 hR hg
section
variable {P : Program} {ops : Array Oper} {rest : List Oper} {o : Oper} {a : Act} {Q : Exit → Act → World → Prop} {Kc : Act → World → Prop}
theorem cut_place {g off c dLen : Nat} {dp : Option Addr} (hA : dp = if c = off then some ⟨g, 0, none⟩ else (some (⟨g, 0, none⟩ : Addr)).map (·.add (off * 1))) (hc : dLen ≤ c - off) : 0 < dLen → dp = some ⟨g, off, none⟩ := by
  intro h
  rw [hA, if_neg (by omega)]
  simp [Addr.add]
  omega
theorem cap_room {α : Type} {enc : α → Value} {h1 : ∀ x, (enc x).oneCell' = true} {e : Nat} {W : World} {base g n c : Nat} {ok : Nat → Prop} {xs : List α} (HO : (Kd.scalar enc h1).R e W base ok (.slice (some ⟨g, 0, none⟩) n c) xs) : n = xs.length ∧ n ≤ c :=
  ⟨(Kd.R_reads' HO).1, (Kd.R_reads' HO).2.1⟩
/-- 'copy' into a row of the call's own, all of it: out of a slice. -/
theorem R_copy {α : Type} {enc : α → Value} {h1 : ∀ x, (enc x).oneCell' = true} {w0 W : World} (base : Nat) (hgd : o.guard = none) (s x : Operand) (dT sT e : TypeId) (ho : o.op = .call { callee := .builtin .copy, args := #[s, x], argTypes := #[dT, sT] })
    (hu : P.underlying dT = some (.slice e)) (hsz : (P.info? e).map (·.size) = some 1) {g n c dLen dCap sLen sCap off : Nat} {dp sp : Option Addr} {xs ys : List α} {ok : Nat → Prop}
    (hs : a.eval s = .slice dp dLen dCap) (hx : a.eval x = .slice sp sLen sCap) (hA : dp = if c = off then some ⟨g, 0, none⟩ else (some (⟨g, 0, none⟩ : Addr)).map (·.add (off * 1))) (hm : dLen = n - off)
    (HO : (Kd.scalar enc h1).R e W base ok (.slice (some ⟨g, 0, none⟩) n c) xs) (hC : (Kd.scalar enc h1).C W sp sLen ys) (hfit : off + ys.length ≤ xs.length) (HB : Below base w0 W) (hbase : base ≤ W.heap.size)
    (h : ∀ w1, (Kd.scalar enc h1).R e w1 base ok (.slice (some ⟨g, 0, none⟩) n c) (xs.take off ++ ys ++ xs.drop (off + ys.length)) → Below base w0 w1 → W.grownBy w1 (some g) → wpList P ops Q rest (a.put o.dst (goInt (ys.length : Int))) w1) : wpList P ops Q (o :: rest) a W := by
  have hr := cap_room HO
  refine wpList_copyin_slice hgd s x dT sT ho HO hu hsz dp dLen dCap off hs (cut_place hA (by omega)) (by omega) sp sLen sCap ys hx hC ?_
  intro w1 hR hg
  have e : ys.take dLen = ys := List.take_of_length_le (by omega)
  rw [e] at hR ⊢
  exact h w1 hR (HB.grown hg hbase (fun k hk => by injection hk with hk; subst hk; exact Kd.R_base HO _ (by simp [Value.ownBlock]))) hg
theorem R_copy_step {α : Type} {enc : α → Value} {h1 : ∀ x, (enc x).oneCell' = true} {w0 W : World} (base : Nat) (hw : Region.wanted o (yielded ops a.tmps) = true) (s x : Operand) (dT sT e : TypeId) (ho : o.op = .call { callee := .builtin .copy, args := #[s, x], argTypes := #[dT, sT] })
    (hu : P.underlying dT = some (.slice e)) (hsz : (P.info? e).map (·.size) = some 1) {g n c dLen dCap sLen sCap off : Nat} {dp sp : Option Addr} {xs ys : List α} {ok : Nat → Prop}
    (hs : a.eval s = .slice dp dLen dCap) (hx : a.eval x = .slice sp sLen sCap) (hA : dp = if c = off then some ⟨g, 0, none⟩ else (some (⟨g, 0, none⟩ : Addr)).map (·.add (off * 1))) (hm : dLen = n - off)
    (HO : (Kd.scalar enc h1).R e W base ok (.slice (some ⟨g, 0, none⟩) n c) xs) (hC : (Kd.scalar enc h1).C W sp sLen ys) (hfit : off + ys.length ≤ xs.length) (HB : Below base w0 W) (hbase : base ≤ W.heap.size)
    (h : ∀ w1, (Kd.scalar enc h1).R e w1 base ok (.slice (some ⟨g, 0, none⟩) n c) (xs.take off ++ ys ++ xs.drop (off + ys.length)) → Below base w0 w1 → W.grownBy w1 (some g) → Kc (a.put o.dst (goInt (ys.length : Int))) w1) :
    if Region.wanted o (yielded ops a.tmps) = true then Oper.wp P o a W Kc Q else Kc (a.put o.dst undef) W := by
  rw [if_pos hw]
  have hr := cap_room HO
  obtain ⟨w2, hrun, hR, hg, _⟩ := run_copyin_slice HO dT sT o.type hu hsz dp dLen dCap off (cut_place hA (by omega)) (by omega) sp sLen sCap ys hC
  have e : ys.take dLen = ys := List.take_of_length_le (by omega)
  rw [e] at hR hrun
  unfold Oper.wp
  simp [execOp, ho, resolve, invoke, builtin, hs, hx, hrun, Result.andThen]
  exact h w2 hR (HB.grown hg hbase (fun k hk => by injection hk with hk; subst hk; exact Kd.R_base HO _ (by simp [Value.ownBlock]))) hg
/-- .. out of a string. -/
theorem R_copystr {w0 W : World} (base : Nat) (hgd : o.guard = none) (s x : Operand) (dT sT e : TypeId) (ho : o.op = .call { callee := .builtin .copy, args := #[s, x], argTypes := #[dT, sT] })
    (hu : P.underlying dT = some (.slice e)) (hsz : (P.info? e).map (·.size) = some 1) {g n c dLen dCap off : Nat} {dp : Option Addr} {y : ByteArray} {xs : List Int} {ok : Nat → Prop}
    (hs : a.eval s = .slice dp dLen dCap) (hx : a.eval x = .string y) (hA : dp = if c = off then some ⟨g, 0, none⟩ else (some (⟨g, 0, none⟩ : Addr)).map (·.add (off * 1))) (hm : dLen = n - off)
    (HO : (Kd.int .u8).R e W base ok (.slice (some ⟨g, 0, none⟩) n c) xs) (hfit : off + y.size ≤ xs.length) (HB : Below base w0 W) (hbase : base ≤ W.heap.size)
    (h : ∀ w1, (Kd.int .u8).R e w1 base ok (.slice (some ⟨g, 0, none⟩) n c) (xs.take off ++ bytesOf y ++ xs.drop (off + y.size)) → Below base w0 w1 → W.grownBy w1 (some g) → wpList P ops Q rest (a.put o.dst (goInt (y.size : Int))) w1) : wpList P ops Q (o :: rest) a W := by
  have hr := cap_room HO
  refine wpList_copyin_string hgd s x dT sT ho HO hu hsz dp dLen dCap off hs (cut_place hA (by omega)) (by omega) y hx (by omega) ?_
  intro w1 hR hg
  exact h w1 hR (HB.grown hg hbase (fun k hk => by injection hk with hk; subst hk; exact Kd.R_base HO _ (by simp [Value.ownBlock]))) hg
theorem R_copystr_step {w0 W : World} (base : Nat) (hw : Region.wanted o (yielded ops a.tmps) = true) (s x : Operand) (dT sT e : TypeId) (ho : o.op = .call { callee := .builtin .copy, args := #[s, x], argTypes := #[dT, sT] })
    (hu : P.underlying dT = some (.slice e)) (hsz : (P.info? e).map (·.size) = some 1) {g n c dLen dCap off : Nat} {dp : Option Addr} {y : ByteArray} {xs : List Int} {ok : Nat → Prop}
    (hs : a.eval s = .slice dp dLen dCap) (hx : a.eval x = .string y) (hA : dp = if c = off then some ⟨g, 0, none⟩ else (some (⟨g, 0, none⟩ : Addr)).map (·.add (off * 1))) (hm : dLen = n - off)
    (HO : (Kd.int .u8).R e W base ok (.slice (some ⟨g, 0, none⟩) n c) xs) (hfit : off + y.size ≤ xs.length) (HB : Below base w0 W) (hbase : base ≤ W.heap.size)
    (h : ∀ w1, (Kd.int .u8).R e w1 base ok (.slice (some ⟨g, 0, none⟩) n c) (xs.take off ++ bytesOf y ++ xs.drop (off + y.size)) → Below base w0 w1 → W.grownBy w1 (some g) → Kc (a.put o.dst (goInt (y.size : Int))) w1) :
    if Region.wanted o (yielded ops a.tmps) = true then Oper.wp P o a W Kc Q else Kc (a.put o.dst undef) W := by
  rw [if_pos hw]
  have hr := cap_room HO
  obtain ⟨w2, hrun, hR, hg, _⟩ := run_copyin_string HO dT sT o.type hu hsz dp dLen dCap off (cut_place hA (by omega)) (by omega) y (by omega)
  unfold Oper.wp
  simp [execOp, ho, resolve, invoke, builtin, hs, hx, hrun, Result.andThen]
  exact h w2 hR (HB.grown hg hbase (fun k hk => by injection hk with hk; subst hk; exact Kd.R_base HO _ (by simp [Value.ownBlock]))) hg
end
section
variable {P : Program} {ops : Array Oper} {rest : List Oper} {o : Oper} {a : Act} {Q : Exit → Act → World → Prop}
/-- A slice literal, told by its block. -/
theorem litbox_event {W : World} (hgd : o.guard = none) {N : Tmp} (_hd : o.dst = some N) {cs : Array Value} {t : TypeId} {n : Nat}
    (hrun : (execOp a.eval o).run P W = .ok (.value (.slice (some ⟨W.heap.size, 0, none⟩) n n)) (W.alloc (.cells cs t (0, 0))))
    (h : ∀ g, g = W.heap.size → ∀ w1, w1.heap[g]? = some (.cells cs t (0, 0)) → Below W.heap.size W w1 → wpList P ops Q rest (a.put o.dst (.slice (some ⟨g, 0, none⟩) n n)) w1) : wpList P ops Q (o :: rest) a W :=
  Kd.event_run hgd hrun (h _ rfl _ (blk_new W _) (below_alloc (Below.refl _ _) _))
/-- A value that leaves the world as it is. -/
theorem same_event {W : World} {v : Value} (hgd : o.guard = none) (hrun : (execOp a.eval o).run P W = .ok (.value v) W) (h : wpList P ops Q rest (a.put o.dst v) W) : wpList P ops Q (o :: rest) a W := Kd.event_run hgd hrun h
end
end Go.Proofs.Ytchldbhnohicoaa.Copy
