/- The document's tree as contracts over Mem; pannierref13.Add walked by hand. Printed by wip/tools/gen_radd.py. -/
import Derived.Test.YtolpamojbiipaaaDoorEMemTree
import Derived.Test.YtolpamojbiipaaaDoorEMemS
import Derived.Test.YtolpamojbiipaaaDoorURef13
namespace Go.Proofs.YtolpamojbiipaaaDoor.XA
open Go.RowKit Go.Proofs.YtolpamojbiipaaaDoorW.PrintWords Go.Proofs.YtolpamojbiipaaaDoorW.PrintLast Go.Proofs.YtolpamojbiipaaaDoorW.PrintMore Go.Proofs.YtolpamojbiipaaaDoor.Mem Go.Proofs.YtolpamojbiipaaaDoor.Pure
set_option linter.unusedVariables false
set_option linter.unusedSimpArgs false

/-- Things that lie in w. -/
def Wr (A : Option Addr) (ws : List S73) (w : World) : Prop := Kd.C k73 w A ws.length ws
variable {w0 W w' : World} {P : Nat → Prop} {B : List Bx} {S : World → Prop} {A : Option Addr} {c : Nat} {ws : List S73} {n : Int} {v : Value} {base : Nat}
theorem to_V73 (HM : Mem w0 P W B S) (hS : ∀ w, S w → Wr A ws w) (hc : ws.length ≤ c) : Kd.V k73 73 W base (fun k => k ∉ B.map (·.1) ∧ (P k ∨ w0.heap.size ≤ k)) (.slice A ws.length c) ws :=
  ⟨A, c, rfl, hc, fun W' hW => hS _ (HM.old W' (fun k hk hp => hW k hp hk))⟩
theorem of_V73 (HM : Mem w0 P W B S) (hb : Below W.heap.size W w') (hv : Kd.V k73 73 w' base (fun k => (k ∉ B.map (·.1) ∧ (P k ∨ w0.heap.size ≤ k)) ∨ W.heap.size ≤ k) v ws) :
    ∃ A c, v = .slice A ws.length c ∧ ws.length ≤ c ∧ Mem w0 P w' B (fun w => S w ∧ Wr A ws w) := by
  obtain ⟨A, c, e, hc, hf⟩ := hv
  exact ⟨A, c, e, hc, HM.add hb (fun W' h => hf W' (fun k hp hk => h k hk hp))⟩
theorem rfind_M (HM : Mem w0 P W B S) (hS : ∀ w, S w → Wr A ws w) (hc : ws.length ≤ c) (hl : ws.length ≤ 1000000) (s : ByteArray) :
    Calls Tryd.prog 31 #[.agg #[.slice A ws.length c, .int .i64 n], .string s] W fun e w' => e = .returned (.int .i64 (fnd ws s)) ∧ Mem w0 P w' B S := by
  obtain ⟨k, hk⟩ := find_ev (s := s) (n := n) hl
  refine (pannierref13_Find.calls k A c ws n s _ W (hS _ HM.now) hc (hk k (Nat.le_refl _))).mono ?_
  rintro e w' ⟨rfl, hb⟩
  exact ⟨rfl, HM.call hb⟩
theorem rfind_none {s : ByteArray} (HM : Mem w0 P W B S) (hS : ∀ w, S w → Wr A ws w) (hc : ws.length ≤ c) (hl : ws.length ≤ 1000000) (h : ixW ws s = none) :
    Calls Tryd.prog 31 #[.agg #[.slice A ws.length c, .int .i64 n], .string s] W fun e w' => e = .returned (.int .i64 (-1)) ∧ Mem w0 P w' B S := by
  have := rfind_M (n := n) HM hS hc hl s
  unfold fnd at this
  rw [h] at this
  exact this
theorem rfind_some {s : ByteArray} {i : Nat} (HM : Mem w0 P W B S) (hS : ∀ w, S w → Wr A ws w) (hc : ws.length ≤ c) (hl : ws.length ≤ 1000000) (h : ixW ws s = some i) :
    Calls Tryd.prog 31 #[.agg #[.slice A ws.length c, .int .i64 n], .string s] W fun e w' => e = .returned (.int .i64 (i : Int)) ∧ Mem w0 P w' B S := by
  have := rfind_M (n := n) HM hS hc hl s
  unfold fnd at this
  rw [h] at this
  exact this
def thL (x : S73) : List Value := [.string x.f0, .int .i64 x.f1, .int .i64 x.f2, .bool x.f3, .int .i64 x.f4]
theorem rwith_M {s : ByteArray} {x1 x2 x4 : Int} {x3 : Bool} (HM : Mem w0 P W B S) (hS : ∀ w, S w → Wr A ws w) (hc : ws.length ≤ c) (hl : ws.length ≤ 900000) :
    Calls Tryd.prog 70 #[.agg #[.slice A ws.length c, .int .i64 n], .agg #[.string s, .int .i64 x1, .int .i64 x2, .bool x3, .int .i64 x4]] W fun e w' => ∃ A' c', e = .returned (.agg #[.slice A' (wR ws ⟨s, x1, x2, x3, x4⟩).length c', .int .i64 n]) ∧ (wR ws ⟨s, x1, x2, x3, x4⟩).length ≤ c' ∧ Mem w0 P w' B (fun w => S w ∧ Wr A' (wR ws ⟨s, x1, x2, x3, x4⟩) w) := by
  obtain ⟨k, hk⟩ := with_ev (s := s) (a := x1) (b := x2) (c := x3) (d := x4) (n := n) (ws := ws) (by omega)
  refine (pannierref13_with.calls k A c ws n s x1 x2 x3 x4 _ _ W (hS _ HM.now) hc (hk k (Nat.le_refl _))).mono ?_
  rintro e w' ⟨v0, rfl, hR, hb⟩
  obtain ⟨A', c', rfl, h1, h2⟩ := of_V73 (base := 0) HM hb (Kd.V_mono (Kd.R_V (base' := 0) (Kd.R_bound hR)) (fun k hk => .inr hk.2.1))
  exact ⟨A', c', rfl, h1, h2⟩
theorem rpar_M {ps : Pth} (HM : Mem w0 P W B S) (hS : ∀ w, S w → Wr A ws w) (hc : ws.length ≤ c) (hl : ws.length ≤ 900000) (hn : 0 ≤ n) (hn2 : n ≤ 900000) (hp : Cl ps) :
    Calls Tryd.prog 69 #[.agg #[.slice A ws.length c, .int .i64 n], .string (mkS (joinS ps))] W fun e w' => ∃ A' c', e = .returned (.tuple #[.agg #[.slice A' (parW (ups ps) ws n).1.length c', .int .i64 (parW (ups ps) ws n).2.1], .int .i64 (parW (ups ps) ws n).2.2]) ∧
      (parW (ups ps) ws n).1.length ≤ c' ∧ Mem w0 P w' B (fun w => S w ∧ Wr A' (parW (ups ps) ws n).1 w) := by
  obtain ⟨k, hk⟩ := parents_ev hp hl hn hn2
  refine (pannierref13_parents.calls k _ A c ws n _ _ _ _ W (to_V73 HM hS hc) (hk k (Nat.le_refl _))).mono ?_
  rintro e w' ⟨v0, rfl, hV, hb⟩
  obtain ⟨A', c', rfl, h1, h2⟩ := of_V73 HM hb hV
  exact ⟨A', c', rfl, h1, h2⟩
theorem rlink_M {ps qs : Pth} (HM : Mem w0 P W B S) (hS : ∀ w, S w → Wr A ws w) (hc : ws.length ≤ c) (hl : ws.length ≤ 800000) (hn : 0 ≤ n) (hn2 : n ≤ 800000) (hp : ps = [] ∨ Cl ps) :
    Calls Tryd.prog 53 #[.agg #[.slice A ws.length c, .int .i64 n], .string (mkS (joinS ps)), .string (mkS (joinS qs))] W fun e w' => ∃ A' c', e = .returned (.tuple #[.agg #[.slice A' (linkW ws n ps qs).1.length c', .int .i64 (linkW ws n ps qs).2.1], .int .i64 (linkW ws n ps qs).2.2]) ∧
      (linkW ws n ps qs).1.length ≤ c' ∧ Mem w0 P w' B (fun w => S w ∧ Wr A' (linkW ws n ps qs).1 w) := by
  obtain ⟨k, hk⟩ := linkW_ev (qs := qs) hp hl hn hn2
  refine (pannierref13_Link.calls k _ A c ws n _ _ _ _ _ W (to_V73 HM hS hc) (hk k (Nat.le_refl _))).mono ?_
  rintro e w' ⟨v0, rfl, hV, hb⟩
  obtain ⟨A', c', rfl, h1, h2⟩ := of_V73 HM hb hV
  exact ⟨A', c', rfl, h1, h2⟩
theorem built73 (s : ByteArray) (a b d : Int) : Tryd.prog.built 73 [(0, .string s), (1, .int .i64 a), (2, .int .i64 b), (4, .int .i64 d)] = some #[.string s, .int .i64 a, .int .i64 b, .bool false, .int .i64 d] := by kernel_rfl
theorem build_thing {ops : Array Oper} {rest : List Oper} {o : Oper} {a : Act} {w : World} {Q : Exit → Act → World → Prop} {x y z u : Operand} (hg : o.guard = none) (ho : o.op = .build 73 #[(0, x), (1, y), (2, z), (4, u)]) (s : ByteArray) (i j m : Int)
    (hx : a.eval x = .string s) (hy : a.eval y = .int .i64 i) (hz : a.eval z = .int .i64 j) (hu : a.eval u = .int .i64 m) (h : wpList Tryd.prog ops Q rest (a.put o.dst (.agg #[.string s, .int .i64 i, .int .i64 j, .bool false, .int .i64 m])) w) : wpList Tryd.prog ops Q (o :: rest) a w := by
  have e : (#[(0, x), (1, y), (2, z), (4, u)].map fun (j, u) => (j, a.eval u)).toList = [((0 : Nat), Value.string s), (1, .int .i64 i), (2, .int .i64 j), (4, .int .i64 m)] := by simp [hx, hy, hz, hu]
  refine wpList_build hg 73 _ ho (by rw [e, built73]; rfl) ?_
  rw [e, built73]
  exact h
set_option maxHeartbeats 8000000 in
set_option maxRecDepth 100000 in
theorem radd_M {ps : Pth} {kind mark : Int} (hM : Mem w0 P W B S) (hS : ∀ w, S w → Wr A ws w) (hc : ws.length ≤ c) (hl : ws.length ≤ 800000) (hn : 0 ≤ n ∧ n ≤ 800000) (hp : ps = [] ∨ Cl ps) :
    Calls Tryd.prog 54 #[.agg #[.slice A ws.length c, .int .i64 n], .string (mkS (joinS ps)), .int .i64 kind, .int .i64 mark] W fun e w' => ∃ A' c', e = .returned (.tuple #[.agg #[.slice A' (addW ws n ps kind mark).1.length c', .int .i64 (addW ws n ps kind mark).2.1], .int .i64 (addW ws n ps kind mark).2.2]) ∧
      (addW ws n ps kind mark).1.length ≤ c' ∧ Mem w0 P w' B (fun w => S w ∧ Wr A' (addW ws n ps kind mark).1 w) := by
  have HM := Aside0.mk hM
  have HS := Aside0.mk hS
  have HC := Aside0.mk hc
  have HL := Aside0.mk (show ws.length ≤ 1000000 by omega)
  have HL2 := Aside0.mk hl
  have HN := Aside0.mk hn
  clear hM hS hc hn
  unfold addW
  by_cases h0 : ps = []
  case pos =>
    subst h0
    rw [if_pos rfl]
    have b0 : ((mkS (joinS [])).toList == ([] : List UInt8)) = true := beq_iff_eq.2 (mk_toList _)
    have b1 : (mkS (joinS [])).toList.isEmpty = true := List.isEmpty_iff.2 (mk_toList _)
    clear hp
    go_enter Tryd.func54, Tryd.ntmps54
    go_wp2_with (first|go_skip|((with_reducible refine gate_dst (N := 4) rfl ?_);(with_reducible refine' bn HM ?qw rfl _ ?qx ?_);(case qw|qx=>rfl);clear HM;intro g4 _ HM)|((with_reducible refine gate_dst (N := 8) rfl ?_);(with_reducible refine' bz HM ?qw rfl ?qa ?qc ?_);(case qw|qa|qc=>rfl);clear HM;intro g8 _ HM)|((with_reducible refine gate_dst (N := 11) rfl ?_);(with_reducible refine' bz HM ?qw rfl ?qa ?qc ?_);(case qw|qa|qc=>rfl);clear HM;intro g11 _ HM)|((with_reducible refine' lc HM ?qw rfl ?qx ?qm ?qa ?qv ?_);(case qw|qx|qa=>rfl);(case qm=>repeat constructor);(case qv=>rfl))|((with_reducible refine' la HM ?qw rfl ?qx ?qm ?qa ?_);(case qw|qx=>rfl);(case qm=>repeat constructor);(case qa=>rfl))|((with_reducible refine' pa HM ?qw rfl ?qx _ ?qy ?qm ?qa ?_);(case qw|qx|qy=>rfl);(case qm=>repeat constructor);(case qa=>rfl);clear HM;intro _ HM)|((with_reducible refine' pc HM ?qw rfl ?qx ?qa ?qy ?qm ?qo ?qi ?_);(case qw|qx|qa=>rfl);(case qy=>first|exact (rfl:_=Value.int _ _)|exact (rfl:_=Value.slice _ _ _)|exact (rfl:_=Value.string _)|exact (rfl:_=Value.bool _));(case qm=>repeat constructor);(case qo=>exact ⟨rfl,rfl⟩);(case qi=>rfl);clear HM;intro _ HM;try simp only [List.set_cons_zero,List.set_cons_succ] at HM))
    refine bodyPost_ret (ret_ct HM.out rfl rfl (by first | exact m0 | exact m1 | exact m2 | exact m3) (by exact agg64)) rfl ?_
    exact ⟨_, c, rfl, HC.out, (HM.out.drop.drop).imp (fun w h => ⟨h, HS.out _ h⟩)⟩
  have hcp : Cl ps := hp.resolve_left h0
  have HCP := Aside0.mk hcp
  have hne : (mkS (joinS ps)).toList ≠ [] := by rw [mk_toList]; exact join_ne hcp.good h0
  rw [if_neg h0]
  have b0 : ((mkS (joinS ps)).toList == ([] : List UInt8)) = false := beq_eq_false_iff_ne.2 hne
  have b1 : (mkS (joinS ps)).toList.isEmpty = false := List.isEmpty_eq_false_iff.2 hne
  clear hp h0 hne
  have hpar := fun (B : List Bx) (S : World → Prop) (W : World) (HM : Mem w0 P W B S) (hS : ∀ w, S w → Wr A ws w) => rpar_M (n := n) HM hS HC.out (by omega) HN.out.1 (by have := HN.out.2; omega) hcp
  have HPL := Aside0.mk (parW_len (ups ps) ws n)
  have HUL := Aside0.mk (ups_len ps)
  clear hcp
  generalize parW (ups ps) ws n = q at hpar HPL ⊢
  obtain ⟨q1, q2, q3⟩ := q
  have HPAR := Aside0.mk hpar
  clear hpar
  simp only at HPAR HPL ⊢
  cases hx : ixW ws (mkS (joinS ps)) with
  | none =>
    have HX := Aside0.mk hx
    clear hx
    simp only
    by_cases h : q3 = 0
    case neg =>
      rw [if_neg h]
      have b_e : (q3 == 0) = false := beq_eq_false_iff_ne.2 h
      have n_e : (q3 != 0) = true := bne_iff_ne.2 h
      clear h
      go_enter Tryd.func54, Tryd.ntmps54
      go_wp2_with (first|go_skip|((with_reducible refine gate_dst (N := 4) rfl ?_);(with_reducible refine' bn HM ?qw rfl _ ?qx ?_);(case qw|qx=>rfl);clear HM;intro g4 _ HM)|((with_reducible refine gate_dst (N := 8) rfl ?_);(with_reducible refine' bz HM ?qw rfl ?qa ?qc ?_);(case qw|qa|qc=>rfl);clear HM;intro g8 _ HM)|((with_reducible refine gate_dst (N := 11) rfl ?_);(with_reducible refine' bz HM ?qw rfl ?qa ?qc ?_);(case qw|qa|qc=>rfl);clear HM;intro g11 _ HM)|((with_reducible refine' lc HM ?qw rfl ?qx ?qm ?qa ?qv ?_);(case qw|qx|qa=>rfl);(case qm=>repeat constructor);(case qv=>rfl))|((with_reducible refine' la HM ?qw rfl ?qx ?qm ?qa ?_);(case qw|qx=>rfl);(case qm=>repeat constructor);(case qa=>rfl))|((with_reducible refine' pa HM ?qw rfl ?qx _ ?qy ?qm ?qa ?_);(case qw|qx|qy=>rfl);(case qm=>repeat constructor);(case qa=>rfl);clear HM;intro _ HM)|((with_reducible refine' pc HM ?qw rfl ?qx ?qa ?qy ?qm ?qo ?qi ?_);(case qw|qx|qa=>rfl);(case qy=>first|exact (rfl:_=Value.int _ _)|exact (rfl:_=Value.slice _ _ _)|exact (rfl:_=Value.string _)|exact (rfl:_=Value.bool _));(case qm=>repeat constructor);(case qo=>exact ⟨rfl,rfl⟩);(case qi=>rfl);clear HM;intro _ HM;try simp only [List.set_cons_zero,List.set_cons_succ] at HM)|(go_at_call 31; (refine (rfind_none HM.out ?hS HC.out HL.out HX.out).mono ?_); (case hS => first | exact HS.out | exact fun _ h => HS.out _ h.1 | exact fun _ h => h | exact fun _ h => h.2 | exact fun _ h => h.1 | exact fun _ h => h.1.2 | exact fun _ h => h.1.1 | exact fun _ h => h.1.1.2 | exact fun _ h => h.1.1.1); rintro e _ ⟨rfl, hM⟩; clear HM; have HM := Aside0.mk hM; clear hM)|(go_at_call 69; (refine (HPAR.out _ _ _ HM.out ?hS).mono ?_); (case hS => first | exact HS.out | exact fun _ h => HS.out _ h.1 | exact fun _ h => h | exact fun _ h => h.2 | exact fun _ h => h.1 | exact fun _ h => h.1.2 | exact fun _ h => h.1.1 | exact fun _ h => h.1.1.2 | exact fun _ h => h.1.1.1); rintro e _ ⟨A1, c1, rfl, hc1, hM⟩; have HC1 := Aside0.mk hc1; clear hc1; clear HM; have HM := Aside0.mk hM; clear hM))
      refine bodyPost_ret (ret_ct HM.out rfl rfl (by first | exact m0 | exact m1 | exact m2 | exact m3) (by exact agg64)) rfl ?_
      exact ⟨_, c, rfl, HC.out, (HM.out.drop.drop.drop).imp (fun w h => ⟨h.1, HS.out _ h.1⟩)⟩
    rw [if_pos h]
    subst h
    have HL1 := Aside0.mk (show q1.length ≤ 900000 by have := HPL.out.1; have := HUL.out; have := HCP.out.length; have := HL2.out; omega)
    have hq1 : 0 ≤ q2 := by have := HPL.out.2.1; have := HN.out.1; omega
    have hq2 : q2 ≤ 900000 := by have := HPL.out.2.2; have := HUL.out; have := HCP.out.length; have := HN.out.2; omega
    go_enter Tryd.func54, Tryd.ntmps54
    go_wp2_with (first|go_skip|((with_reducible refine gate_dst (N := 4) rfl ?_);(with_reducible refine' bn HM ?qw rfl _ ?qx ?_);(case qw|qx=>rfl);clear HM;intro g4 _ HM)|((with_reducible refine gate_dst (N := 8) rfl ?_);(with_reducible refine' bz HM ?qw rfl ?qa ?qc ?_);(case qw|qa|qc=>rfl);clear HM;intro g8 _ HM)|((with_reducible refine gate_dst (N := 11) rfl ?_);(with_reducible refine' bz HM ?qw rfl ?qa ?qc ?_);(case qw|qa|qc=>rfl);clear HM;intro g11 _ HM)|((with_reducible refine' lc HM ?qw rfl ?qx ?qm ?qa ?qv ?_);(case qw|qx|qa=>rfl);(case qm=>repeat constructor);(case qv=>rfl))|((with_reducible refine' la HM ?qw rfl ?qx ?qm ?qa ?_);(case qw|qx=>rfl);(case qm=>repeat constructor);(case qa=>rfl))|((with_reducible refine' pa HM ?qw rfl ?qx _ ?qy ?qm ?qa ?_);(case qw|qx|qy=>rfl);(case qm=>repeat constructor);(case qa=>rfl);clear HM;intro _ HM)|((with_reducible refine' pc HM ?qw rfl ?qx ?qa ?qy ?qm ?qo ?qi ?_);(case qw|qx|qa=>rfl);(case qy=>first|exact (rfl:_=Value.int _ _)|exact (rfl:_=Value.slice _ _ _)|exact (rfl:_=Value.string _)|exact (rfl:_=Value.bool _));(case qm=>repeat constructor);(case qo=>exact ⟨rfl,rfl⟩);(case qi=>rfl);clear HM;intro _ HM;try simp only [List.set_cons_zero,List.set_cons_succ] at HM)|(go_at_call 31; (refine (rfind_none HM.out ?hS HC.out HL.out HX.out).mono ?_); (case hS => first | exact HS.out | exact fun _ h => HS.out _ h.1 | exact fun _ h => h | exact fun _ h => h.2 | exact fun _ h => h.1 | exact fun _ h => h.1.2 | exact fun _ h => h.1.1 | exact fun _ h => h.1.1.2 | exact fun _ h => h.1.1.1); rintro e _ ⟨rfl, hM⟩; clear HM; have HM := Aside0.mk hM; clear hM)|(go_at_call 69; (refine (HPAR.out _ _ _ HM.out ?hS).mono ?_); (case hS => first | exact HS.out | exact fun _ h => HS.out _ h.1 | exact fun _ h => h | exact fun _ h => h.2 | exact fun _ h => h.1 | exact fun _ h => h.1.2 | exact fun _ h => h.1.1 | exact fun _ h => h.1.1.2 | exact fun _ h => h.1.1.1); rintro e _ ⟨A1, c1, rfl, hc1, hM⟩; have HC1 := Aside0.mk hc1; clear hc1; clear HM; have HM := Aside0.mk hM; clear hM)|((with_reducible refine' build_thing rfl rfl _ _ _ _ ?hx ?hy ?hz ?hu ?_); (case hx => rfl); (case hy => rfl); (case hz => rfl); (case hu => rfl))|(go_at_call 70; (refine (rwith_M HM.out ?hS HC1.out HL1.out).mono ?_); (case hS => first | exact HS.out | exact fun _ h => HS.out _ h.1 | exact fun _ h => h | exact fun _ h => h.2 | exact fun _ h => h.1 | exact fun _ h => h.1.2 | exact fun _ h => h.1.1 | exact fun _ h => h.1.1.2 | exact fun _ h => h.1.1.1); rintro e _ ⟨A2, c2, rfl, hc2, hM⟩; have HC2 := Aside0.mk hc2; clear hc2; clear HM; have HM := Aside0.mk hM; clear hM))
    refine bodyPost_ret (ret_ct HM.out rfl rfl (by first | exact m0 | exact m1 | exact m2 | exact m3) (by exact agg64)) rfl ?_
    exact ⟨A2, c2, rfl, HC2.out, (HM.out.drop.drop.drop).imp (fun w h => ⟨h.1.1, h.2⟩)⟩
  | some i =>
    have HX := Aside0.mk hx
    have hlt := ix_lt hx
    clear hx
    simp only
    have hlz : (i : Int) < (ws.length : Int) := by omega
    have hge0 : decide ((0 : Int) ≤ (i : Int)) = true := decide_eq_true (by omega)
    have HR : Aside0 (∀ w, S w → _) := ⟨fun w (h : S w) => at_T73 (HS.out w h) (i : Int) (by omega) (by omega)⟩
    rw [Int.toNat_natCast, rd_nat73] at HR
    generalize ws.getD i z73 = o at HR ⊢
    have hgo : (o.f1 == 4) = (kind == 4) ∨ (o.f1 == 4) ≠ (kind == 4) := Decidable.em _
    rcases hgo with hgo | hgo
    case inr =>
      have n4 : ((o.f1 == 4) != (kind == 4)) = true := bne_iff_ne.2 hgo
      have m4 : ((o.f1 == 4) == (kind == 4)) = false := beq_eq_false_iff_ne.2 hgo
      rw [if_pos n4]
      clear hgo
      go_enter Tryd.func54, Tryd.ntmps54
      go_upto_region 4 with (first|go_skip|((with_reducible refine gate_dst (N := 4) rfl ?_);(with_reducible refine' bn HM ?qw rfl _ ?qx ?_);(case qw|qx=>rfl);clear HM;intro g4 _ HM)|((with_reducible refine gate_dst (N := 8) rfl ?_);(with_reducible refine' bz HM ?qw rfl ?qa ?qc ?_);(case qw|qa|qc=>rfl);clear HM;intro g8 _ HM)|((with_reducible refine gate_dst (N := 11) rfl ?_);(with_reducible refine' bz HM ?qw rfl ?qa ?qc ?_);(case qw|qa|qc=>rfl);clear HM;intro g11 _ HM)|((with_reducible refine' lc HM ?qw rfl ?qx ?qm ?qa ?qv ?_);(case qw|qx|qa=>rfl);(case qm=>repeat constructor);(case qv=>rfl))|((with_reducible refine' la HM ?qw rfl ?qx ?qm ?qa ?_);(case qw|qx=>rfl);(case qm=>repeat constructor);(case qa=>rfl))|((with_reducible refine' pa HM ?qw rfl ?qx _ ?qy ?qm ?qa ?_);(case qw|qx|qy=>rfl);(case qm=>repeat constructor);(case qa=>rfl);clear HM;intro _ HM)|((with_reducible refine' pc HM ?qw rfl ?qx ?qa ?qy ?qm ?qo ?qi ?_);(case qw|qx|qa=>rfl);(case qy=>first|exact (rfl:_=Value.int _ _)|exact (rfl:_=Value.slice _ _ _)|exact (rfl:_=Value.string _)|exact (rfl:_=Value.bool _));(case qm=>repeat constructor);(case qo=>exact ⟨rfl,rfl⟩);(case qi=>rfl);clear HM;intro _ HM;try simp only [List.set_cons_zero,List.set_cons_succ] at HM)|(go_at_call 31; (refine (rfind_some HM.out ?hS HC.out HL.out HX.out).mono ?_); (case hS => first | exact HS.out | exact fun _ h => HS.out _ h.1 | exact fun _ h => h | exact fun _ h => h.2 | exact fun _ h => h.1 | exact fun _ h => h.1.2 | exact fun _ h => h.1.1 | exact fun _ h => h.1.1.2 | exact fun _ h => h.1.1.1); rintro e _ ⟨rfl, hM⟩; clear HM; have HM := Aside0.mk hM; clear hM))
      obtain ⟨ad, ea, hx0, hx1, hx2, hx3, hx4⟩ := HR.out _ HM.out.now
      subst ea
      go_wp2_with (first|go_skip|((with_reducible refine gate_dst (N := 4) rfl ?_);(with_reducible refine' bn HM ?qw rfl _ ?qx ?_);(case qw|qx=>rfl);clear HM;intro g4 _ HM)|((with_reducible refine gate_dst (N := 8) rfl ?_);(with_reducible refine' bz HM ?qw rfl ?qa ?qc ?_);(case qw|qa|qc=>rfl);clear HM;intro g8 _ HM)|((with_reducible refine gate_dst (N := 11) rfl ?_);(with_reducible refine' bz HM ?qw rfl ?qa ?qc ?_);(case qw|qa|qc=>rfl);clear HM;intro g11 _ HM)|((with_reducible refine' lc HM ?qw rfl ?qx ?qm ?qa ?qv ?_);(case qw|qx|qa=>rfl);(case qm=>repeat constructor);(case qv=>rfl))|((with_reducible refine' la HM ?qw rfl ?qx ?qm ?qa ?_);(case qw|qx=>rfl);(case qm=>repeat constructor);(case qa=>rfl))|((with_reducible refine' pa HM ?qw rfl ?qx _ ?qy ?qm ?qa ?_);(case qw|qx|qy=>rfl);(case qm=>repeat constructor);(case qa=>rfl);clear HM;intro _ HM)|((with_reducible refine' pc HM ?qw rfl ?qx ?qa ?qy ?qm ?qo ?qi ?_);(case qw|qx|qa=>rfl);(case qy=>first|exact (rfl:_=Value.int _ _)|exact (rfl:_=Value.slice _ _ _)|exact (rfl:_=Value.string _)|exact (rfl:_=Value.bool _));(case qm=>repeat constructor);(case qo=>exact ⟨rfl,rfl⟩);(case qi=>rfl);clear HM;intro _ HM;try simp only [List.set_cons_zero,List.set_cons_succ] at HM))
      refine bodyPost_ret (ret_ct HM.out rfl rfl (by first | exact m0 | exact m1 | exact m2 | exact m3) (by exact agg64)) rfl ?_
      exact ⟨_, c, rfl, HC.out, (HM.out.drop.drop).imp (fun w h => ⟨h, HS.out _ h⟩)⟩
    have n4 : ((o.f1 == 4) != (kind == 4)) = false := bne_eq_false_iff_eq.2 hgo
    have m4 : ((o.f1 == 4) == (kind == 4)) = true := beq_iff_eq.2 hgo
    rw [if_neg (by rw [n4]; simp)]
    by_cases h : q3 = 0
    case neg =>
      rw [if_neg h]
      clear hgo
      have b_e : (q3 == 0) = false := beq_eq_false_iff_ne.2 h
      have n_e : (q3 != 0) = true := bne_iff_ne.2 h
      clear h
      go_enter Tryd.func54, Tryd.ntmps54
      go_upto_region 4 with (first|go_skip|((with_reducible refine gate_dst (N := 4) rfl ?_);(with_reducible refine' bn HM ?qw rfl _ ?qx ?_);(case qw|qx=>rfl);clear HM;intro g4 _ HM)|((with_reducible refine gate_dst (N := 8) rfl ?_);(with_reducible refine' bz HM ?qw rfl ?qa ?qc ?_);(case qw|qa|qc=>rfl);clear HM;intro g8 _ HM)|((with_reducible refine gate_dst (N := 11) rfl ?_);(with_reducible refine' bz HM ?qw rfl ?qa ?qc ?_);(case qw|qa|qc=>rfl);clear HM;intro g11 _ HM)|((with_reducible refine' lc HM ?qw rfl ?qx ?qm ?qa ?qv ?_);(case qw|qx|qa=>rfl);(case qm=>repeat constructor);(case qv=>rfl))|((with_reducible refine' la HM ?qw rfl ?qx ?qm ?qa ?_);(case qw|qx=>rfl);(case qm=>repeat constructor);(case qa=>rfl))|((with_reducible refine' pa HM ?qw rfl ?qx _ ?qy ?qm ?qa ?_);(case qw|qx|qy=>rfl);(case qm=>repeat constructor);(case qa=>rfl);clear HM;intro _ HM)|((with_reducible refine' pc HM ?qw rfl ?qx ?qa ?qy ?qm ?qo ?qi ?_);(case qw|qx|qa=>rfl);(case qy=>first|exact (rfl:_=Value.int _ _)|exact (rfl:_=Value.slice _ _ _)|exact (rfl:_=Value.string _)|exact (rfl:_=Value.bool _));(case qm=>repeat constructor);(case qo=>exact ⟨rfl,rfl⟩);(case qi=>rfl);clear HM;intro _ HM;try simp only [List.set_cons_zero,List.set_cons_succ] at HM)|(go_at_call 31; (refine (rfind_some HM.out ?hS HC.out HL.out HX.out).mono ?_); (case hS => first | exact HS.out | exact fun _ h => HS.out _ h.1 | exact fun _ h => h | exact fun _ h => h.2 | exact fun _ h => h.1 | exact fun _ h => h.1.2 | exact fun _ h => h.1.1 | exact fun _ h => h.1.1.2 | exact fun _ h => h.1.1.1); rintro e _ ⟨rfl, hM⟩; clear HM; have HM := Aside0.mk hM; clear hM))
      obtain ⟨ad, ea, hx0, hx1, hx2, hx3, hx4⟩ := HR.out _ HM.out.now
      subst ea
      go_wp2_with (first|go_skip|((with_reducible refine gate_dst (N := 4) rfl ?_);(with_reducible refine' bn HM ?qw rfl _ ?qx ?_);(case qw|qx=>rfl);clear HM;intro g4 _ HM)|((with_reducible refine gate_dst (N := 8) rfl ?_);(with_reducible refine' bz HM ?qw rfl ?qa ?qc ?_);(case qw|qa|qc=>rfl);clear HM;intro g8 _ HM)|((with_reducible refine gate_dst (N := 11) rfl ?_);(with_reducible refine' bz HM ?qw rfl ?qa ?qc ?_);(case qw|qa|qc=>rfl);clear HM;intro g11 _ HM)|((with_reducible refine' lc HM ?qw rfl ?qx ?qm ?qa ?qv ?_);(case qw|qx|qa=>rfl);(case qm=>repeat constructor);(case qv=>rfl))|((with_reducible refine' la HM ?qw rfl ?qx ?qm ?qa ?_);(case qw|qx=>rfl);(case qm=>repeat constructor);(case qa=>rfl))|((with_reducible refine' pa HM ?qw rfl ?qx _ ?qy ?qm ?qa ?_);(case qw|qx|qy=>rfl);(case qm=>repeat constructor);(case qa=>rfl);clear HM;intro _ HM)|((with_reducible refine' pc HM ?qw rfl ?qx ?qa ?qy ?qm ?qo ?qi ?_);(case qw|qx|qa=>rfl);(case qy=>first|exact (rfl:_=Value.int _ _)|exact (rfl:_=Value.slice _ _ _)|exact (rfl:_=Value.string _)|exact (rfl:_=Value.bool _));(case qm=>repeat constructor);(case qo=>exact ⟨rfl,rfl⟩);(case qi=>rfl);clear HM;intro _ HM;try simp only [List.set_cons_zero,List.set_cons_succ] at HM)|(go_at_call 69; (refine (HPAR.out _ _ _ HM.out ?hS).mono ?_); (case hS => first | exact HS.out | exact fun _ h => HS.out _ h.1 | exact fun _ h => h | exact fun _ h => h.2 | exact fun _ h => h.1 | exact fun _ h => h.1.2 | exact fun _ h => h.1.1 | exact fun _ h => h.1.1.2 | exact fun _ h => h.1.1.1); rintro e _ ⟨A1, c1, rfl, hc1, hM⟩; have HC1 := Aside0.mk hc1; clear hc1; clear HM; have HM := Aside0.mk hM; clear hM))
      refine bodyPost_ret (ret_ct HM.out rfl rfl (by first | exact m0 | exact m1 | exact m2 | exact m3) (by exact agg64)) rfl ?_
      exact ⟨_, c, rfl, HC.out, (HM.out.drop.drop.drop).imp (fun w h => ⟨h.1, HS.out _ h.1⟩)⟩
    rw [if_pos h]
    subst h
    have HL1 := Aside0.mk (show q1.length ≤ 900000 by have := HPL.out.1; have := HUL.out; have := HCP.out.length; have := HL2.out; omega)
    have hq1 : 0 ≤ q2 := by have := HPL.out.2.1; have := HN.out.1; omega
    have hq2 : q2 ≤ 900000 := by have := HPL.out.2.2; have := HUL.out; have := HCP.out.length; have := HN.out.2; omega
    by_cases k4 : kind = 4
    case pos =>
      rw [if_pos k4]
      subst k4
      have o4 : (o.f1 == 4) = true := hgo
      clear hgo n4 m4
      go_enter Tryd.func54, Tryd.ntmps54
      go_upto_region 4 with (first|go_skip|((with_reducible refine gate_dst (N := 4) rfl ?_);(with_reducible refine' bn HM ?qw rfl _ ?qx ?_);(case qw|qx=>rfl);clear HM;intro g4 _ HM)|((with_reducible refine gate_dst (N := 8) rfl ?_);(with_reducible refine' bz HM ?qw rfl ?qa ?qc ?_);(case qw|qa|qc=>rfl);clear HM;intro g8 _ HM)|((with_reducible refine gate_dst (N := 11) rfl ?_);(with_reducible refine' bz HM ?qw rfl ?qa ?qc ?_);(case qw|qa|qc=>rfl);clear HM;intro g11 _ HM)|((with_reducible refine' lc HM ?qw rfl ?qx ?qm ?qa ?qv ?_);(case qw|qx|qa=>rfl);(case qm=>repeat constructor);(case qv=>rfl))|((with_reducible refine' la HM ?qw rfl ?qx ?qm ?qa ?_);(case qw|qx=>rfl);(case qm=>repeat constructor);(case qa=>rfl))|((with_reducible refine' pa HM ?qw rfl ?qx _ ?qy ?qm ?qa ?_);(case qw|qx|qy=>rfl);(case qm=>repeat constructor);(case qa=>rfl);clear HM;intro _ HM)|((with_reducible refine' pc HM ?qw rfl ?qx ?qa ?qy ?qm ?qo ?qi ?_);(case qw|qx|qa=>rfl);(case qy=>first|exact (rfl:_=Value.int _ _)|exact (rfl:_=Value.slice _ _ _)|exact (rfl:_=Value.string _)|exact (rfl:_=Value.bool _));(case qm=>repeat constructor);(case qo=>exact ⟨rfl,rfl⟩);(case qi=>rfl);clear HM;intro _ HM;try simp only [List.set_cons_zero,List.set_cons_succ] at HM)|(go_at_call 31; (refine (rfind_some HM.out ?hS HC.out HL.out HX.out).mono ?_); (case hS => first | exact HS.out | exact fun _ h => HS.out _ h.1 | exact fun _ h => h | exact fun _ h => h.2 | exact fun _ h => h.1 | exact fun _ h => h.1.2 | exact fun _ h => h.1.1 | exact fun _ h => h.1.1.2 | exact fun _ h => h.1.1.1); rintro e _ ⟨rfl, hM⟩; clear HM; have HM := Aside0.mk hM; clear hM))
      obtain ⟨ad, ea, hx0, hx1, hx2, hx3, hx4⟩ := HR.out _ HM.out.now
      subst ea
      go_upto_region 11 with (first|go_skip|((with_reducible refine gate_dst (N := 4) rfl ?_);(with_reducible refine' bn HM ?qw rfl _ ?qx ?_);(case qw|qx=>rfl);clear HM;intro g4 _ HM)|((with_reducible refine gate_dst (N := 8) rfl ?_);(with_reducible refine' bz HM ?qw rfl ?qa ?qc ?_);(case qw|qa|qc=>rfl);clear HM;intro g8 _ HM)|((with_reducible refine gate_dst (N := 11) rfl ?_);(with_reducible refine' bz HM ?qw rfl ?qa ?qc ?_);(case qw|qa|qc=>rfl);clear HM;intro g11 _ HM)|((with_reducible refine' lc HM ?qw rfl ?qx ?qm ?qa ?qv ?_);(case qw|qx|qa=>rfl);(case qm=>repeat constructor);(case qv=>rfl))|((with_reducible refine' la HM ?qw rfl ?qx ?qm ?qa ?_);(case qw|qx=>rfl);(case qm=>repeat constructor);(case qa=>rfl))|((with_reducible refine' pa HM ?qw rfl ?qx _ ?qy ?qm ?qa ?_);(case qw|qx|qy=>rfl);(case qm=>repeat constructor);(case qa=>rfl);clear HM;intro _ HM)|((with_reducible refine' pc HM ?qw rfl ?qx ?qa ?qy ?qm ?qo ?qi ?_);(case qw|qx|qa=>rfl);(case qy=>first|exact (rfl:_=Value.int _ _)|exact (rfl:_=Value.slice _ _ _)|exact (rfl:_=Value.string _)|exact (rfl:_=Value.bool _));(case qm=>repeat constructor);(case qo=>exact ⟨rfl,rfl⟩);(case qi=>rfl);clear HM;intro _ HM;try simp only [List.set_cons_zero,List.set_cons_succ] at HM)|(go_at_call 69; (refine (HPAR.out _ _ _ HM.out ?hS).mono ?_); (case hS => first | exact HS.out | exact fun _ h => HS.out _ h.1 | exact fun _ h => h | exact fun _ h => h.2 | exact fun _ h => h.1 | exact fun _ h => h.1.2 | exact fun _ h => h.1.1 | exact fun _ h => h.1.1.2 | exact fun _ h => h.1.1.1); rintro e _ ⟨A1, c1, rfl, hc1, hM⟩; have HC1 := Aside0.mk hc1; clear hc1; clear HM; have HM := Aside0.mk hM; clear hM))
      clear hx0 hx1 hx2 hx3 hx4
      obtain ⟨ad2, ea, hx0, hx1, hx2, hx3, hx4⟩ := HR.out _ HM.out.now.1
      obtain rfl := Option.some.inj ea
      go_wp2_with (first|go_skip|((with_reducible refine gate_dst (N := 4) rfl ?_);(with_reducible refine' bn HM ?qw rfl _ ?qx ?_);(case qw|qx=>rfl);clear HM;intro g4 _ HM)|((with_reducible refine gate_dst (N := 8) rfl ?_);(with_reducible refine' bz HM ?qw rfl ?qa ?qc ?_);(case qw|qa|qc=>rfl);clear HM;intro g8 _ HM)|((with_reducible refine gate_dst (N := 11) rfl ?_);(with_reducible refine' bz HM ?qw rfl ?qa ?qc ?_);(case qw|qa|qc=>rfl);clear HM;intro g11 _ HM)|((with_reducible refine' lc HM ?qw rfl ?qx ?qm ?qa ?qv ?_);(case qw|qx|qa=>rfl);(case qm=>repeat constructor);(case qv=>rfl))|((with_reducible refine' la HM ?qw rfl ?qx ?qm ?qa ?_);(case qw|qx=>rfl);(case qm=>repeat constructor);(case qa=>rfl))|((with_reducible refine' pa HM ?qw rfl ?qx _ ?qy ?qm ?qa ?_);(case qw|qx|qy=>rfl);(case qm=>repeat constructor);(case qa=>rfl);clear HM;intro _ HM)|((with_reducible refine' pc HM ?qw rfl ?qx ?qa ?qy ?qm ?qo ?qi ?_);(case qw|qx|qa=>rfl);(case qy=>first|exact (rfl:_=Value.int _ _)|exact (rfl:_=Value.slice _ _ _)|exact (rfl:_=Value.string _)|exact (rfl:_=Value.bool _));(case qm=>repeat constructor);(case qo=>exact ⟨rfl,rfl⟩);(case qi=>rfl);clear HM;intro _ HM;try simp only [List.set_cons_zero,List.set_cons_succ] at HM)|((with_reducible refine' build_thing rfl rfl _ _ _ _ ?hx ?hy ?hz ?hu ?_); (case hx => rfl); (case hy => rfl); (case hz => rfl); (case hu => rfl))|(go_at_call 70; (refine (rwith_M HM.out ?hS HC1.out HL1.out).mono ?_); (case hS => first | exact HS.out | exact fun _ h => HS.out _ h.1 | exact fun _ h => h | exact fun _ h => h.2 | exact fun _ h => h.1 | exact fun _ h => h.1.2 | exact fun _ h => h.1.1 | exact fun _ h => h.1.1.2 | exact fun _ h => h.1.1.1); rintro e _ ⟨A2, c2, rfl, hc2, hM⟩; have HC2 := Aside0.mk hc2; clear hc2; clear HM; have HM := Aside0.mk hM; clear hM))
      refine bodyPost_ret (ret_ct HM.out rfl rfl (by first | exact m0 | exact m1 | exact m2 | exact m3) (by exact agg64)) rfl ?_
      exact ⟨A2, c2, rfl, HC2.out, (HM.out.drop.drop.drop).imp (fun w h => ⟨h.1.1, h.2⟩)⟩
    rw [if_neg k4]
    have k4b : (kind == 4) = false := beq_eq_false_iff_ne.2 k4
    have o4 : (o.f1 == 4) = false := hgo.trans k4b
    clear hgo n4 m4 k4
    go_enter Tryd.func54, Tryd.ntmps54
    go_upto_region 4 with (first|go_skip|((with_reducible refine gate_dst (N := 4) rfl ?_);(with_reducible refine' bn HM ?qw rfl _ ?qx ?_);(case qw|qx=>rfl);clear HM;intro g4 _ HM)|((with_reducible refine gate_dst (N := 8) rfl ?_);(with_reducible refine' bz HM ?qw rfl ?qa ?qc ?_);(case qw|qa|qc=>rfl);clear HM;intro g8 _ HM)|((with_reducible refine gate_dst (N := 11) rfl ?_);(with_reducible refine' bz HM ?qw rfl ?qa ?qc ?_);(case qw|qa|qc=>rfl);clear HM;intro g11 _ HM)|((with_reducible refine' lc HM ?qw rfl ?qx ?qm ?qa ?qv ?_);(case qw|qx|qa=>rfl);(case qm=>repeat constructor);(case qv=>rfl))|((with_reducible refine' la HM ?qw rfl ?qx ?qm ?qa ?_);(case qw|qx=>rfl);(case qm=>repeat constructor);(case qa=>rfl))|((with_reducible refine' pa HM ?qw rfl ?qx _ ?qy ?qm ?qa ?_);(case qw|qx|qy=>rfl);(case qm=>repeat constructor);(case qa=>rfl);clear HM;intro _ HM)|((with_reducible refine' pc HM ?qw rfl ?qx ?qa ?qy ?qm ?qo ?qi ?_);(case qw|qx|qa=>rfl);(case qy=>first|exact (rfl:_=Value.int _ _)|exact (rfl:_=Value.slice _ _ _)|exact (rfl:_=Value.string _)|exact (rfl:_=Value.bool _));(case qm=>repeat constructor);(case qo=>exact ⟨rfl,rfl⟩);(case qi=>rfl);clear HM;intro _ HM;try simp only [List.set_cons_zero,List.set_cons_succ] at HM)|(go_at_call 31; (refine (rfind_some HM.out ?hS HC.out HL.out HX.out).mono ?_); (case hS => first | exact HS.out | exact fun _ h => HS.out _ h.1 | exact fun _ h => h | exact fun _ h => h.2 | exact fun _ h => h.1 | exact fun _ h => h.1.2 | exact fun _ h => h.1.1 | exact fun _ h => h.1.1.2 | exact fun _ h => h.1.1.1); rintro e _ ⟨rfl, hM⟩; clear HM; have HM := Aside0.mk hM; clear hM))
    obtain ⟨ad, ea, hx0, hx1, hx2, hx3, hx4⟩ := HR.out _ HM.out.now
    subst ea
    go_wp2_with (first|go_skip|((with_reducible refine gate_dst (N := 4) rfl ?_);(with_reducible refine' bn HM ?qw rfl _ ?qx ?_);(case qw|qx=>rfl);clear HM;intro g4 _ HM)|((with_reducible refine gate_dst (N := 8) rfl ?_);(with_reducible refine' bz HM ?qw rfl ?qa ?qc ?_);(case qw|qa|qc=>rfl);clear HM;intro g8 _ HM)|((with_reducible refine gate_dst (N := 11) rfl ?_);(with_reducible refine' bz HM ?qw rfl ?qa ?qc ?_);(case qw|qa|qc=>rfl);clear HM;intro g11 _ HM)|((with_reducible refine' lc HM ?qw rfl ?qx ?qm ?qa ?qv ?_);(case qw|qx|qa=>rfl);(case qm=>repeat constructor);(case qv=>rfl))|((with_reducible refine' la HM ?qw rfl ?qx ?qm ?qa ?_);(case qw|qx=>rfl);(case qm=>repeat constructor);(case qa=>rfl))|((with_reducible refine' pa HM ?qw rfl ?qx _ ?qy ?qm ?qa ?_);(case qw|qx|qy=>rfl);(case qm=>repeat constructor);(case qa=>rfl);clear HM;intro _ HM)|((with_reducible refine' pc HM ?qw rfl ?qx ?qa ?qy ?qm ?qo ?qi ?_);(case qw|qx|qa=>rfl);(case qy=>first|exact (rfl:_=Value.int _ _)|exact (rfl:_=Value.slice _ _ _)|exact (rfl:_=Value.string _)|exact (rfl:_=Value.bool _));(case qm=>repeat constructor);(case qo=>exact ⟨rfl,rfl⟩);(case qi=>rfl);clear HM;intro _ HM;try simp only [List.set_cons_zero,List.set_cons_succ] at HM)|(go_at_call 69; (refine (HPAR.out _ _ _ HM.out ?hS).mono ?_); (case hS => first | exact HS.out | exact fun _ h => HS.out _ h.1 | exact fun _ h => h | exact fun _ h => h.2 | exact fun _ h => h.1 | exact fun _ h => h.1.2 | exact fun _ h => h.1.1 | exact fun _ h => h.1.1.2 | exact fun _ h => h.1.1.1); rintro e _ ⟨A1, c1, rfl, hc1, hM⟩; have HC1 := Aside0.mk hc1; clear hc1; clear HM; have HM := Aside0.mk hM; clear hM)|((with_reducible refine' build_thing rfl rfl _ _ _ _ ?hx ?hy ?hz ?hu ?_); (case hx => rfl); (case hy => rfl); (case hz => rfl); (case hu => rfl))|(go_at_call 70; (refine (rwith_M HM.out ?hS HC1.out HL1.out).mono ?_); (case hS => first | exact HS.out | exact fun _ h => HS.out _ h.1 | exact fun _ h => h | exact fun _ h => h.2 | exact fun _ h => h.1 | exact fun _ h => h.1.2 | exact fun _ h => h.1.1 | exact fun _ h => h.1.1.2 | exact fun _ h => h.1.1.1); rintro e _ ⟨A2, c2, rfl, hc2, hM⟩; have HC2 := Aside0.mk hc2; clear hc2; clear HM; have HM := Aside0.mk hM; clear hM))
    refine bodyPost_ret (ret_ct HM.out rfl rfl (by first | exact m0 | exact m1 | exact m2 | exact m3) (by exact agg64)) rfl ?_
    exact ⟨A2, c2, rfl, HC2.out, (HM.out.drop.drop.drop).imp (fun w h => ⟨h.1.1, h.2⟩)⟩
end Go.Proofs.YtolpamojbiipaaaDoor.XA
