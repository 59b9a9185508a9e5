/- tree.Set, walked by hand over Mem. Printed by wip/tools/gen_set.py. -/
import Derived.Test.YtolpamojbiipaaaDoorEMemClone
import Derived.Test.YtolpamojbiipaaaDoorEMemS
import Derived.Test.YtolpamojbiipaaaDoorEMemGen
import Derived.Test.YtolpamojbiipaaaDoorUMore
namespace Go.Proofs.YtolpamojbiipaaaDoor.XA
open Go.RowKit Go.Proofs.YtolpamojbiipaaaDoorW.PrintWords Go.Proofs.YtolpamojbiipaaaDoorW.PrintLast Go.Proofs.YtolpamojbiipaaaDoorW.PrintMore Go.Proofs.YtolpamojbiipaaaDoor.Mem Go.Proofs.YtolpamojbiipaaaDoor.Pure
set_option linter.unusedVariables false
set_option linter.unusedSimpArgs false

def setTo (id sz : Int) (l : List S44) (i : Nat) : List S44 := (l.take i).map (setR id sz) ++ l.drop i
theorem setTo_pre (id sz : Int) (l : List S44) (i : Nat) (hi : i ≤ l.length) : ((l.take i).map (setR id sz)).length = i := by rw [List.length_map, List.length_take]; omega
theorem setTo_len (id sz : Int) (l : List S44) (i : Nat) (hi : i ≤ l.length) : (setTo id sz l i).length = l.length := by unfold setTo; rw [List.length_append, setTo_pre id sz l i hi, List.length_drop]; omega
theorem setTo_at (id sz : Int) (l : List S44) (i : Nat) (hi : i < l.length) : (setTo id sz l i)[i]? = some l[i] := by
  have hl := setTo_pre id sz l i (Nat.le_of_lt hi)
  unfold setTo
  rw [List.getElem?_append_right (by omega), hl, Nat.sub_self, List.getElem?_drop, Nat.add_zero, List.getElem?_eq_getElem hi]
theorem setTo_next (id sz : Int) (l : List S44) (i : Nat) (hi : i < l.length) : (setTo id sz l i).set i (setR id sz l[i]) = setTo id sz l (i + 1) := by
  have hl := setTo_pre id sz l i (Nat.le_of_lt hi)
  unfold setTo
  rw [List.take_succ_eq_append_getElem hi, List.drop_eq_getElem_cons hi, List.set_append_right _ _ (by omega), hl, Nat.sub_self, List.map_append, List.append_assoc]
  rfl
theorem setTo_same (id sz : Int) (l : List S44) (i : Nat) (hi : i < l.length) (h : ¬ (l[i].f1 = id ∧ l[i].f2.f0 = 1)) : setTo id sz l i = setTo id sz l (i + 1) := by
  rw [← setTo_next id sz l i hi, setR_not h]
  have h2 := setTo_at id sz l i hi
  apply List.ext_getElem?
  intro k
  rw [List.getElem?_set]
  split
  · rename_i e
    subst e
    rw [h2]
    split
    · rfl
    · rename_i hn; rw [setTo_len id sz l i (Nat.le_of_lt hi)] at hn; exact absurd hi hn
  · rfl
theorem setTo_end (id sz : Int) (l : List S44) : setTo id sz l l.length = setL id sz l := by unfold setTo setL; simp
theorem setL_len (id sz : Int) (l : List S44) : (setL id sz l).length = l.length := by unfold setL; exact List.length_map _
/-- A part of a box written. -/
theorem ppt {w0 W : World} {P : Nat → Prop} {B B' : List Bx} {S : World → Prop} {g i : Nat} {cs vs : List Value} {t ty : TypeId} {ops : Array Oper} {rest : List Oper} {o : Oper} {a : Act} {Q : Exit → Act → World → Prop} {x y : Operand} (HM : Aside0 (Mem w0 P W B S)) (hw : Region.wanted o (yielded ops a.tmps) = true) (ho : o.op = .store ty x y) (hx : a.eval x = .pointer (some ⟨g, i, none⟩)) (hy : a.eval y = .agg vs.toArray) (hm : Upd g cs t (cs.take i ++ vs ++ cs.drop (i + vs.length)) B B')
    (ha : (sizN ty == vs.length && (vs.length != 0 && vs.all (fun u => u.oneCell'))) = true) (hi : i + vs.length ≤ cs.length) (h : ∀ W1, Aside0 (Mem w0 P W1 B' S) → wpList Tryd.prog ops Q rest (a.put o.dst undef) W1) : wpList Tryd.prog ops Q (o :: rest) a W := by
  simp only [Bool.and_eq_true, beq_iff_eq, bne_iff_ne] at ha
  obtain ⟨n, h1, rfl⟩ := hm.at
  exact store_part HM.out hw ho hx h1 vs hy (siz_of ha.1 ha.2.1).2.1 (fun u hu => List.all_eq_true.1 ha.2.2 u hu) hi (fun W1 hM => h W1 ⟨hM⟩)

set_option maxHeartbeats 8000000 in
set_option maxRecDepth 100000 in
theorem set_M {w0 W : World} {P : Nat → Prop} {B : List Bx} {S : World → Prop} {A : Option Addr} {c : Nat} {l : List S44} {n id sz : Int} (hM : Mem w0 P W B S) (hS : ∀ w, S w → Tr A l w) (hl : l.length ≤ 900000) :
    Calls Tryd.prog 25 #[.agg #[.slice A l.length c, .int .i64 n], .int .i64 id, .agg #[.slice none 0 0, .int .i64 sz]] W fun e w' => ∃ A' c', e = .returned (.agg #[.slice A' (setL id sz l).length c', .int .i64 n]) ∧ (setL id sz l).length ≤ c' ∧ Mem w0 P w' B (fun w => S w ∧ Tr A' (setL id sz l) w) := by
  have HM := Aside0.mk hM
  have HS := Aside0.mk hS
  have HL := Aside0.mk (show l.length ≤ 1000000 by omega)
  have hlz0 : (l.length : Int) ≤ 900000 := by omega
  clear hM hS hl
  go_enter Tryd.func25, Tryd.ntmps25
  go_wp2_with (first|go_skip|((with_reducible refine gate_dst (N := 3) rfl ?_);(with_reducible refine' bn HM ?qw rfl _ ?qx ?_);(case qw|qx=>rfl);clear HM;intro g3 _ HM)|((with_reducible refine gate_dst (N := 5) rfl ?_);(with_reducible refine' bn HM ?qw rfl _ ?qx ?_);(case qw|qx=>rfl);clear HM;intro g5 _ HM)|((with_reducible refine gate_dst (N := 6) rfl ?_);(with_reducible refine' bz HM ?qw rfl ?qa ?qc ?_);(case qw|qa|qc=>rfl);clear HM;intro g6 _ HM)|((with_reducible refine' lc HM ?qw rfl ?qx ?qm ?qa ?qv ?_);(case qw|qx|qa=>rfl);(case qm=>repeat constructor);(case qv=>rfl))|((with_reducible refine' la HM ?qw rfl ?qx ?qm ?qa ?_);(case qw|qx=>rfl);(case qm=>repeat constructor);(case qa=>rfl))|((with_reducible refine' pa HM ?qw rfl ?qx _ ?qy ?qm ?qa ?_);(case qw|qx|qy=>rfl);(case qm=>repeat constructor);(case qa=>rfl);clear HM;intro _ HM)|((with_reducible refine' pc HM ?qw rfl ?qx ?qa ?qy ?qm ?qo ?qi ?_);(case qw|qx|qa=>rfl);(case qy=>first|exact (rfl:_=Value.int _ _)|exact (rfl:_=Value.slice _ _ _)|exact (rfl:_=Value.string _)|exact (rfl:_=Value.bool _));(case qm=>repeat constructor);(case qo=>exact ⟨rfl,rfl⟩);(case qi=>rfl);clear HM;intro _ HM;try simp only [List.set_cons_zero,List.set_cons_succ] at HM)|(go_at_call 50; (refine (clone_M HM.out HS.out HL.out).mono ?_); rintro e _ ⟨v, X, rfl, hO, hM⟩; obtain ⟨Ao, co, rfl⟩ := hO.slice; simp only [List.cons_append, List.nil_append] at hM; have HOW := Aside0.mk hO; clear hO; clear HM;have HM:=Aside0.mk hM;clear hM))
  have HM2 : Mem w0 P _ (X ++ ((g6, zerL 35, 35) :: (g5, [.slice none 0 0, .int .i64 sz], 40) :: (g3, [.slice Ao l.length co, .int .i64 n], 35) :: B)) S := HM.out.perm (List.perm_append_comm (l₁ := (g6, zerL 35, 35) :: (g5, [.slice none 0 0, .int .i64 sz], 40) :: (g3, [.slice Ao l.length co, .int .i64 n], 35) :: B) (l₂ := X))
  clear HM
  have HM := Aside0.mk HM2
  clear HM2
  go_loopw [15] (fun v15 wr => ∃ (i : Nat) (L : List S44) (X : List Bx), v15 = .int .i64 i ∧ Aside0 (i ≤ l.length) ∧ Aside0 (L = setTo id sz l i) ∧ Aside0 (OwnB 44 13 (.slice Ao l.length co) l.length (cellsL L) X) ∧
    Aside0 (Mem w0 P wr (X ++ ((g6, zerL 35, 35) :: (g5, [.slice none 0 0, .int .i64 sz], 40) :: (g3, [.slice Ao l.length co, .int .i64 n], 35) :: B)) S)) (fun v15 _ => l.length - (intOf v15).toNat)
  case atStart => exact ⟨0, l, X, rfl, ⟨Nat.zero_le _⟩, ⟨by simp [setTo]⟩, HOW, HM⟩
  case round =>
    clear HM HOW
    obtain ⟨i, L, X, rfl, HIX, HE, HOW, HM⟩ := hrel
    have hib : (i : Int) ≤ 900000 := by have := HIX.out; omega
    by_cases hlt : i < l.length
    · have hlz : (i : Int) < (l.length : Int) := by omega
      obtain ⟨g, cap, sp, rfl, h1, h2, h3⟩ : ∃ g cap sp, Ao = some ⟨g, 0, none⟩ ∧ X = [(g, cellsL L ++ sp, 44)] ∧ co = cap ∧ ((cellsL L).length = l.length * 13 ∧ (cellsL L ++ sp).length = cap * 13 ∧ l.length ≤ cap ∧ cap ≤ maxLen) := by
        rcases HOW.out with ⟨_, hn, _⟩ | ⟨g, cap, sp, e, hX, hr⟩
        · omega
        · injection e with e1 e2 e3
          exact ⟨g, cap, sp, e1, hX, e3, hr⟩
      subst h1 h2
      have hLl : L.length = l.length := by rw [HE.out, setTo_len id sz l i (Nat.le_of_lt hlt)]
      have hLi : L[i]'(by omega) = l[i] := by
        have := setTo_at id sz l i hlt
        rw [← HE.out, List.getElem?_eq_getElem (by omega)] at this
        exact Option.some.inj this
      have HV1 := Aside0.mk (cell_at L sp i 1 (by omega) (by omega))
      have HV2 := Aside0.mk (cell_at L sp i 2 (by omega) (by omega))
      rw [hLi] at HV1 HV2
      have HLN := Aside0.mk (show i * 13 + 10 + 2 ≤ (cellsL L ++ sp).length by rw [List.length_append, h3.1]; omega)
      have HPUT := fun r' => cells_put L sp [.slice none 0 0, .int .i64 sz] i 10 r' (by omega) (by simp)
      rw [hLi] at HPUT
      have HM2 := HM.out
      simp only [List.cons_append, List.nil_append] at HM2
      clear HM HOW
      have HM := Aside0.mk HM2
      clear HM2
      have HNX := Aside0.mk (setTo_next id sz l i hlt)
      have HSM := Aside0.mk (setTo_same id sz l i hlt)
      have HO2 : ∀ L2 : List S44, L2.length = l.length → Aside0 (OwnB 44 13 (.slice (some ⟨g, 0, none⟩) l.length co) l.length (cellsL L2) [(g, cellsL L2 ++ sp, 44)]) := fun L2 h2 => ⟨.inr ⟨g, co, sp, rfl, rfl, by rw [cellsL_len, h2], by have := h3.2.1; rw [List.length_append, cellsL_len] at this ⊢; rw [h2, ← hLl]; exact this, h3.2.2.1, h3.2.2.2⟩⟩
      generalize l[i] = y at HV1 HV2 HPUT HNX HSM hLi
      by_cases hk : y.f1 = id ∧ y.f2.f0 = 1
      · have HP := Aside0.mk (HPUT (setR id sz y) (by unfold setR; rw [if_pos hk]; rfl))
        have HRL : Aside0 (L.set i (setR id sz y) = setTo id sz l (i + 1)) := ⟨by rw [HE.out]; exact HNX.out⟩
        have HO3 := HO2 (L.set i (setR id sz y)) (by rw [List.length_set]; exact hLl)
        have k1 : (y.f1 == id) = true := beq_iff_eq.2 hk.1
        have k2 : (y.f2.f0 == 1) = true := beq_iff_eq.2 hk.2
        clear hk HPUT HNX HSM HO2 h3 hLl hLi
        go_wp2_with (first|go_skip|((with_reducible refine' lc HM ?qw rfl ?qx ?qm ?qa ?qv ?_);(case qw|qx|qa=>rfl);(case qm=>repeat constructor);(case qv=>first|rfl|exact HV1.out|exact HV2.out))|((with_reducible refine' ppt HM ?qw rfl ?qx ?qy ?qm ?qa ?qi ?_);(case qw|qx|qy=>rfl);(case qm=>repeat constructor);(case qa=>rfl);(case qi=>exact HLN.out);clear HM;intro _ HM)|((with_reducible refine' la HM ?qw rfl ?qx ?qm ?qa ?_);(case qw|qx=>rfl);(case qm=>repeat constructor);(case qa=>rfl))|((with_reducible refine' pa HM ?qw rfl ?qx _ ?qy ?qm ?qa ?_);(case qw|qx|qy=>rfl);(case qm=>repeat constructor);(case qa=>rfl);clear HM;intro _ HM)|((with_reducible refine' pc HM ?qw rfl ?qx ?qa ?qy ?qm ?qo ?qi ?_);(case qw|qx|qa=>rfl);(case qy=>first|exact (rfl:_=Value.int _ _)|exact (rfl:_=Value.slice _ _ _)|exact (rfl:_=Value.string _)|exact (rfl:_=Value.bool _));(case qm=>repeat constructor);(case qo=>exact ⟨rfl,rfl⟩);(case qi=>rfl);clear HM;intro _ HM;try simp only [List.set_cons_zero,List.set_cons_succ] at HM))
        have HM2 := HM.out
        rw [HP.out] at HM2
        go_roundw
        case rel => exact ⟨i + 1, _, _, by go_num, ⟨by omega⟩, HRL, HO3, ⟨HM2⟩⟩
        case measure => simp [intOf]; omega
      · have HRL : Aside0 (L = setTo id sz l (i + 1)) := ⟨by rw [HE.out]; exact HSM.out hk⟩
        have HO3 := HO2 L hLl
        clear HPUT HNX HSM HO2 h3 hLl hLi
        by_cases hk1 : y.f1 = id
        · have k1 : (y.f1 == id) = true := beq_iff_eq.2 hk1
          have k2 : (y.f2.f0 == 1) = false := beq_eq_false_iff_ne.2 (fun e => hk ⟨hk1, e⟩)
          clear hk hk1
          go_wp2_with (first|go_skip|((with_reducible refine' lc HM ?qw rfl ?qx ?qm ?qa ?qv ?_);(case qw|qx|qa=>rfl);(case qm=>repeat constructor);(case qv=>first|rfl|exact HV1.out|exact HV2.out))|((with_reducible refine' la HM ?qw rfl ?qx ?qm ?qa ?_);(case qw|qx=>rfl);(case qm=>repeat constructor);(case qa=>rfl))|((with_reducible refine' pa HM ?qw rfl ?qx _ ?qy ?qm ?qa ?_);(case qw|qx|qy=>rfl);(case qm=>repeat constructor);(case qa=>rfl);clear HM;intro _ HM)|((with_reducible refine' pc HM ?qw rfl ?qx ?qa ?qy ?qm ?qo ?qi ?_);(case qw|qx|qa=>rfl);(case qy=>first|exact (rfl:_=Value.int _ _)|exact (rfl:_=Value.slice _ _ _)|exact (rfl:_=Value.string _)|exact (rfl:_=Value.bool _));(case qm=>repeat constructor);(case qo=>exact ⟨rfl,rfl⟩);(case qi=>rfl);clear HM;intro _ HM;try simp only [List.set_cons_zero,List.set_cons_succ] at HM))
          go_roundw
          case rel => exact ⟨i + 1, _, _, by go_num, ⟨by omega⟩, HRL, HO3, HM⟩
          case measure => simp [intOf]; omega
        · have k1 : (y.f1 == id) = false := beq_eq_false_iff_ne.2 hk1
          clear hk hk1
          go_wp2_with (first|go_skip|((with_reducible refine' lc HM ?qw rfl ?qx ?qm ?qa ?qv ?_);(case qw|qx|qa=>rfl);(case qm=>repeat constructor);(case qv=>first|rfl|exact HV1.out|exact HV2.out))|((with_reducible refine' la HM ?qw rfl ?qx ?qm ?qa ?_);(case qw|qx=>rfl);(case qm=>repeat constructor);(case qa=>rfl))|((with_reducible refine' pa HM ?qw rfl ?qx _ ?qy ?qm ?qa ?_);(case qw|qx|qy=>rfl);(case qm=>repeat constructor);(case qa=>rfl);clear HM;intro _ HM)|((with_reducible refine' pc HM ?qw rfl ?qx ?qa ?qy ?qm ?qo ?qi ?_);(case qw|qx|qa=>rfl);(case qy=>first|exact (rfl:_=Value.int _ _)|exact (rfl:_=Value.slice _ _ _)|exact (rfl:_=Value.string _)|exact (rfl:_=Value.bool _));(case qm=>repeat constructor);(case qo=>exact ⟨rfl,rfl⟩);(case qi=>rfl);clear HM;intro _ HM;try simp only [List.set_cons_zero,List.set_cons_succ] at HM))
          go_roundw
          case rel => exact ⟨i + 1, _, _, by go_num, ⟨by omega⟩, HRL, HO3, HM⟩
          case measure => simp [intOf]; omega
    · have hil : i = l.length := by have := HIX.out; omega
      have hlz : ¬ ((i : Int) < (l.length : Int)) := by omega
      have HE2 : Aside0 (L = setL id sz l) := ⟨by rw [HE.out, hil, setTo_end]⟩
      clear hil HE
      have HM2 := HM.out.perm (B' := ((g6, zerL 35, 35) :: (g5, [.slice none 0 0, .int .i64 sz], 40) :: (g3, [.slice Ao l.length co, .int .i64 n], 35) :: B) ++ X) List.perm_append_comm
      simp only [List.cons_append, List.nil_append] at HM2
      clear HM
      have HM := Aside0.mk HM2
      clear HM2
      go_wp2_with (first|go_skip|((with_reducible refine' lc HM ?qw rfl ?qx ?qm ?qa ?qv ?_);(case qw|qx|qa=>rfl);(case qm=>repeat constructor);(case qv=>rfl))|((with_reducible refine' la HM ?qw rfl ?qx ?qm ?qa ?_);(case qw|qx=>rfl);(case qm=>repeat constructor);(case qa=>rfl))|((with_reducible refine' pa HM ?qw rfl ?qx _ ?qy ?qm ?qa ?_);(case qw|qx|qy=>rfl);(case qm=>repeat constructor);(case qa=>rfl);clear HM;intro _ HM)|((with_reducible refine' pc HM ?qw rfl ?qx ?qa ?qy ?qm ?qo ?qi ?_);(case qw|qx|qa=>rfl);(case qy=>first|exact (rfl:_=Value.int _ _)|exact (rfl:_=Value.slice _ _ _)|exact (rfl:_=Value.string _)|exact (rfl:_=Value.bool _));(case qm=>repeat constructor);(case qo=>exact ⟨rfl,rfl⟩);(case qi=>rfl);clear HM;intro _ HM;try simp only [List.set_cons_zero,List.set_cons_succ] at HM))
      have hO := HOW.out
      have hlL : L.length = l.length := by rw [HE2.out, setL_len]
      rw [← hlL] at hO
      obtain ⟨A', c', hv, hc', hM'⟩ := hand (B := _ :: _ :: _ :: B) (by simpa only [List.cons_append] using HM.out) hO
      injection hv with e1 e2 e3
      subst e1 e3
      refine bodyPost_ret (ret_c HM.out rfl rfl (by exact m0) (by exact agg35)) rfl ?_
      rw [hlL, HE2.out] at *
      exact ⟨_, _, by rw [setL_len], by rw [setL_len]; exact hc', hM'.drop.drop.drop⟩
end Go.Proofs.YtolpamojbiipaaaDoor.XA
