/- WholeTree's walk over Mem. Printed by wip/tools/gen_whole_tree.py. -/
import Derived.Test.YtolpamojbiipaaaDoorEMemTexts
import Derived.Test.YtolpamojbiipaaaDoorEMemBack
import Derived.Test.YtolpamojbiipaaaDoorEMemRelG
namespace Go.Proofs.YtolpamojbiipaaaDoor.XA
open Go.RowKit Go.Proofs.YtolpamojbiipaaaDoorW.PrintWords Go.Proofs.YtolpamojbiipaaaDoorW.PrintLast Go.Proofs.YtolpamojbiipaaaDoorW.PrintMore Go.Proofs.YtolpamojbiipaaaDoor.Mem Go.Proofs.YtolpamojbiipaaaDoor.Pure
set_option linter.unusedVariables false
set_option linter.unusedSimpArgs false

def wt15r14T : Bool × List (List Nat × List Nat) := (true, [([], []), ([], []), ([1], [1]), ([], []), ([], []), ([3, 4], [3, 4]), ([5], [5]), ([6], [6]), ([0, 2, 7, 2], [0, 2, 7]), ([8], [8]), ([9], [9]), ([9], [9]), ([10, 8, 0, 1, 2, 3, 4, 5, 6, 7, 8, 9, 10], [10])])
def wt15r14B : List Nat := [0, 0, 2, 0, 0, 24, 56, 120, 255, 511, 1023, 1023, 2047]
theorem wt15r14Tab : rtab .any (opsOf Tryd.f15 14) = wt15r14T := by kernel_rfl
theorem wt15r14Bits : waitsOk wt15r14T.2 wt15r14B = true := by kernel_rfl
def ndT (k : Int) : S42 := ⟨k, 0, 0, 0, 0, ⟨#[]⟩, ⟨#[]⟩, ⟨#[]⟩, ⟨(), 0⟩, false⟩
theorem ndT_ok {k : Int} (h : k = 1 ∨ k = 3 ∨ k = 4) : Nd (ndT k) := ⟨h, rfl, by show (0 : Int) ≤ 0 ∧ (0 : Int) ≤ 1048576; omega⟩
theorem good_98 : Pure.Good [98] := ⟨by decide, by decide, by decide, by decide, by decide, by decide, by decide +kernel⟩
theorem cl_98 : Cl [[98]] := ⟨by simp, by intro p hp; simp only [List.mem_cons, List.not_mem_nil, or_false] at hp; subst hp; exact good_98, by decide⟩
def lenOf : Value → Nat | .slice _ n _ => n | _ => 0
def flagOf : Value → Nat | .int _ _ => 0 | _ => 1
theorem dfs_todo {l : List S44} {n : Int} (h : Inv l n) {all todo : List Pth} {cs : List S44} (hd : DfsIn l all todo cs) (hn : ∀ d ∈ todo, d ≠ []) : todo.length ≤ l.length + 1 := by
  have key : ∀ td : List Pth, (∀ d ∈ td, ∃ r, lookR l d = some r) → td.length ≤ (td.flatMap (subP l)).length := by
    intro td
    induction td with
    | nil => intro _; exact Nat.le_refl _
    | cons d t ih =>
      intro hd
      have h1 := ih (fun x hx => hd x (List.mem_cons_of_mem _ hx))
      obtain ⟨r, hr⟩ := hd d List.mem_cons_self
      have hm := look_mem hr
      have h2 : 0 < (subP l d).length := by
        unfold subP subR
        rw [List.length_map]
        exact List.length_pos_of_mem (List.mem_filter.2 ⟨hm.1, by rw [hm.2]; exact pre_iff.2 (List.prefix_refl _)⟩)
      rw [List.flatMap_cons, List.length_append, List.length_cons]
      omega
  have h1 := key todo (fun d hdd => by
    rcases (hd.dir d hdd).1 with h | ⟨r, hr, _⟩
    · exact absurd h (hn d hdd)
    · exact ⟨r, hr⟩)
  have h2 := hd.perm.length_eq
  simp only [List.length_append, List.length_map] at h2
  omega
theorem headT_n : (addP [] 0 [[98]] (ndT 4)).2 = (1, 0) := by kernel_rfl
theorem headT_l : (listL [] (addP [] 0 [[98]] (ndT 4)).1).length = 1 := by kernel_rfl
theorem headT : ∃ t, addP [] 0 [[98]] (ndT 4) = (t, 1, 0) ∧ Inv t 1 ∧ t.length ≤ 200 ∧ (listL [] t).length = 1 := by
  have ok := addP_ok inv_nil (.inr cl_98) (ndT_ok (k := 4) (by omega))
  have h1 := headT_n
  have h2 := headT_l
  generalize addP [] 0 [[98]] (ndT 4) = q at ok h1 h2
  obtain ⟨t, n⟩ := q
  simp only at h1 h2
  subst h1
  exact ⟨t, rfl, ok.inv, by have := ok.len.2; simp only [List.length_nil] at this; omega, h2⟩
set_option maxHeartbeats 8000000 in
set_option maxRecDepth 100000 in
theorem WholeTree_walk (w : World) (HG0 : GG w) (A0 : Option Addr) (c0 : Nat) (ks : List Int) (hr0 : Kd.C (Kd.int .i64) w A0 ks.length ks) (hm0 : ks.length ≤ 9223372036854775807) (hw0 : ∀ x ∈ ks, (Lit.int .i64 x).wf = true) (A1 : Option Addr) (c1 : Nat) (ns : List ByteArray) (hr1 : Kd.C Kd.string w A1 ns.length ns) (hm1 : ns.length ≤ 9223372036854775807) (hw1 : ∀ x ∈ ns, x.size ≤ 9223372036854775807) :
    Calls Tryd.prog 15 #[.slice A0 ks.length c0, .slice A1 ns.length c1] w fun e w' => e = .returned (.bool true) ∧ Below w.heap.size w w' := by
  have HM : Aside0 (Mem w (fun k => k < w.heap.size) w [] (fun w => Kd.C (Kd.int .i64) w A0 ks.length ks ∧ Kd.C Kd.string w A1 ns.length ns)) := ⟨Mem.start (fun W' h => ⟨heap3.C (fun k hk => h k hk hk) hr0, heap9.C (fun k hk => h k hk hk) hr1⟩)⟩
  have HG := Aside0.mk HG0
  clear hw0 hr0 hr1 hw1 HG0
  obtain ⟨t1, ht1, hI1, hl1, hl2⟩ := headT
  have HADDB : Aside0 (∀ (W : World) (B : List Bx) (S : World → Prop), Mem w (fun k => k < w.heap.size) W B S → Calls Tryd.prog 38 #[.agg #[.slice none 0 0, .int .i64 0], .string ⟨#[98]⟩, .agg (nodeL (ndT 4)).toArray] W fun e w' => ∃ A' c', e = .returned (.tuple #[.agg #[.slice A' t1.length c', .int .i64 1], .int .i64 0]) ∧ t1.length ≤ c' ∧ Mem w (fun k => k < w.heap.size) w' B (fun w => S w ∧ Tr A' t1 w)) := ⟨fun W B S hM => by have := add_M (A := none) (c := 0) (l := []) (n := 0) hM (fun _ _ => Kd.C_nil _ _) inv_nil (Nat.le_refl 0) (by simp) (by omega) (.inr cl_98) (ndT 4); rw [ht1] at this; exact this⟩
  obtain ⟨q1, hq1⟩ : ∃ q, listL [] t1 = q := ⟨_, rfl⟩
  rw [hq1] at hl2
  have HLSB : Aside0 (∀ (W : World) (B : List Bx) (S : World → Prop) {A : Option Addr} {c : Nat}, Mem w (fun k => k < w.heap.size) W B S → (∀ w, S w → Tr A t1 w) → t1.length ≤ c → Calls Tryd.prog 39 #[.agg #[.slice A t1.length c, .int .i64 1], .string ⟨#[]⟩] W fun e w' => ∃ A' c', e = .returned (.tuple #[.slice A' 1 c', .int .i64 0]) ∧ 1 ≤ c' ∧ Mem w (fun k => k < w.heap.size) w' B S) := ⟨fun W B S A c hM hS hc => by
    have := list_M (n := 1) (ps := []) hM hS hI1 hc (by omega) gd_nil (.inl rfl)
    rw [hq1, hl2] at this
    refine this.mono ?_
    rintro e w' ⟨A', c', rfl, h1, h2⟩
    exact ⟨A', c', rfl, h1, h2.imp (fun w h => h.1)⟩⟩
  clear ht1 hI1 hl1 hl2 hq1
  by_cases hln : ks.length = ns.length
  case neg =>
    have kl : ((ks.length : Int) != (ns.length : Int)) = true := bne_iff_ne.2 (by omega)
    clear hln
    go_enter Tryd.func15, Tryd.ntmps15
    go_wp2_with (first|go_skip|((with_reducible refine gate_dst (N := 5) rfl ?_);(with_reducible refine' bz HM ?qw rfl ?qa ?qc ?_);(case qw|qa|qc=>rfl);clear HM;intro g5 _ HM)|((with_reducible refine' lc HM ?qw rfl ?qx ?qm ?qa ?qv ?_);(case qw|qx|qa=>rfl);(case qm=>repeat constructor);(case qv=>rfl))|((with_reducible refine' la HM ?qw rfl ?qx ?qm ?qa ?_);(case qw|qx=>rfl);(case qm=>repeat constructor);(case qa=>rfl))|((with_reducible refine' pa HM ?qw rfl ?qx _ ?qy ?qm ?qa ?_);(case qw|qx|qy=>rfl);(case qm=>repeat constructor);(case qa=>rfl);clear HM;intro _ HM)|((with_reducible refine' pc HM ?qw rfl ?qx ?qa ?qy ?qm ?qo ?qi ?_);(case qw|qx|qa=>rfl);(case qy=>first|exact (rfl:_=Value.int _ _)|exact (rfl:_=Value.slice _ _ _)|exact (rfl:_=Value.string _)|exact (rfl:_=Value.bool _));(case qm=>repeat constructor);(case qo=>exact ⟨rfl,rfl⟩);(case qi=>rfl);clear HM;intro _ HM;try simp only [List.set_cons_zero,List.set_cons_succ] at HM)|(go_at_call 38;refine (HADDB.out _ _ _ HM.out).mono ?_;rintro e _ ⟨A1t, c1t, rfl, hc, hM⟩;have HC1 := Aside0.mk hc; clear hc; clear HM;have HM:=Aside0.mk hM;clear hM)|(go_at_call 39; (refine (HLSB.out _ _ _ HM.out (fun _ h => h.2) HC1.out).mono ?_); rintro e _ ⟨A2t, c2t, rfl, hc, hM⟩; clear hc; clear HM;have HM:=Aside0.mk hM;clear hM))
    go_ret
    exact ⟨rfl, HM.out.below⟩
  have kl : ((ks.length : Int) != (ns.length : Int)) = false := bne_eq_false_iff_eq.2 (by omega)
  have HLE := Aside0.mk hln
  clear hln
  by_cases hl15 : 15 < ns.length
  · have k15 : decide ((15 : Int) < (ns.length : Int)) = true := decide_eq_true (by omega)
    clear hl15
    go_enter Tryd.func15, Tryd.ntmps15
    go_wp2_with (first|go_skip|((with_reducible refine gate_dst (N := 5) rfl ?_);(with_reducible refine' bz HM ?qw rfl ?qa ?qc ?_);(case qw|qa|qc=>rfl);clear HM;intro g5 _ HM)|((with_reducible refine' lc HM ?qw rfl ?qx ?qm ?qa ?qv ?_);(case qw|qx|qa=>rfl);(case qm=>repeat constructor);(case qv=>rfl))|((with_reducible refine' la HM ?qw rfl ?qx ?qm ?qa ?_);(case qw|qx=>rfl);(case qm=>repeat constructor);(case qa=>rfl))|((with_reducible refine' pa HM ?qw rfl ?qx _ ?qy ?qm ?qa ?_);(case qw|qx|qy=>rfl);(case qm=>repeat constructor);(case qa=>rfl);clear HM;intro _ HM)|((with_reducible refine' pc HM ?qw rfl ?qx ?qa ?qy ?qm ?qo ?qi ?_);(case qw|qx|qa=>rfl);(case qy=>first|exact (rfl:_=Value.int _ _)|exact (rfl:_=Value.slice _ _ _)|exact (rfl:_=Value.string _)|exact (rfl:_=Value.bool _));(case qm=>repeat constructor);(case qo=>exact ⟨rfl,rfl⟩);(case qi=>rfl);clear HM;intro _ HM;try simp only [List.set_cons_zero,List.set_cons_succ] at HM)|(go_at_call 38;refine (HADDB.out _ _ _ HM.out).mono ?_;rintro e _ ⟨A1t, c1t, rfl, hc, hM⟩;have HC1 := Aside0.mk hc; clear hc; clear HM;have HM:=Aside0.mk hM;clear hM)|(go_at_call 39; (refine (HLSB.out _ _ _ HM.out (fun _ h => h.2) HC1.out).mono ?_); rintro e _ ⟨A2t, c2t, rfl, hc, hM⟩; clear hc; clear HM;have HM:=Aside0.mk hM;clear hM))
    go_ret
    exact ⟨rfl, HM.out.below⟩
  have k15 : decide ((15 : Int) < (ns.length : Int)) = false := decide_eq_false (by omega)
  have HL15 := Aside0.mk (show ns.length ≤ 15 by omega)
  have hnz : (ns.length : Int) ≤ 15 := by omega
  clear hl15 hm0 hm1
  go_enter Tryd.func15, Tryd.ntmps15
  go_upto_region 9 with (first|go_skip|((with_reducible refine gate_dst (N := 5) rfl ?_);(with_reducible refine' bz HM ?qw rfl ?qa ?qc ?_);(case qw|qa|qc=>rfl);clear HM;intro g5 _ HM)|((with_reducible refine' lc HM ?qw rfl ?qx ?qm ?qa ?qv ?_);(case qw|qx|qa=>rfl);(case qm=>repeat constructor);(case qv=>rfl))|((with_reducible refine' la HM ?qw rfl ?qx ?qm ?qa ?_);(case qw|qx=>rfl);(case qm=>repeat constructor);(case qa=>rfl))|((with_reducible refine' pa HM ?qw rfl ?qx _ ?qy ?qm ?qa ?_);(case qw|qx|qy=>rfl);(case qm=>repeat constructor);(case qa=>rfl);clear HM;intro _ HM)|((with_reducible refine' pc HM ?qw rfl ?qx ?qa ?qy ?qm ?qo ?qi ?_);(case qw|qx|qa=>rfl);(case qy=>first|exact (rfl:_=Value.int _ _)|exact (rfl:_=Value.slice _ _ _)|exact (rfl:_=Value.string _)|exact (rfl:_=Value.bool _));(case qm=>repeat constructor);(case qo=>exact ⟨rfl,rfl⟩);(case qi=>rfl);clear HM;intro _ HM;try simp only [List.set_cons_zero,List.set_cons_succ] at HM)|(go_at_call 38;refine (HADDB.out _ _ _ HM.out).mono ?_;rintro e _ ⟨A1t, c1t, rfl, hc, hM⟩;have HC1 := Aside0.mk hc; clear hc; clear HM;have HM:=Aside0.mk hM;clear hM)|(go_at_call 39; (refine (HLSB.out _ _ _ HM.out (fun _ h => h.2) HC1.out).mono ?_); rintro e _ ⟨A2t, c2t, rfl, hc, hM⟩; clear hc; clear HM;have HM:=Aside0.mk hM;clear hM))
  have hMb := HM.out.imp (S' := (fun w => Kd.C (Kd.int .i64) w A0 ks.length ks ∧ Kd.C Kd.string w A1 ns.length ns)) (fun w h => h.1)
  clear HM kl k15
  have HM := Aside0.mk hMb
  clear hMb
  go_wp2_with (first|go_skip|((with_reducible refine' lc HM ?qw rfl ?qx ?qm ?qa ?qv ?_);(case qw|qx|qa=>rfl);(case qm=>repeat constructor);(case qv=>rfl))|((with_reducible refine' la HM ?qw rfl ?qx ?qm ?qa ?_);(case qw|qx=>rfl);(case qm=>repeat constructor);(case qa=>rfl))|((with_reducible refine' pa HM ?qw rfl ?qx _ ?qy ?qm ?qa ?_);(case qw|qx|qy=>rfl);(case qm=>repeat constructor);(case qa=>rfl);clear HM;intro _ HM)|((with_reducible refine' pc HM ?qw rfl ?qx ?qa ?qy ?qm ?qo ?qi ?_);(case qw|qx|qa=>rfl);(case qy=>first|exact (rfl:_=Value.int _ _)|exact (rfl:_=Value.slice _ _ _)|exact (rfl:_=Value.string _)|exact (rfl:_=Value.bool _));(case qm=>repeat constructor);(case qo=>exact ⟨rfl,rfl⟩);(case qi=>rfl);clear HM;intro _ HM;try simp only [List.set_cons_zero,List.set_cons_succ] at HM)|((with_reducible refine' bz HM ?qw rfl ?qa ?qc ?_);(case qw|qa|qc=>rfl);clear HM;intro _ _ HM))
  go_loopw [65] (fun v65 wr => ∃ (i : Nat) (rs : List S44) (n : Int) (A : Option Addr) (c : Nat), v65 = .int .i64 i ∧ Aside0 (i ≤ ns.length) ∧ Aside0 (Inv rs n) ∧ Aside0 (rs.length ≤ 151 * i ∧ n ≤ 151 * i) ∧ Aside0 (rs.length ≤ c) ∧ Aside0 (Mem w (fun k => k < w.heap.size) wr ((g5, [.slice A rs.length c, .int .i64 n], 35) :: []) (fun w => (Kd.C (Kd.int .i64) w A0 ks.length ks ∧ Kd.C Kd.string w A1 ns.length ns) ∧ Tr A rs w))) (fun v65 _ => ns.length - (intOf v65).toNat)
  case atStart => exact ⟨0, [], 0, none, 0, rfl, ⟨Nat.zero_le _⟩, ⟨inv_nil⟩, ⟨Nat.le_refl _, Int.le_refl _⟩, ⟨Nat.le_refl _⟩, ⟨HM.out.imp (fun w h => ⟨h, Kd.C_nil _ _⟩)⟩⟩
  case round =>
    clear HM HADDB HLSB
    obtain ⟨i, rs, n, A, c, rfl, HII, HI, HLN, HC, HM⟩ := hrel
    have hib : (i : Int) ≤ 15 := by have := HII.out; have := HL15.out; omega
    by_cases hlt : i < ns.length
    · have hlz : (i : Int) < (ns.length : Int) := by omega
      have hltk : i < ks.length := by have := HLE.out; omega
      have hkz : (i : Int) < (ks.length : Int) := by omega
      obtain ⟨an, ean, hsc⟩ := at_str HM.out.now.1.2 i hlt
      obtain ⟨ak, eak, hkc⟩ := at_int HM.out.now.1.1 i hltk
      have HKC : Aside0 (∀ w, Kd.C (Kd.int .i64) w (some ak) ks.length ks → w.cell? (ak.add i) = some (.int .i64 ks[i])) := ⟨fun w h => by
        obtain ⟨ak2, e2, h2⟩ := at_int h i hltk
        injection e2 with e2
        subst e2
        exact h2⟩
      subst ean eak
      generalize ns[i] = s at hsc
      clear hkc
      generalize ks[i] = kd at HKC
      obtain ⟨⟨ps, e0⟩, hcl⟩ : ∃ q, cleanS s.data.toList = q := ⟨_, rfl⟩
      have HCLN : Aside0 (∀ (W : World) (B : List Bx) (S : World → Prop), Mem w (fun k => k < w.heap.size) W B S → Calls Tryd.prog 22 #[.string s] W fun e w' => ∃ A' c', e = .returned (.tuple #[.slice A' ps.length c', .int .i64 e0]) ∧ ps.length ≤ c' ∧ Mem w (fun k => k < w.heap.size) w' B (fun w => S w ∧ Sr A' (ps.map mkS) w)) := ⟨fun W B S hM => by have := clean_M HG.out hM s; rw [hcl] at this; exact this⟩
      by_cases he : e0 = 0
      case neg =>
        have b1 : (e0 != 0) = true := bne_iff_ne.2 he
        clear he hcl HKC
        go_upto_region 13 with (first|go_skip|((with_reducible refine' lc HM ?qw rfl ?qx ?qm ?qa ?qv ?_);(case qw|qx|qa=>rfl);(case qm=>repeat constructor);(case qv=>rfl))|((with_reducible refine' la HM ?qw rfl ?qx ?qm ?qa ?_);(case qw|qx=>rfl);(case qm=>repeat constructor);(case qa=>rfl))|((with_reducible refine' pa HM ?qw rfl ?qx _ ?qy ?qm ?qa ?_);(case qw|qx|qy=>rfl);(case qm=>repeat constructor);(case qa=>rfl);clear HM;intro _ HM)|((with_reducible refine' pc HM ?qw rfl ?qx ?qa ?qy ?qm ?qo ?qi ?_);(case qw|qx|qa=>rfl);(case qy=>first|exact (rfl:_=Value.int _ _)|exact (rfl:_=Value.slice _ _ _)|exact (rfl:_=Value.string _)|exact (rfl:_=Value.bool _));(case qm=>repeat constructor);(case qo=>exact ⟨rfl,rfl⟩);(case qi=>rfl);clear HM;intro _ HM;try simp only [List.set_cons_zero,List.set_cons_succ] at HM)|((with_reducible refine' bz HM ?qw rfl ?qa ?qc ?_);(case qw|qa|qc=>rfl);clear HM;intro _ _ HM)|(go_at_call 22;refine (HCLN.out _ _ _ HM.out).mono ?_;rintro e _ ⟨Ap, cp, rfl, hc, hM⟩;have HCP := Aside0.mk hc; clear hc; clear HM;have HM:=Aside0.mk hM;clear hM))
        clear hsc
        go_wp2_with (first|go_skip|((with_reducible refine' lc HM ?qw rfl ?qx ?qm ?qa ?qv ?_);(case qw|qx|qa=>rfl);(case qm=>repeat constructor);(case qv=>rfl))|((with_reducible refine' la HM ?qw rfl ?qx ?qm ?qa ?_);(case qw|qx=>rfl);(case qm=>repeat constructor);(case qa=>rfl))|((with_reducible refine' pa HM ?qw rfl ?qx _ ?qy ?qm ?qa ?_);(case qw|qx|qy=>rfl);(case qm=>repeat constructor);(case qa=>rfl);clear HM;intro _ HM)|((with_reducible refine' pc HM ?qw rfl ?qx ?qa ?qy ?qm ?qo ?qi ?_);(case qw|qx|qa=>rfl);(case qy=>first|exact (rfl:_=Value.int _ _)|exact (rfl:_=Value.slice _ _ _)|exact (rfl:_=Value.string _)|exact (rfl:_=Value.bool _));(case qm=>repeat constructor);(case qo=>exact ⟨rfl,rfl⟩);(case qi=>rfl);clear HM;intro _ HM;try simp only [List.set_cons_zero,List.set_cons_succ] at HM)|((with_reducible refine' bz HM ?qw rfl ?qa ?qc ?_);(case qw|qa|qc=>rfl);clear HM;intro _ _ HM))
        go_roundw
        case rel => exact ⟨i + 1, rs, n, A, c, by go_num, ⟨by omega⟩, HI, ⟨by have := HLN.out; omega⟩, HC, ⟨HM.out.imp (fun w h => h.1)⟩⟩
        case measure => simp [intOf]; omega
      subst he
      have b1 : ((0 : Int) != 0) = false := rfl
      have hgd : Gd ps := by have := clean_gd (s := s) (by rw [hcl]); rwa [hcl] at this
      by_cases hs2 : 200 < s.size
      · have b2 : decide ((200 : Int) < (s.size : Int)) = true := decide_eq_true (by omega)
        clear hs2 hcl hgd HKC
        go_upto_region 13 with (first|go_skip|((with_reducible refine' lc HM ?qw rfl ?qx ?qm ?qa ?qv ?_);(case qw|qx|qa=>rfl);(case qm=>repeat constructor);(case qv=>rfl))|((with_reducible refine' la HM ?qw rfl ?qx ?qm ?qa ?_);(case qw|qx=>rfl);(case qm=>repeat constructor);(case qa=>rfl))|((with_reducible refine' pa HM ?qw rfl ?qx _ ?qy ?qm ?qa ?_);(case qw|qx|qy=>rfl);(case qm=>repeat constructor);(case qa=>rfl);clear HM;intro _ HM)|((with_reducible refine' pc HM ?qw rfl ?qx ?qa ?qy ?qm ?qo ?qi ?_);(case qw|qx|qa=>rfl);(case qy=>first|exact (rfl:_=Value.int _ _)|exact (rfl:_=Value.slice _ _ _)|exact (rfl:_=Value.string _)|exact (rfl:_=Value.bool _));(case qm=>repeat constructor);(case qo=>exact ⟨rfl,rfl⟩);(case qi=>rfl);clear HM;intro _ HM;try simp only [List.set_cons_zero,List.set_cons_succ] at HM)|((with_reducible refine' bz HM ?qw rfl ?qa ?qc ?_);(case qw|qa|qc=>rfl);clear HM;intro _ _ HM)|(go_at_call 22;refine (HCLN.out _ _ _ HM.out).mono ?_;rintro e _ ⟨Ap, cp, rfl, hc, hM⟩;have HCP := Aside0.mk hc; clear hc; clear HM;have HM:=Aside0.mk hM;clear hM))
        clear hsc
        go_wp2_with (first|go_skip|((with_reducible refine' lc HM ?qw rfl ?qx ?qm ?qa ?qv ?_);(case qw|qx|qa=>rfl);(case qm=>repeat constructor);(case qv=>rfl))|((with_reducible refine' la HM ?qw rfl ?qx ?qm ?qa ?_);(case qw|qx=>rfl);(case qm=>repeat constructor);(case qa=>rfl))|((with_reducible refine' pa HM ?qw rfl ?qx _ ?qy ?qm ?qa ?_);(case qw|qx|qy=>rfl);(case qm=>repeat constructor);(case qa=>rfl);clear HM;intro _ HM)|((with_reducible refine' pc HM ?qw rfl ?qx ?qa ?qy ?qm ?qo ?qi ?_);(case qw|qx|qa=>rfl);(case qy=>first|exact (rfl:_=Value.int _ _)|exact (rfl:_=Value.slice _ _ _)|exact (rfl:_=Value.string _)|exact (rfl:_=Value.bool _));(case qm=>repeat constructor);(case qo=>exact ⟨rfl,rfl⟩);(case qi=>rfl);clear HM;intro _ HM;try simp only [List.set_cons_zero,List.set_cons_succ] at HM)|((with_reducible refine' bz HM ?qw rfl ?qa ?qc ?_);(case qw|qa|qc=>rfl);clear HM;intro _ _ HM))
        go_roundw
        case rel => exact ⟨i + 1, rs, n, A, c, by go_num, ⟨by omega⟩, HI, ⟨by have := HLN.out; omega⟩, HC, ⟨HM.out.imp (fun w h => h.1)⟩⟩
        case measure => simp [intOf]; omega
      have b2 : decide ((200 : Int) < (s.size : Int)) = false := decide_eq_false (by omega)
      have hps : ps = [] ∨ Cl ps := by have := clean_cl (s := s) (by rw [hcl]) (by omega); rwa [hcl] at this
      clear hcl hs2
      have hdo : (kd = 1 ∨ kd = 3 ∨ kd = 4) ∨ (kd ≠ 1 ∧ kd ≠ 3 ∧ kd ≠ 4) := by omega
      rcases hdo with hk | ⟨hk1, hk2, hk3⟩
      case inr =>
        have q1 : (kd != 1) = true := bne_iff_ne.2 hk1
        have q2 : (kd != 3) = true := bne_iff_ne.2 hk2
        have q3 : (kd != 4) = true := bne_iff_ne.2 hk3
        clear hk1 hk2 hk3 hgd hps
        go_upto_region 13 with (first|go_skip|((with_reducible refine' lc HM ?qw rfl ?qx ?qm ?qa ?qv ?_);(case qw|qx|qa=>rfl);(case qm=>repeat constructor);(case qv=>rfl))|((with_reducible refine' la HM ?qw rfl ?qx ?qm ?qa ?_);(case qw|qx=>rfl);(case qm=>repeat constructor);(case qa=>rfl))|((with_reducible refine' pa HM ?qw rfl ?qx _ ?qy ?qm ?qa ?_);(case qw|qx|qy=>rfl);(case qm=>repeat constructor);(case qa=>rfl);clear HM;intro _ HM)|((with_reducible refine' pc HM ?qw rfl ?qx ?qa ?qy ?qm ?qo ?qi ?_);(case qw|qx|qa=>rfl);(case qy=>first|exact (rfl:_=Value.int _ _)|exact (rfl:_=Value.slice _ _ _)|exact (rfl:_=Value.string _)|exact (rfl:_=Value.bool _));(case qm=>repeat constructor);(case qo=>exact ⟨rfl,rfl⟩);(case qi=>rfl);clear HM;intro _ HM;try simp only [List.set_cons_zero,List.set_cons_succ] at HM)|((with_reducible refine' bz HM ?qw rfl ?qa ?qc ?_);(case qw|qa|qc=>rfl);clear HM;intro _ _ HM)|(go_at_call 22;refine (HCLN.out _ _ _ HM.out).mono ?_;rintro e _ ⟨Ap, cp, rfl, hc, hM⟩;have HCP := Aside0.mk hc; clear hc; clear HM;have HM:=Aside0.mk hM;clear hM))
        clear hsc
        have hkc := HKC.out _ HM.out.now.1.1.1
        go_wp2_with (first|go_skip|((with_reducible refine' lc HM ?qw rfl ?qx ?qm ?qa ?qv ?_);(case qw|qx|qa=>rfl);(case qm=>repeat constructor);(case qv=>rfl))|((with_reducible refine' la HM ?qw rfl ?qx ?qm ?qa ?_);(case qw|qx=>rfl);(case qm=>repeat constructor);(case qa=>rfl))|((with_reducible refine' pa HM ?qw rfl ?qx _ ?qy ?qm ?qa ?_);(case qw|qx|qy=>rfl);(case qm=>repeat constructor);(case qa=>rfl);clear HM;intro _ HM)|((with_reducible refine' pc HM ?qw rfl ?qx ?qa ?qy ?qm ?qo ?qi ?_);(case qw|qx|qa=>rfl);(case qy=>first|exact (rfl:_=Value.int _ _)|exact (rfl:_=Value.slice _ _ _)|exact (rfl:_=Value.string _)|exact (rfl:_=Value.bool _));(case qm=>repeat constructor);(case qo=>exact ⟨rfl,rfl⟩);(case qi=>rfl);clear HM;intro _ HM;try simp only [List.set_cons_zero,List.set_cons_succ] at HM)|((with_reducible refine' bz HM ?qw rfl ?qa ?qc ?_);(case qw|qa|qc=>rfl);clear HM;intro _ _ HM))
        go_roundw
        case rel => exact ⟨i + 1, rs, n, A, c, by go_num, ⟨by omega⟩, HI, ⟨by have := HLN.out; omega⟩, HC, ⟨HM.out.imp (fun w h => h.1)⟩⟩
        case measure => simp [intOf]; omega

      have HK := Aside0.mk hk
      have HGD := Aside0.mk hgd
      have HPS := Aside0.mk hps
      have hln := HLN.out
      obtain ⟨⟨l3, n3, e3⟩, had⟩ : ∃ q, addP rs n ps (ndT kd) = q := ⟨_, rfl⟩
      have hok := addP_ok HI.out hps (ndT_ok hk)
      rw [had] at hok
      have HAD : Aside0 (∀ (W : World) (B : List Bx) (S : World → Prop) {A : Option Addr} {c : Nat}, Mem w (fun k => k < w.heap.size) W B S → (∀ w, S w → Tr A rs w) → rs.length ≤ c → Calls Tryd.prog 38 #[.agg #[.slice A rs.length c, .int .i64 n], .string (mkS (joinS ps)), .agg (nodeL (ndT kd)).toArray] W fun e w' => ∃ A' c', e = .returned (.tuple #[.agg #[.slice A' l3.length c', .int .i64 n3], .int .i64 e3]) ∧ l3.length ≤ c' ∧ Mem w (fun k => k < w.heap.size) w' B (fun w => S w ∧ Tr A' l3 w)) := ⟨fun W B S A c hM hS hc => by have := add_M hM hS HI.out hc (by omega) (by omega) hps (ndT kd); rw [had] at this; exact this⟩
      have HI3 := Aside0.mk hok.inv
      have HL3 : Aside0 (l3.length ≤ 151 * (i + 1) ∧ n3 ≤ 151 * ((i + 1 : Nat) : Int)) := ⟨by have h1 := hok.len.2; have h2 := hok.next.2; simp only at h1 h2; omega⟩
      clear hgd hps hln had hok
      rcases hk with hk | hk | hk
      · have q1 : (kd != 1) = false := bne_eq_false_iff_eq.2 (by omega)
        clear hk
        go_upto_region 13 with (first|go_skip|((with_reducible refine' lc HM ?qw rfl ?qx ?qm ?qa ?qv ?_);(case qw|qx|qa=>rfl);(case qm=>repeat constructor);(case qv=>rfl))|((with_reducible refine' la HM ?qw rfl ?qx ?qm ?qa ?_);(case qw|qx=>rfl);(case qm=>repeat constructor);(case qa=>rfl))|((with_reducible refine' pa HM ?qw rfl ?qx _ ?qy ?qm ?qa ?_);(case qw|qx|qy=>rfl);(case qm=>repeat constructor);(case qa=>rfl);clear HM;intro _ HM)|((with_reducible refine' pc HM ?qw rfl ?qx ?qa ?qy ?qm ?qo ?qi ?_);(case qw|qx|qa=>rfl);(case qy=>first|exact (rfl:_=Value.int _ _)|exact (rfl:_=Value.slice _ _ _)|exact (rfl:_=Value.string _)|exact (rfl:_=Value.bool _));(case qm=>repeat constructor);(case qo=>exact ⟨rfl,rfl⟩);(case qi=>rfl);clear HM;intro _ HM;try simp only [List.set_cons_zero,List.set_cons_succ] at HM)|((with_reducible refine' bz HM ?qw rfl ?qa ?qc ?_);(case qw|qa|qc=>rfl);clear HM;intro _ _ HM)|(go_at_call 22;refine (HCLN.out _ _ _ HM.out).mono ?_;rintro e _ ⟨Ap, cp, rfl, hc, hM⟩;have HCP := Aside0.mk hc; clear hc; clear HM;have HM:=Aside0.mk hM;clear hM))
        clear hsc
        have hkc := HKC.out _ HM.out.now.1.1.1
        go_upto_region 14 with (first|go_skip|((with_reducible refine' lc HM ?qw rfl ?qx ?qm ?qa ?qv ?_);(case qw|qx|qa=>rfl);(case qm=>repeat constructor);(case qv=>rfl))|((with_reducible refine' la HM ?qw rfl ?qx ?qm ?qa ?_);(case qw|qx=>rfl);(case qm=>repeat constructor);(case qa=>rfl))|((with_reducible refine' pa HM ?qw rfl ?qx _ ?qy ?qm ?qa ?_);(case qw|qx|qy=>rfl);(case qm=>repeat constructor);(case qa=>rfl);clear HM;intro _ HM)|((with_reducible refine' pc HM ?qw rfl ?qx ?qa ?qy ?qm ?qo ?qi ?_);(case qw|qx|qa=>rfl);(case qy=>first|exact (rfl:_=Value.int _ _)|exact (rfl:_=Value.slice _ _ _)|exact (rfl:_=Value.string _)|exact (rfl:_=Value.bool _));(case qm=>repeat constructor);(case qo=>exact ⟨rfl,rfl⟩);(case qi=>rfl);clear HM;intro _ HM;try simp only [List.set_cons_zero,List.set_cons_succ] at HM)|((with_reducible refine' bz HM ?qw rfl ?qa ?qc ?_);(case qw|qa|qc=>rfl);clear HM;intro _ _ HM))
        clear hkc
        refine r_relA (n := 13) (fun q0 fl q_ w' => ∃ (A3 : Option Addr) (c3 : Nat), Mem w (fun k => k < w.heap.size) w' ((g5, ccL fl 12 [.slice A3 l3.length c3, .int .i64 n3] [.slice A rs.length c, .int .i64 n], 35) :: []) (fun w => (fun w => ((Kd.C (Kd.int .i64) w (some ak) ks.length ks ∧ Kd.C Kd.string w (some an) ns.length ns) ∧ Tr A rs w) ∧ Sr Ap (ps.map mkS) w) w ∧ ck fl 8 (Tr A3 l3 w)) ∧ ck fl 8 (l3.length ≤ c3) ∧ Frm q0 q_ [104, 105, 106, 107, 108, 109, 110, 111, 112, 103, 113, 114] ∧ Slots q_ fl [(0, 104, Value.agg #[.slice A rs.length c, .int .i64 n]), (1, 105, Value.slice Ap ps.length cp), (2, 106, Value.string (mkS (joinS ps))), (3, 107, Value.slice (some ak) ks.length c0), (4, 108, Value.int .i64 (i : Int)), (5, 109, Value.pointer (some (ak.add i))), (6, 110, Value.int .i64 kd), (7, 111, Value.agg (nodeL (ndT kd)).toArray), (8, 112, Value.tuple #[Value.agg #[.slice A3 l3.length c3, .int .i64 n3], .int .i64 e3]), (9, 103, Value.tuple #[Value.agg #[.slice A3 l3.length c3, .int .i64 n3], .int .i64 e3]), (10, 113, Value.agg #[.slice A3 l3.length c3, .int .i64 n3]), (11, 114, Value.int .i64 e3)] ∧ Side [(12, 0), (9, 8), (10, 8), (11, 8), (12, 8)] fl) (by kernel_rfl) wt15r14Tab (by kernel_rfl) rfl rfl ?_ ?_ ?_
        · refine ⟨none, 0, ?_, ck_start, Frm.refl _ _, Slots.start, Side.start⟩
          have hM0 := HM.out.drew
          simp only [ccL_false rep_get0]
          exact hM0.imp (fun w h => ⟨h, ck_start⟩)
        rotate_left
        · intro fl q_ w' iq o hl hi ho hr ⟨A3, c3, hM, hf8, hF, hS, hD⟩ K hK
          clear HM
          obtain ⟨_, rfl⟩ := Array.getElem?_eq_some_iff.1 ho
          clear ho
          have x0 := hF.get (N:=0) (by decide) (rfl:_=Value.slice (some ak) ks.length c0)
          have x5 := hF.get (N:=5) (by decide) (rfl:_=Value.pointer (some ⟨g5, 0, none⟩))
          have x9 := hF.get (N:=9) (by decide) (rfl:_=Value.int .i64 (i : Int))
          have x11 := hF.get (N:=11) (by decide) (rfl:_=Value.slice Ap ps.length cp)
          have hz : q_.tmps.size = _ := hF.z
          have HF := Aside0.mk hF
          clear hF
          have hi2 : iq < 13 := hi
          have hc : iq = 0 ∨ iq = 1 ∨ iq = 2 ∨ iq = 3 ∨ iq = 4 ∨ iq = 5 ∨ iq = 6 ∨ iq = 7 ∨ iq = 8 ∨ iq = 9 ∨ iq = 10 ∨ iq = 11 ∨ iq = 12 := by omega
          rcases hc with rfl | rfl | rfl | rfl | rfl | rfl | rfl | rfl | rfl | rfl | rfl | rfl | rfl
          · have f0 := get_tf (by omega) (ready_self hr)
            have f12 : fl.getD 12 false = false := hD.no (j:=0) (by decide) f0
            have hM3 := hM
            simp only [ccL_false f12] at hM3
            refine k_all hM3 (wanted_none rfl) rfl x5 (by repeat constructor) rfl ?_
            exact hK _ _ ⟨A3, c3, by simpa only [ccL_ne (show (0:Nat) ≠ 12 by decide), ck_ne (show (0:Nat) ≠ 8 by decide)] using hM, by simpa only [ck_ne (show (0:Nat) ≠ 8 by decide)] using hf8, HF.out.put _ (by decide), hS.set 0 rfl (by omega) (by rw [hz]; exact Nat.le_of_ble_eq_true rfl) (show ([0, 1, 2, 3, 4, 5, 6, 7, 8, 9, 10, 11] : List Nat).Nodup by decide) (show ([104, 105, 106, 107, 108, 109, 110, 111, 112, 103, 113, 114] : List Nat).Nodup by decide), hD.skip (by omega) (by decide)⟩
          · refine k_mv (Value.slice Ap ps.length cp) (wanted_none rfl) (by first|exact .inl rfl|exact .inr rfl) x11 ?_
            exact hK _ _ ⟨A3, c3, by simpa only [ccL_ne (show (1:Nat) ≠ 12 by decide), ck_ne (show (1:Nat) ≠ 8 by decide)] using hM, by simpa only [ck_ne (show (1:Nat) ≠ 8 by decide)] using hf8, HF.out.put _ (by decide), hS.set 1 rfl (by omega) (by rw [hz]; exact Nat.le_of_ble_eq_true rfl) (show ([0, 1, 2, 3, 4, 5, 6, 7, 8, 9, 10, 11] : List Nat).Nodup by decide) (show ([104, 105, 106, 107, 108, 109, 110, 111, 112, 103, 113, 114] : List Nat).Nodup by decide), hD.skip (by omega) (by decide)⟩
          · have x105 := hS.nth 1 rfl (ready_dep hr rfl (show 1 ∈ _ by decide))
            refine goes_ Tryd.func24 (by kernel_rfl) rfl #[Value.slice Ap ps.length cp] (wanted_none rfl) rfl rfl (by simp only [List.map_toArray, List.map_cons, List.map_nil, x105]) ?_
            refine (join_M hM (fun _ h => h.1.2) HCP.out HGD.out).mono ?_
            rintro e w_ ⟨rfl, hM2⟩
            refine ⟨_, rfl, ?_⟩
            exact hK _ _ ⟨A3, c3, by simpa only [ccL_ne (show (2:Nat) ≠ 12 by decide), ck_ne (show (2:Nat) ≠ 8 by decide)] using hM2, by simpa only [ck_ne (show (2:Nat) ≠ 8 by decide)] using hf8, HF.out.put _ (by decide), hS.set 2 rfl (by omega) (by rw [hz]; exact Nat.le_of_ble_eq_true rfl) (show ([0, 1, 2, 3, 4, 5, 6, 7, 8, 9, 10, 11] : List Nat).Nodup by decide) (show ([104, 105, 106, 107, 108, 109, 110, 111, 112, 103, 113, 114] : List Nat).Nodup by decide), hD.skip (by omega) (by decide)⟩
          · refine k_mv (Value.slice (some ak) ks.length c0) (wanted_none rfl) (by first|exact .inl rfl|exact .inr rfl) x0 ?_
            exact hK _ _ ⟨A3, c3, by simpa only [ccL_ne (show (3:Nat) ≠ 12 by decide), ck_ne (show (3:Nat) ≠ 8 by decide)] using hM, by simpa only [ck_ne (show (3:Nat) ≠ 8 by decide)] using hf8, HF.out.put _ (by decide), hS.set 3 rfl (by omega) (by rw [hz]; exact Nat.le_of_ble_eq_true rfl) (show ([0, 1, 2, 3, 4, 5, 6, 7, 8, 9, 10, 11] : List Nat).Nodup by decide) (show ([104, 105, 106, 107, 108, 109, 110, 111, 112, 103, 113, 114] : List Nat).Nodup by decide), hD.skip (by omega) (by decide)⟩
          · refine k_mv (Value.int .i64 (i : Int)) (wanted_none rfl) (by first|exact .inl rfl|exact .inr rfl) x9 ?_
            exact hK _ _ ⟨A3, c3, by simpa only [ccL_ne (show (4:Nat) ≠ 12 by decide), ck_ne (show (4:Nat) ≠ 8 by decide)] using hM, by simpa only [ck_ne (show (4:Nat) ≠ 8 by decide)] using hf8, HF.out.put _ (by decide), hS.set 4 rfl (by omega) (by rw [hz]; exact Nat.le_of_ble_eq_true rfl) (show ([0, 1, 2, 3, 4, 5, 6, 7, 8, 9, 10, 11] : List Nat).Nodup by decide) (show ([104, 105, 106, 107, 108, 109, 110, 111, 112, 103, 113, 114] : List Nat).Nodup by decide), hD.skip (by omega) (by decide)⟩
          · have x107 := hS.nth 3 rfl (ready_dep hr rfl (show 3 ∈ _ by decide))
            have x108 := hS.nth 4 rfl (ready_dep hr rfl (show 4 ∈ _ by decide))
            have y107 := slot_get x107
            have y108 := slot_get x108
            refine k_pure (Value.pointer (some (ak.add i))) (wanted_none rfl) (by first|(go_simp;done)|(go_simp;simp only [y107, y108];done)|(go_simp;simp only [y107, y108];go_simp)) ?_
            exact hK _ _ ⟨A3, c3, by simpa only [ccL_ne (show (5:Nat) ≠ 12 by decide), ck_ne (show (5:Nat) ≠ 8 by decide)] using hM, by simpa only [ck_ne (show (5:Nat) ≠ 8 by decide)] using hf8, HF.out.put _ (by decide), hS.set 5 rfl (by omega) (by rw [hz]; exact Nat.le_of_ble_eq_true rfl) (show ([0, 1, 2, 3, 4, 5, 6, 7, 8, 9, 10, 11] : List Nat).Nodup by decide) (show ([104, 105, 106, 107, 108, 109, 110, 111, 112, 103, 113, 114] : List Nat).Nodup by decide), hD.skip (by omega) (by decide)⟩
          · have x109 := hS.nth 5 rfl (ready_dep hr rfl (show 5 ∈ _ by decide))
            refine k_ld (wanted_none rfl) rfl x109 rfl (HKC.out _ hM.now.1.1.1.1) ?_
            exact hK _ _ ⟨A3, c3, by simpa only [ccL_ne (show (6:Nat) ≠ 12 by decide), ck_ne (show (6:Nat) ≠ 8 by decide)] using hM, by simpa only [ck_ne (show (6:Nat) ≠ 8 by decide)] using hf8, HF.out.put _ (by decide), hS.set 6 rfl (by omega) (by rw [hz]; exact Nat.le_of_ble_eq_true rfl) (show ([0, 1, 2, 3, 4, 5, 6, 7, 8, 9, 10, 11] : List Nat).Nodup by decide) (show ([104, 105, 106, 107, 108, 109, 110, 111, 112, 103, 113, 114] : List Nat).Nodup by decide), hD.skip (by omega) (by decide)⟩
          · have x110 := hS.nth 6 rfl (ready_dep hr rfl (show 6 ∈ _ by decide))
            have y110 := slot_get x110
            refine k_pure (Value.agg (nodeL (ndT kd)).toArray) (wanted_none rfl) (by first|(go_simp;done)|(go_simp;simp only [y110];done)|(go_simp;simp only [y110];go_simp)|(go_simp;rfl)) ?_
            exact hK _ _ ⟨A3, c3, by simpa only [ccL_ne (show (7:Nat) ≠ 12 by decide), ck_ne (show (7:Nat) ≠ 8 by decide)] using hM, by simpa only [ck_ne (show (7:Nat) ≠ 8 by decide)] using hf8, HF.out.put _ (by decide), hS.set 7 rfl (by omega) (by rw [hz]; exact Nat.le_of_ble_eq_true rfl) (show ([0, 1, 2, 3, 4, 5, 6, 7, 8, 9, 10, 11] : List Nat).Nodup by decide) (show ([104, 105, 106, 107, 108, 109, 110, 111, 112, 103, 113, 114] : List Nat).Nodup by decide), hD.skip (by omega) (by decide)⟩
          · have x104 := hS.nth 0 rfl (ready_dep hr rfl (show 0 ∈ _ by decide))
            have x106 := hS.nth 2 rfl (ready_dep hr rfl (show 2 ∈ _ by decide))
            have x111 := hS.nth 7 rfl (ready_dep hr rfl (show 7 ∈ _ by decide))
            have f0 := get_tf (by omega) (ready_self hr)
            have n9 : fl.getD 9 false = false := hD.no (j:=8) (by decide) f0
            have n10 : fl.getD 10 false = false := hD.no (j:=8) (by decide) f0
            have n11 : fl.getD 11 false = false := hD.no (j:=8) (by decide) f0
            have n12 : fl.getD 12 false = false := hD.no (j:=8) (by decide) f0
            refine goes_ Tryd.func38 (by kernel_rfl) rfl #[Value.agg #[.slice A rs.length c, .int .i64 n], Value.string (mkS (joinS ps)), Value.agg (nodeL (ndT kd)).toArray] (wanted_none rfl) rfl rfl (by simp only [List.map_toArray, List.map_cons, List.map_nil, x104, x106, x111]) ?_
            refine (HAD.out _ _ _ hM (fun _ h => h.1.1.2) HC.out).mono ?_
            rintro e w_ ⟨A4, c4, rfl, hc2, hM2⟩
            refine ⟨_, rfl, ?_⟩
            refine hK _ _ ⟨A4, c4, ?_, fun _ => hc2, HF.out.put _ (by decide), hS.turn (by omega) (by rw [hz]; exact Nat.le_of_ble_eq_true rfl) (by intro e he h; simp only [List.mem_cons, List.not_mem_nil, or_false] at he; rcases he with rfl | rfl | rfl | rfl | rfl | rfl | rfl | rfl | rfl | rfl | rfl | rfl <;> first | rfl | exact absurd h (Nat.ne_of_beq_eq_false rfl)) (by intro e he h; simp only [List.mem_cons, List.not_mem_nil, or_false] at he; rcases he with rfl | rfl | rfl | rfl | rfl | rfl | rfl | rfl | rfl | rfl | rfl | rfl <;> first | exact absurd rfl h | exact .inr n9 | exact .inr n10 | exact .inr n11 | exact .inl ⟨by simp, Nat.ne_of_beq_eq_false rfl⟩), hD.skip (by omega) (by decide)⟩
            simp only [ccL_ne (show (8:Nat) ≠ 12 by decide), ccL_false n12] at hM2 ⊢
            exact hM2.imp (fun w h => ⟨h.1.1, fun _ => h.2⟩)
          · have x112 := hS.nth 8 rfl (ready_dep hr rfl (show 8 ∈ _ by decide))
            refine k_mv (Value.tuple #[Value.agg #[.slice A3 l3.length c3, .int .i64 n3], .int .i64 e3]) (wanted_none rfl) (by first|exact .inl rfl|exact .inr rfl) x112 ?_
            exact hK _ _ ⟨A3, c3, by simpa only [ccL_ne (show (9:Nat) ≠ 12 by decide), ck_ne (show (9:Nat) ≠ 8 by decide)] using hM, by simpa only [ck_ne (show (9:Nat) ≠ 8 by decide)] using hf8, HF.out.put _ (by decide), hS.set 9 rfl (by omega) (by rw [hz]; exact Nat.le_of_ble_eq_true rfl) (show ([0, 1, 2, 3, 4, 5, 6, 7, 8, 9, 10, 11] : List Nat).Nodup by decide) (show ([104, 105, 106, 107, 108, 109, 110, 111, 112, 103, 113, 114] : List Nat).Nodup by decide), hD.step (by omega) (by intro p hp e; simp only [List.mem_cons, List.not_mem_nil, or_false] at hp; rcases hp with rfl | rfl | rfl | rfl | rfl <;> first | exact absurd e (by decide) | exact ready_dep hr rfl (show 8 ∈ _ by decide))⟩
          · have x103 := hS.nth 9 rfl (ready_dep hr rfl (show 9 ∈ _ by decide))
            refine k_ex (Value.agg #[.slice A3 l3.length c3, .int .i64 n3]) (wanted_none rfl) rfl x103 rfl ?_
            exact hK _ _ ⟨A3, c3, by simpa only [ccL_ne (show (10:Nat) ≠ 12 by decide), ck_ne (show (10:Nat) ≠ 8 by decide)] using hM, by simpa only [ck_ne (show (10:Nat) ≠ 8 by decide)] using hf8, HF.out.put _ (by decide), hS.set 10 rfl (by omega) (by rw [hz]; exact Nat.le_of_ble_eq_true rfl) (show ([0, 1, 2, 3, 4, 5, 6, 7, 8, 9, 10, 11] : List Nat).Nodup by decide) (show ([104, 105, 106, 107, 108, 109, 110, 111, 112, 103, 113, 114] : List Nat).Nodup by decide), hD.step (by omega) (by intro p hp e; simp only [List.mem_cons, List.not_mem_nil, or_false] at hp; rcases hp with rfl | rfl | rfl | rfl | rfl <;> first | exact absurd e (by decide) | exact hD (9, 8) (by decide) (ready_dep hr rfl (show 9 ∈ _ by decide)))⟩
          · have x103 := hS.nth 9 rfl (ready_dep hr rfl (show 9 ∈ _ by decide))
            refine k_ex (Value.int .i64 e3) (wanted_none rfl) rfl x103 rfl ?_
            exact hK _ _ ⟨A3, c3, by simpa only [ccL_ne (show (11:Nat) ≠ 12 by decide), ck_ne (show (11:Nat) ≠ 8 by decide)] using hM, by simpa only [ck_ne (show (11:Nat) ≠ 8 by decide)] using hf8, HF.out.put _ (by decide), hS.set 11 rfl (by omega) (by rw [hz]; exact Nat.le_of_ble_eq_true rfl) (show ([0, 1, 2, 3, 4, 5, 6, 7, 8, 9, 10, 11] : List Nat).Nodup by decide) (show ([104, 105, 106, 107, 108, 109, 110, 111, 112, 103, 113, 114] : List Nat).Nodup by decide), hD.step (by omega) (by intro p hp e; simp only [List.mem_cons, List.not_mem_nil, or_false] at hp; rcases hp with rfl | rfl | rfl | rfl | rfl <;> first | exact absurd e (by decide) | exact hD (9, 8) (by decide) (ready_dep hr rfl (show 9 ∈ _ by decide)))⟩
          · have x113 := hS.nth 10 rfl (ready_dep hr rfl (show 10 ∈ _ by decide))
            have f0 := get_tf (by omega) (ready_self hr)
            simp only [ccL_false f0] at hM
            refine k_put hM (wanted_none rfl) rfl rfl x5 _ x113 (by repeat constructor) rfl ?_
            intro w_ hM2
            refine hK _ _ ⟨A3, c3, ?_, by simpa only [ck_ne (show (12:Nat) ≠ 8 by decide)] using hf8, HF.out, hS.keep (by intro e he; simp only [List.mem_cons, List.not_mem_nil, or_false] at he; rcases he with rfl | rfl | rfl | rfl | rfl | rfl | rfl | rfl | rfl | rfl | rfl | rfl <;> exact Nat.ne_of_beq_eq_false rfl), hD.step (by omega) (by intro p hp e; simp only [List.mem_cons, List.not_mem_nil, or_false] at hp; rcases hp with rfl | rfl | rfl | rfl | rfl <;> first | exact absurd e (by decide) | exact ready_dep hr rfl (show 0 ∈ _ by decide) | exact ready_dep hr rfl (show 8 ∈ _ by decide))⟩
            simp only [ck_ne (show (12:Nat) ≠ 8 by decide), ccL_true (set_get_eq (show 12 < fl.length by omega))]
            exact hM2
        intro q_ w' ⟨A3, c3, hM, hf8, hF, hS, _⟩
        have hA := hS.all hF (by intro e he; simp only [List.mem_cons, List.not_mem_nil, or_false] at he; rcases he with rfl | rfl | rfl | rfl | rfl | rfl | rfl | rfl | rfl | rfl | rfl | rfl <;> exact Nat.le_of_ble_eq_true rfl) (by intro e he; simp only [List.mem_cons, List.not_mem_nil, or_false] at he; rcases he with rfl | rfl | rfl | rfl | rfl | rfl | rfl | rfl | rfl | rfl | rfl | rfl <;> exact Nat.le_of_ble_eq_true rfl) (show ([104, 105, 106, 107, 108, 109, 110, 111, 112, 103, 113, 114] : List Nat).Nodup by decide)
        subst hA
        simp only [ccL_true (rep_get (show 12 < 13 by decide))] at hM
        have hf8 := Aside0.mk (hf8 (rep_get (show 8 < 13 by decide)))
        replace hM := hM.imp (fun w h => (⟨h.1.1.1, h.2 (rep_get (show 8 < 13 by decide))⟩ : (Kd.C (Kd.int .i64) w (some ak) ks.length ks ∧ Kd.C Kd.string w (some an) ns.length ns) ∧ Tr A3 l3 w))
        clear HM
        have HM := Aside0.mk hM
        clear hM hF hS
        simp only [fillAll, List.map_cons, List.map_nil, Act.put, List.setIfInBounds_toArray, List.set_cons_zero, List.set_cons_succ]
        go_wp2_with (first|go_skip|((with_reducible refine' lc HM ?qw rfl ?qx ?qm ?qa ?qv ?_);(case qw|qx|qa=>rfl);(case qm=>repeat constructor);(case qv=>rfl))|((with_reducible refine' la HM ?qw rfl ?qx ?qm ?qa ?_);(case qw|qx=>rfl);(case qm=>repeat constructor);(case qa=>rfl))|((with_reducible refine' pa HM ?qw rfl ?qx _ ?qy ?qm ?qa ?_);(case qw|qx|qy=>rfl);(case qm=>repeat constructor);(case qa=>rfl);clear HM;intro _ HM)|((with_reducible refine' pc HM ?qw rfl ?qx ?qa ?qy ?qm ?qo ?qi ?_);(case qw|qx|qa=>rfl);(case qy=>first|exact (rfl:_=Value.int _ _)|exact (rfl:_=Value.slice _ _ _)|exact (rfl:_=Value.string _)|exact (rfl:_=Value.bool _));(case qm=>repeat constructor);(case qo=>exact ⟨rfl,rfl⟩);(case qi=>rfl);clear HM;intro _ HM;try simp only [List.set_cons_zero,List.set_cons_succ] at HM)|((with_reducible refine' bz HM ?qw rfl ?qa ?qc ?_);(case qw|qa|qc=>rfl);clear HM;intro _ _ HM))
        go_roundw
        case rel => exact ⟨i + 1, l3, n3, _, _, by go_num, ⟨by omega⟩, HI3, HL3, hf8, HM⟩
        case measure => simp [intOf]; omega
      · have q1 : (kd != 1) = true := bne_iff_ne.2 (by omega)
        have q2 : (kd != 3) = false := bne_eq_false_iff_eq.2 (by omega)
        clear hk
        go_upto_region 13 with (first|go_skip|((with_reducible refine' lc HM ?qw rfl ?qx ?qm ?qa ?qv ?_);(case qw|qx|qa=>rfl);(case qm=>repeat constructor);(case qv=>rfl))|((with_reducible refine' la HM ?qw rfl ?qx ?qm ?qa ?_);(case qw|qx=>rfl);(case qm=>repeat constructor);(case qa=>rfl))|((with_reducible refine' pa HM ?qw rfl ?qx _ ?qy ?qm ?qa ?_);(case qw|qx|qy=>rfl);(case qm=>repeat constructor);(case qa=>rfl);clear HM;intro _ HM)|((with_reducible refine' pc HM ?qw rfl ?qx ?qa ?qy ?qm ?qo ?qi ?_);(case qw|qx|qa=>rfl);(case qy=>first|exact (rfl:_=Value.int _ _)|exact (rfl:_=Value.slice _ _ _)|exact (rfl:_=Value.string _)|exact (rfl:_=Value.bool _));(case qm=>repeat constructor);(case qo=>exact ⟨rfl,rfl⟩);(case qi=>rfl);clear HM;intro _ HM;try simp only [List.set_cons_zero,List.set_cons_succ] at HM)|((with_reducible refine' bz HM ?qw rfl ?qa ?qc ?_);(case qw|qa|qc=>rfl);clear HM;intro _ _ HM)|(go_at_call 22;refine (HCLN.out _ _ _ HM.out).mono ?_;rintro e _ ⟨Ap, cp, rfl, hc, hM⟩;have HCP := Aside0.mk hc; clear hc; clear HM;have HM:=Aside0.mk hM;clear hM))
        clear hsc
        have hkc := HKC.out _ HM.out.now.1.1.1
        go_upto_region 14 with (first|go_skip|((with_reducible refine' lc HM ?qw rfl ?qx ?qm ?qa ?qv ?_);(case qw|qx|qa=>rfl);(case qm=>repeat constructor);(case qv=>rfl))|((with_reducible refine' la HM ?qw rfl ?qx ?qm ?qa ?_);(case qw|qx=>rfl);(case qm=>repeat constructor);(case qa=>rfl))|((with_reducible refine' pa HM ?qw rfl ?qx _ ?qy ?qm ?qa ?_);(case qw|qx|qy=>rfl);(case qm=>repeat constructor);(case qa=>rfl);clear HM;intro _ HM)|((with_reducible refine' pc HM ?qw rfl ?qx ?qa ?qy ?qm ?qo ?qi ?_);(case qw|qx|qa=>rfl);(case qy=>first|exact (rfl:_=Value.int _ _)|exact (rfl:_=Value.slice _ _ _)|exact (rfl:_=Value.string _)|exact (rfl:_=Value.bool _));(case qm=>repeat constructor);(case qo=>exact ⟨rfl,rfl⟩);(case qi=>rfl);clear HM;intro _ HM;try simp only [List.set_cons_zero,List.set_cons_succ] at HM)|((with_reducible refine' bz HM ?qw rfl ?qa ?qc ?_);(case qw|qa|qc=>rfl);clear HM;intro _ _ HM))
        clear hkc
        refine r_relA (n := 13) (fun q0 fl q_ w' => ∃ (A3 : Option Addr) (c3 : Nat), Mem w (fun k => k < w.heap.size) w' ((g5, ccL fl 12 [.slice A3 l3.length c3, .int .i64 n3] [.slice A rs.length c, .int .i64 n], 35) :: []) (fun w => (fun w => ((Kd.C (Kd.int .i64) w (some ak) ks.length ks ∧ Kd.C Kd.string w (some an) ns.length ns) ∧ Tr A rs w) ∧ Sr Ap (ps.map mkS) w) w ∧ ck fl 8 (Tr A3 l3 w)) ∧ ck fl 8 (l3.length ≤ c3) ∧ Frm q0 q_ [104, 105, 106, 107, 108, 109, 110, 111, 112, 103, 113, 114] ∧ Slots q_ fl [(0, 104, Value.agg #[.slice A rs.length c, .int .i64 n]), (1, 105, Value.slice Ap ps.length cp), (2, 106, Value.string (mkS (joinS ps))), (3, 107, Value.slice (some ak) ks.length c0), (4, 108, Value.int .i64 (i : Int)), (5, 109, Value.pointer (some (ak.add i))), (6, 110, Value.int .i64 kd), (7, 111, Value.agg (nodeL (ndT kd)).toArray), (8, 112, Value.tuple #[Value.agg #[.slice A3 l3.length c3, .int .i64 n3], .int .i64 e3]), (9, 103, Value.tuple #[Value.agg #[.slice A3 l3.length c3, .int .i64 n3], .int .i64 e3]), (10, 113, Value.agg #[.slice A3 l3.length c3, .int .i64 n3]), (11, 114, Value.int .i64 e3)] ∧ Side [(12, 0), (9, 8), (10, 8), (11, 8), (12, 8)] fl) (by kernel_rfl) wt15r14Tab (by kernel_rfl) rfl rfl ?_ ?_ ?_
        · refine ⟨none, 0, ?_, ck_start, Frm.refl _ _, Slots.start, Side.start⟩
          have hM0 := HM.out.drew
          simp only [ccL_false rep_get0]
          exact hM0.imp (fun w h => ⟨h, ck_start⟩)
        rotate_left
        · intro fl q_ w' iq o hl hi ho hr ⟨A3, c3, hM, hf8, hF, hS, hD⟩ K hK
          clear HM
          obtain ⟨_, rfl⟩ := Array.getElem?_eq_some_iff.1 ho
          clear ho
          have x0 := hF.get (N:=0) (by decide) (rfl:_=Value.slice (some ak) ks.length c0)
          have x5 := hF.get (N:=5) (by decide) (rfl:_=Value.pointer (some ⟨g5, 0, none⟩))
          have x9 := hF.get (N:=9) (by decide) (rfl:_=Value.int .i64 (i : Int))
          have x11 := hF.get (N:=11) (by decide) (rfl:_=Value.slice Ap ps.length cp)
          have hz : q_.tmps.size = _ := hF.z
          have HF := Aside0.mk hF
          clear hF
          have hi2 : iq < 13 := hi
          have hc : iq = 0 ∨ iq = 1 ∨ iq = 2 ∨ iq = 3 ∨ iq = 4 ∨ iq = 5 ∨ iq = 6 ∨ iq = 7 ∨ iq = 8 ∨ iq = 9 ∨ iq = 10 ∨ iq = 11 ∨ iq = 12 := by omega
          rcases hc with rfl | rfl | rfl | rfl | rfl | rfl | rfl | rfl | rfl | rfl | rfl | rfl | rfl
          · have f0 := get_tf (by omega) (ready_self hr)
            have f12 : fl.getD 12 false = false := hD.no (j:=0) (by decide) f0
            have hM3 := hM
            simp only [ccL_false f12] at hM3
            refine k_all hM3 (wanted_none rfl) rfl x5 (by repeat constructor) rfl ?_
            exact hK _ _ ⟨A3, c3, by simpa only [ccL_ne (show (0:Nat) ≠ 12 by decide), ck_ne (show (0:Nat) ≠ 8 by decide)] using hM, by simpa only [ck_ne (show (0:Nat) ≠ 8 by decide)] using hf8, HF.out.put _ (by decide), hS.set 0 rfl (by omega) (by rw [hz]; exact Nat.le_of_ble_eq_true rfl) (show ([0, 1, 2, 3, 4, 5, 6, 7, 8, 9, 10, 11] : List Nat).Nodup by decide) (show ([104, 105, 106, 107, 108, 109, 110, 111, 112, 103, 113, 114] : List Nat).Nodup by decide), hD.skip (by omega) (by decide)⟩
          · refine k_mv (Value.slice Ap ps.length cp) (wanted_none rfl) (by first|exact .inl rfl|exact .inr rfl) x11 ?_
            exact hK _ _ ⟨A3, c3, by simpa only [ccL_ne (show (1:Nat) ≠ 12 by decide), ck_ne (show (1:Nat) ≠ 8 by decide)] using hM, by simpa only [ck_ne (show (1:Nat) ≠ 8 by decide)] using hf8, HF.out.put _ (by decide), hS.set 1 rfl (by omega) (by rw [hz]; exact Nat.le_of_ble_eq_true rfl) (show ([0, 1, 2, 3, 4, 5, 6, 7, 8, 9, 10, 11] : List Nat).Nodup by decide) (show ([104, 105, 106, 107, 108, 109, 110, 111, 112, 103, 113, 114] : List Nat).Nodup by decide), hD.skip (by omega) (by decide)⟩
          · have x105 := hS.nth 1 rfl (ready_dep hr rfl (show 1 ∈ _ by decide))
            refine goes_ Tryd.func24 (by kernel_rfl) rfl #[Value.slice Ap ps.length cp] (wanted_none rfl) rfl rfl (by simp only [List.map_toArray, List.map_cons, List.map_nil, x105]) ?_
            refine (join_M hM (fun _ h => h.1.2) HCP.out HGD.out).mono ?_
            rintro e w_ ⟨rfl, hM2⟩
            refine ⟨_, rfl, ?_⟩
            exact hK _ _ ⟨A3, c3, by simpa only [ccL_ne (show (2:Nat) ≠ 12 by decide), ck_ne (show (2:Nat) ≠ 8 by decide)] using hM2, by simpa only [ck_ne (show (2:Nat) ≠ 8 by decide)] using hf8, HF.out.put _ (by decide), hS.set 2 rfl (by omega) (by rw [hz]; exact Nat.le_of_ble_eq_true rfl) (show ([0, 1, 2, 3, 4, 5, 6, 7, 8, 9, 10, 11] : List Nat).Nodup by decide) (show ([104, 105, 106, 107, 108, 109, 110, 111, 112, 103, 113, 114] : List Nat).Nodup by decide), hD.skip (by omega) (by decide)⟩
          · refine k_mv (Value.slice (some ak) ks.length c0) (wanted_none rfl) (by first|exact .inl rfl|exact .inr rfl) x0 ?_
            exact hK _ _ ⟨A3, c3, by simpa only [ccL_ne (show (3:Nat) ≠ 12 by decide), ck_ne (show (3:Nat) ≠ 8 by decide)] using hM, by simpa only [ck_ne (show (3:Nat) ≠ 8 by decide)] using hf8, HF.out.put _ (by decide), hS.set 3 rfl (by omega) (by rw [hz]; exact Nat.le_of_ble_eq_true rfl) (show ([0, 1, 2, 3, 4, 5, 6, 7, 8, 9, 10, 11] : List Nat).Nodup by decide) (show ([104, 105, 106, 107, 108, 109, 110, 111, 112, 103, 113, 114] : List Nat).Nodup by decide), hD.skip (by omega) (by decide)⟩
          · refine k_mv (Value.int .i64 (i : Int)) (wanted_none rfl) (by first|exact .inl rfl|exact .inr rfl) x9 ?_
            exact hK _ _ ⟨A3, c3, by simpa only [ccL_ne (show (4:Nat) ≠ 12 by decide), ck_ne (show (4:Nat) ≠ 8 by decide)] using hM, by simpa only [ck_ne (show (4:Nat) ≠ 8 by decide)] using hf8, HF.out.put _ (by decide), hS.set 4 rfl (by omega) (by rw [hz]; exact Nat.le_of_ble_eq_true rfl) (show ([0, 1, 2, 3, 4, 5, 6, 7, 8, 9, 10, 11] : List Nat).Nodup by decide) (show ([104, 105, 106, 107, 108, 109, 110, 111, 112, 103, 113, 114] : List Nat).Nodup by decide), hD.skip (by omega) (by decide)⟩
          · have x107 := hS.nth 3 rfl (ready_dep hr rfl (show 3 ∈ _ by decide))
            have x108 := hS.nth 4 rfl (ready_dep hr rfl (show 4 ∈ _ by decide))
            have y107 := slot_get x107
            have y108 := slot_get x108
            refine k_pure (Value.pointer (some (ak.add i))) (wanted_none rfl) (by first|(go_simp;done)|(go_simp;simp only [y107, y108];done)|(go_simp;simp only [y107, y108];go_simp)) ?_
            exact hK _ _ ⟨A3, c3, by simpa only [ccL_ne (show (5:Nat) ≠ 12 by decide), ck_ne (show (5:Nat) ≠ 8 by decide)] using hM, by simpa only [ck_ne (show (5:Nat) ≠ 8 by decide)] using hf8, HF.out.put _ (by decide), hS.set 5 rfl (by omega) (by rw [hz]; exact Nat.le_of_ble_eq_true rfl) (show ([0, 1, 2, 3, 4, 5, 6, 7, 8, 9, 10, 11] : List Nat).Nodup by decide) (show ([104, 105, 106, 107, 108, 109, 110, 111, 112, 103, 113, 114] : List Nat).Nodup by decide), hD.skip (by omega) (by decide)⟩
          · have x109 := hS.nth 5 rfl (ready_dep hr rfl (show 5 ∈ _ by decide))
            refine k_ld (wanted_none rfl) rfl x109 rfl (HKC.out _ hM.now.1.1.1.1) ?_
            exact hK _ _ ⟨A3, c3, by simpa only [ccL_ne (show (6:Nat) ≠ 12 by decide), ck_ne (show (6:Nat) ≠ 8 by decide)] using hM, by simpa only [ck_ne (show (6:Nat) ≠ 8 by decide)] using hf8, HF.out.put _ (by decide), hS.set 6 rfl (by omega) (by rw [hz]; exact Nat.le_of_ble_eq_true rfl) (show ([0, 1, 2, 3, 4, 5, 6, 7, 8, 9, 10, 11] : List Nat).Nodup by decide) (show ([104, 105, 106, 107, 108, 109, 110, 111, 112, 103, 113, 114] : List Nat).Nodup by decide), hD.skip (by omega) (by decide)⟩
          · have x110 := hS.nth 6 rfl (ready_dep hr rfl (show 6 ∈ _ by decide))
            have y110 := slot_get x110
            refine k_pure (Value.agg (nodeL (ndT kd)).toArray) (wanted_none rfl) (by first|(go_simp;done)|(go_simp;simp only [y110];done)|(go_simp;simp only [y110];go_simp)|(go_simp;rfl)) ?_
            exact hK _ _ ⟨A3, c3, by simpa only [ccL_ne (show (7:Nat) ≠ 12 by decide), ck_ne (show (7:Nat) ≠ 8 by decide)] using hM, by simpa only [ck_ne (show (7:Nat) ≠ 8 by decide)] using hf8, HF.out.put _ (by decide), hS.set 7 rfl (by omega) (by rw [hz]; exact Nat.le_of_ble_eq_true rfl) (show ([0, 1, 2, 3, 4, 5, 6, 7, 8, 9, 10, 11] : List Nat).Nodup by decide) (show ([104, 105, 106, 107, 108, 109, 110, 111, 112, 103, 113, 114] : List Nat).Nodup by decide), hD.skip (by omega) (by decide)⟩
          · have x104 := hS.nth 0 rfl (ready_dep hr rfl (show 0 ∈ _ by decide))
            have x106 := hS.nth 2 rfl (ready_dep hr rfl (show 2 ∈ _ by decide))
            have x111 := hS.nth 7 rfl (ready_dep hr rfl (show 7 ∈ _ by decide))
            have f0 := get_tf (by omega) (ready_self hr)
            have n9 : fl.getD 9 false = false := hD.no (j:=8) (by decide) f0
            have n10 : fl.getD 10 false = false := hD.no (j:=8) (by decide) f0
            have n11 : fl.getD 11 false = false := hD.no (j:=8) (by decide) f0
            have n12 : fl.getD 12 false = false := hD.no (j:=8) (by decide) f0
            refine goes_ Tryd.func38 (by kernel_rfl) rfl #[Value.agg #[.slice A rs.length c, .int .i64 n], Value.string (mkS (joinS ps)), Value.agg (nodeL (ndT kd)).toArray] (wanted_none rfl) rfl rfl (by simp only [List.map_toArray, List.map_cons, List.map_nil, x104, x106, x111]) ?_
            refine (HAD.out _ _ _ hM (fun _ h => h.1.1.2) HC.out).mono ?_
            rintro e w_ ⟨A4, c4, rfl, hc2, hM2⟩
            refine ⟨_, rfl, ?_⟩
            refine hK _ _ ⟨A4, c4, ?_, fun _ => hc2, HF.out.put _ (by decide), hS.turn (by omega) (by rw [hz]; exact Nat.le_of_ble_eq_true rfl) (by intro e he h; simp only [List.mem_cons, List.not_mem_nil, or_false] at he; rcases he with rfl | rfl | rfl | rfl | rfl | rfl | rfl | rfl | rfl | rfl | rfl | rfl <;> first | rfl | exact absurd h (Nat.ne_of_beq_eq_false rfl)) (by intro e he h; simp only [List.mem_cons, List.not_mem_nil, or_false] at he; rcases he with rfl | rfl | rfl | rfl | rfl | rfl | rfl | rfl | rfl | rfl | rfl | rfl <;> first | exact absurd rfl h | exact .inr n9 | exact .inr n10 | exact .inr n11 | exact .inl ⟨by simp, Nat.ne_of_beq_eq_false rfl⟩), hD.skip (by omega) (by decide)⟩
            simp only [ccL_ne (show (8:Nat) ≠ 12 by decide), ccL_false n12] at hM2 ⊢
            exact hM2.imp (fun w h => ⟨h.1.1, fun _ => h.2⟩)
          · have x112 := hS.nth 8 rfl (ready_dep hr rfl (show 8 ∈ _ by decide))
            refine k_mv (Value.tuple #[Value.agg #[.slice A3 l3.length c3, .int .i64 n3], .int .i64 e3]) (wanted_none rfl) (by first|exact .inl rfl|exact .inr rfl) x112 ?_
            exact hK _ _ ⟨A3, c3, by simpa only [ccL_ne (show (9:Nat) ≠ 12 by decide), ck_ne (show (9:Nat) ≠ 8 by decide)] using hM, by simpa only [ck_ne (show (9:Nat) ≠ 8 by decide)] using hf8, HF.out.put _ (by decide), hS.set 9 rfl (by omega) (by rw [hz]; exact Nat.le_of_ble_eq_true rfl) (show ([0, 1, 2, 3, 4, 5, 6, 7, 8, 9, 10, 11] : List Nat).Nodup by decide) (show ([104, 105, 106, 107, 108, 109, 110, 111, 112, 103, 113, 114] : List Nat).Nodup by decide), hD.step (by omega) (by intro p hp e; simp only [List.mem_cons, List.not_mem_nil, or_false] at hp; rcases hp with rfl | rfl | rfl | rfl | rfl <;> first | exact absurd e (by decide) | exact ready_dep hr rfl (show 8 ∈ _ by decide))⟩
          · have x103 := hS.nth 9 rfl (ready_dep hr rfl (show 9 ∈ _ by decide))
            refine k_ex (Value.agg #[.slice A3 l3.length c3, .int .i64 n3]) (wanted_none rfl) rfl x103 rfl ?_
            exact hK _ _ ⟨A3, c3, by simpa only [ccL_ne (show (10:Nat) ≠ 12 by decide), ck_ne (show (10:Nat) ≠ 8 by decide)] using hM, by simpa only [ck_ne (show (10:Nat) ≠ 8 by decide)] using hf8, HF.out.put _ (by decide), hS.set 10 rfl (by omega) (by rw [hz]; exact Nat.le_of_ble_eq_true rfl) (show ([0, 1, 2, 3, 4, 5, 6, 7, 8, 9, 10, 11] : List Nat).Nodup by decide) (show ([104, 105, 106, 107, 108, 109, 110, 111, 112, 103, 113, 114] : List Nat).Nodup by decide), hD.step (by omega) (by intro p hp e; simp only [List.mem_cons, List.not_mem_nil, or_false] at hp; rcases hp with rfl | rfl | rfl | rfl | rfl <;> first | exact absurd e (by decide) | exact hD (9, 8) (by decide) (ready_dep hr rfl (show 9 ∈ _ by decide)))⟩
          · have x103 := hS.nth 9 rfl (ready_dep hr rfl (show 9 ∈ _ by decide))
            refine k_ex (Value.int .i64 e3) (wanted_none rfl) rfl x103 rfl ?_
            exact hK _ _ ⟨A3, c3, by simpa only [ccL_ne (show (11:Nat) ≠ 12 by decide), ck_ne (show (11:Nat) ≠ 8 by decide)] using hM, by simpa only [ck_ne (show (11:Nat) ≠ 8 by decide)] using hf8, HF.out.put _ (by decide), hS.set 11 rfl (by omega) (by rw [hz]; exact Nat.le_of_ble_eq_true rfl) (show ([0, 1, 2, 3, 4, 5, 6, 7, 8, 9, 10, 11] : List Nat).Nodup by decide) (show ([104, 105, 106, 107, 108, 109, 110, 111, 112, 103, 113, 114] : List Nat).Nodup by decide), hD.step (by omega) (by intro p hp e; simp only [List.mem_cons, List.not_mem_nil, or_false] at hp; rcases hp with rfl | rfl | rfl | rfl | rfl <;> first | exact absurd e (by decide) | exact hD (9, 8) (by decide) (ready_dep hr rfl (show 9 ∈ _ by decide)))⟩
          · have x113 := hS.nth 10 rfl (ready_dep hr rfl (show 10 ∈ _ by decide))
            have f0 := get_tf (by omega) (ready_self hr)
            simp only [ccL_false f0] at hM
            refine k_put hM (wanted_none rfl) rfl rfl x5 _ x113 (by repeat constructor) rfl ?_
            intro w_ hM2
            refine hK _ _ ⟨A3, c3, ?_, by simpa only [ck_ne (show (12:Nat) ≠ 8 by decide)] using hf8, HF.out, hS.keep (by intro e he; simp only [List.mem_cons, List.not_mem_nil, or_false] at he; rcases he with rfl | rfl | rfl | rfl | rfl | rfl | rfl | rfl | rfl | rfl | rfl | rfl <;> exact Nat.ne_of_beq_eq_false rfl), hD.step (by omega) (by intro p hp e; simp only [List.mem_cons, List.not_mem_nil, or_false] at hp; rcases hp with rfl | rfl | rfl | rfl | rfl <;> first | exact absurd e (by decide) | exact ready_dep hr rfl (show 0 ∈ _ by decide) | exact ready_dep hr rfl (show 8 ∈ _ by decide))⟩
            simp only [ck_ne (show (12:Nat) ≠ 8 by decide), ccL_true (set_get_eq (show 12 < fl.length by omega))]
            exact hM2
        intro q_ w' ⟨A3, c3, hM, hf8, hF, hS, _⟩
        have hA := hS.all hF (by intro e he; simp only [List.mem_cons, List.not_mem_nil, or_false] at he; rcases he with rfl | rfl | rfl | rfl | rfl | rfl | rfl | rfl | rfl | rfl | rfl | rfl <;> exact Nat.le_of_ble_eq_true rfl) (by intro e he; simp only [List.mem_cons, List.not_mem_nil, or_false] at he; rcases he with rfl | rfl | rfl | rfl | rfl | rfl | rfl | rfl | rfl | rfl | rfl | rfl <;> exact Nat.le_of_ble_eq_true rfl) (show ([104, 105, 106, 107, 108, 109, 110, 111, 112, 103, 113, 114] : List Nat).Nodup by decide)
        subst hA
        simp only [ccL_true (rep_get (show 12 < 13 by decide))] at hM
        have hf8 := Aside0.mk (hf8 (rep_get (show 8 < 13 by decide)))
        replace hM := hM.imp (fun w h => (⟨h.1.1.1, h.2 (rep_get (show 8 < 13 by decide))⟩ : (Kd.C (Kd.int .i64) w (some ak) ks.length ks ∧ Kd.C Kd.string w (some an) ns.length ns) ∧ Tr A3 l3 w))
        clear HM
        have HM := Aside0.mk hM
        clear hM hF hS
        simp only [fillAll, List.map_cons, List.map_nil, Act.put, List.setIfInBounds_toArray, List.set_cons_zero, List.set_cons_succ]
        go_wp2_with (first|go_skip|((with_reducible refine' lc HM ?qw rfl ?qx ?qm ?qa ?qv ?_);(case qw|qx|qa=>rfl);(case qm=>repeat constructor);(case qv=>rfl))|((with_reducible refine' la HM ?qw rfl ?qx ?qm ?qa ?_);(case qw|qx=>rfl);(case qm=>repeat constructor);(case qa=>rfl))|((with_reducible refine' pa HM ?qw rfl ?qx _ ?qy ?qm ?qa ?_);(case qw|qx|qy=>rfl);(case qm=>repeat constructor);(case qa=>rfl);clear HM;intro _ HM)|((with_reducible refine' pc HM ?qw rfl ?qx ?qa ?qy ?qm ?qo ?qi ?_);(case qw|qx|qa=>rfl);(case qy=>first|exact (rfl:_=Value.int _ _)|exact (rfl:_=Value.slice _ _ _)|exact (rfl:_=Value.string _)|exact (rfl:_=Value.bool _));(case qm=>repeat constructor);(case qo=>exact ⟨rfl,rfl⟩);(case qi=>rfl);clear HM;intro _ HM;try simp only [List.set_cons_zero,List.set_cons_succ] at HM)|((with_reducible refine' bz HM ?qw rfl ?qa ?qc ?_);(case qw|qa|qc=>rfl);clear HM;intro _ _ HM))
        go_roundw
        case rel => exact ⟨i + 1, l3, n3, _, _, by go_num, ⟨by omega⟩, HI3, HL3, hf8, HM⟩
        case measure => simp [intOf]; omega
      · have q1 : (kd != 1) = true := bne_iff_ne.2 (by omega)
        have q2 : (kd != 3) = true := bne_iff_ne.2 (by omega)
        have q3 : (kd != 4) = false := bne_eq_false_iff_eq.2 (by omega)
        clear hk
        go_upto_region 13 with (first|go_skip|((with_reducible refine' lc HM ?qw rfl ?qx ?qm ?qa ?qv ?_);(case qw|qx|qa=>rfl);(case qm=>repeat constructor);(case qv=>rfl))|((with_reducible refine' la HM ?qw rfl ?qx ?qm ?qa ?_);(case qw|qx=>rfl);(case qm=>repeat constructor);(case qa=>rfl))|((with_reducible refine' pa HM ?qw rfl ?qx _ ?qy ?qm ?qa ?_);(case qw|qx|qy=>rfl);(case qm=>repeat constructor);(case qa=>rfl);clear HM;intro _ HM)|((with_reducible refine' pc HM ?qw rfl ?qx ?qa ?qy ?qm ?qo ?qi ?_);(case qw|qx|qa=>rfl);(case qy=>first|exact (rfl:_=Value.int _ _)|exact (rfl:_=Value.slice _ _ _)|exact (rfl:_=Value.string _)|exact (rfl:_=Value.bool _));(case qm=>repeat constructor);(case qo=>exact ⟨rfl,rfl⟩);(case qi=>rfl);clear HM;intro _ HM;try simp only [List.set_cons_zero,List.set_cons_succ] at HM)|((with_reducible refine' bz HM ?qw rfl ?qa ?qc ?_);(case qw|qa|qc=>rfl);clear HM;intro _ _ HM)|(go_at_call 22;refine (HCLN.out _ _ _ HM.out).mono ?_;rintro e _ ⟨Ap, cp, rfl, hc, hM⟩;have HCP := Aside0.mk hc; clear hc; clear HM;have HM:=Aside0.mk hM;clear hM))
        clear hsc
        have hkc := HKC.out _ HM.out.now.1.1.1
        go_upto_region 14 with (first|go_skip|((with_reducible refine' lc HM ?qw rfl ?qx ?qm ?qa ?qv ?_);(case qw|qx|qa=>rfl);(case qm=>repeat constructor);(case qv=>rfl))|((with_reducible refine' la HM ?qw rfl ?qx ?qm ?qa ?_);(case qw|qx=>rfl);(case qm=>repeat constructor);(case qa=>rfl))|((with_reducible refine' pa HM ?qw rfl ?qx _ ?qy ?qm ?qa ?_);(case qw|qx|qy=>rfl);(case qm=>repeat constructor);(case qa=>rfl);clear HM;intro _ HM)|((with_reducible refine' pc HM ?qw rfl ?qx ?qa ?qy ?qm ?qo ?qi ?_);(case qw|qx|qa=>rfl);(case qy=>first|exact (rfl:_=Value.int _ _)|exact (rfl:_=Value.slice _ _ _)|exact (rfl:_=Value.string _)|exact (rfl:_=Value.bool _));(case qm=>repeat constructor);(case qo=>exact ⟨rfl,rfl⟩);(case qi=>rfl);clear HM;intro _ HM;try simp only [List.set_cons_zero,List.set_cons_succ] at HM)|((with_reducible refine' bz HM ?qw rfl ?qa ?qc ?_);(case qw|qa|qc=>rfl);clear HM;intro _ _ HM))
        clear hkc
        refine r_relA (n := 13) (fun q0 fl q_ w' => ∃ (A3 : Option Addr) (c3 : Nat), Mem w (fun k => k < w.heap.size) w' ((g5, ccL fl 12 [.slice A3 l3.length c3, .int .i64 n3] [.slice A rs.length c, .int .i64 n], 35) :: []) (fun w => (fun w => ((Kd.C (Kd.int .i64) w (some ak) ks.length ks ∧ Kd.C Kd.string w (some an) ns.length ns) ∧ Tr A rs w) ∧ Sr Ap (ps.map mkS) w) w ∧ ck fl 8 (Tr A3 l3 w)) ∧ ck fl 8 (l3.length ≤ c3) ∧ Frm q0 q_ [104, 105, 106, 107, 108, 109, 110, 111, 112, 103, 113, 114] ∧ Slots q_ fl [(0, 104, Value.agg #[.slice A rs.length c, .int .i64 n]), (1, 105, Value.slice Ap ps.length cp), (2, 106, Value.string (mkS (joinS ps))), (3, 107, Value.slice (some ak) ks.length c0), (4, 108, Value.int .i64 (i : Int)), (5, 109, Value.pointer (some (ak.add i))), (6, 110, Value.int .i64 kd), (7, 111, Value.agg (nodeL (ndT kd)).toArray), (8, 112, Value.tuple #[Value.agg #[.slice A3 l3.length c3, .int .i64 n3], .int .i64 e3]), (9, 103, Value.tuple #[Value.agg #[.slice A3 l3.length c3, .int .i64 n3], .int .i64 e3]), (10, 113, Value.agg #[.slice A3 l3.length c3, .int .i64 n3]), (11, 114, Value.int .i64 e3)] ∧ Side [(12, 0), (9, 8), (10, 8), (11, 8), (12, 8)] fl) (by kernel_rfl) wt15r14Tab (by kernel_rfl) rfl rfl ?_ ?_ ?_
        · refine ⟨none, 0, ?_, ck_start, Frm.refl _ _, Slots.start, Side.start⟩
          have hM0 := HM.out.drew
          simp only [ccL_false rep_get0]
          exact hM0.imp (fun w h => ⟨h, ck_start⟩)
        rotate_left
        · intro fl q_ w' iq o hl hi ho hr ⟨A3, c3, hM, hf8, hF, hS, hD⟩ K hK
          clear HM
          obtain ⟨_, rfl⟩ := Array.getElem?_eq_some_iff.1 ho
          clear ho
          have x0 := hF.get (N:=0) (by decide) (rfl:_=Value.slice (some ak) ks.length c0)
          have x5 := hF.get (N:=5) (by decide) (rfl:_=Value.pointer (some ⟨g5, 0, none⟩))
          have x9 := hF.get (N:=9) (by decide) (rfl:_=Value.int .i64 (i : Int))
          have x11 := hF.get (N:=11) (by decide) (rfl:_=Value.slice Ap ps.length cp)
          have hz : q_.tmps.size = _ := hF.z
          have HF := Aside0.mk hF
          clear hF
          have hi2 : iq < 13 := hi
          have hc : iq = 0 ∨ iq = 1 ∨ iq = 2 ∨ iq = 3 ∨ iq = 4 ∨ iq = 5 ∨ iq = 6 ∨ iq = 7 ∨ iq = 8 ∨ iq = 9 ∨ iq = 10 ∨ iq = 11 ∨ iq = 12 := by omega
          rcases hc with rfl | rfl | rfl | rfl | rfl | rfl | rfl | rfl | rfl | rfl | rfl | rfl | rfl
          · have f0 := get_tf (by omega) (ready_self hr)
            have f12 : fl.getD 12 false = false := hD.no (j:=0) (by decide) f0
            have hM3 := hM
            simp only [ccL_false f12] at hM3
            refine k_all hM3 (wanted_none rfl) rfl x5 (by repeat constructor) rfl ?_
            exact hK _ _ ⟨A3, c3, by simpa only [ccL_ne (show (0:Nat) ≠ 12 by decide), ck_ne (show (0:Nat) ≠ 8 by decide)] using hM, by simpa only [ck_ne (show (0:Nat) ≠ 8 by decide)] using hf8, HF.out.put _ (by decide), hS.set 0 rfl (by omega) (by rw [hz]; exact Nat.le_of_ble_eq_true rfl) (show ([0, 1, 2, 3, 4, 5, 6, 7, 8, 9, 10, 11] : List Nat).Nodup by decide) (show ([104, 105, 106, 107, 108, 109, 110, 111, 112, 103, 113, 114] : List Nat).Nodup by decide), hD.skip (by omega) (by decide)⟩
          · refine k_mv (Value.slice Ap ps.length cp) (wanted_none rfl) (by first|exact .inl rfl|exact .inr rfl) x11 ?_
            exact hK _ _ ⟨A3, c3, by simpa only [ccL_ne (show (1:Nat) ≠ 12 by decide), ck_ne (show (1:Nat) ≠ 8 by decide)] using hM, by simpa only [ck_ne (show (1:Nat) ≠ 8 by decide)] using hf8, HF.out.put _ (by decide), hS.set 1 rfl (by omega) (by rw [hz]; exact Nat.le_of_ble_eq_true rfl) (show ([0, 1, 2, 3, 4, 5, 6, 7, 8, 9, 10, 11] : List Nat).Nodup by decide) (show ([104, 105, 106, 107, 108, 109, 110, 111, 112, 103, 113, 114] : List Nat).Nodup by decide), hD.skip (by omega) (by decide)⟩
          · have x105 := hS.nth 1 rfl (ready_dep hr rfl (show 1 ∈ _ by decide))
            refine goes_ Tryd.func24 (by kernel_rfl) rfl #[Value.slice Ap ps.length cp] (wanted_none rfl) rfl rfl (by simp only [List.map_toArray, List.map_cons, List.map_nil, x105]) ?_
            refine (join_M hM (fun _ h => h.1.2) HCP.out HGD.out).mono ?_
            rintro e w_ ⟨rfl, hM2⟩
            refine ⟨_, rfl, ?_⟩
            exact hK _ _ ⟨A3, c3, by simpa only [ccL_ne (show (2:Nat) ≠ 12 by decide), ck_ne (show (2:Nat) ≠ 8 by decide)] using hM2, by simpa only [ck_ne (show (2:Nat) ≠ 8 by decide)] using hf8, HF.out.put _ (by decide), hS.set 2 rfl (by omega) (by rw [hz]; exact Nat.le_of_ble_eq_true rfl) (show ([0, 1, 2, 3, 4, 5, 6, 7, 8, 9, 10, 11] : List Nat).Nodup by decide) (show ([104, 105, 106, 107, 108, 109, 110, 111, 112, 103, 113, 114] : List Nat).Nodup by decide), hD.skip (by omega) (by decide)⟩
          · refine k_mv (Value.slice (some ak) ks.length c0) (wanted_none rfl) (by first|exact .inl rfl|exact .inr rfl) x0 ?_
            exact hK _ _ ⟨A3, c3, by simpa only [ccL_ne (show (3:Nat) ≠ 12 by decide), ck_ne (show (3:Nat) ≠ 8 by decide)] using hM, by simpa only [ck_ne (show (3:Nat) ≠ 8 by decide)] using hf8, HF.out.put _ (by decide), hS.set 3 rfl (by omega) (by rw [hz]; exact Nat.le_of_ble_eq_true rfl) (show ([0, 1, 2, 3, 4, 5, 6, 7, 8, 9, 10, 11] : List Nat).Nodup by decide) (show ([104, 105, 106, 107, 108, 109, 110, 111, 112, 103, 113, 114] : List Nat).Nodup by decide), hD.skip (by omega) (by decide)⟩
          · refine k_mv (Value.int .i64 (i : Int)) (wanted_none rfl) (by first|exact .inl rfl|exact .inr rfl) x9 ?_
            exact hK _ _ ⟨A3, c3, by simpa only [ccL_ne (show (4:Nat) ≠ 12 by decide), ck_ne (show (4:Nat) ≠ 8 by decide)] using hM, by simpa only [ck_ne (show (4:Nat) ≠ 8 by decide)] using hf8, HF.out.put _ (by decide), hS.set 4 rfl (by omega) (by rw [hz]; exact Nat.le_of_ble_eq_true rfl) (show ([0, 1, 2, 3, 4, 5, 6, 7, 8, 9, 10, 11] : List Nat).Nodup by decide) (show ([104, 105, 106, 107, 108, 109, 110, 111, 112, 103, 113, 114] : List Nat).Nodup by decide), hD.skip (by omega) (by decide)⟩
          · have x107 := hS.nth 3 rfl (ready_dep hr rfl (show 3 ∈ _ by decide))
            have x108 := hS.nth 4 rfl (ready_dep hr rfl (show 4 ∈ _ by decide))
            have y107 := slot_get x107
            have y108 := slot_get x108
            refine k_pure (Value.pointer (some (ak.add i))) (wanted_none rfl) (by first|(go_simp;done)|(go_simp;simp only [y107, y108];done)|(go_simp;simp only [y107, y108];go_simp)) ?_
            exact hK _ _ ⟨A3, c3, by simpa only [ccL_ne (show (5:Nat) ≠ 12 by decide), ck_ne (show (5:Nat) ≠ 8 by decide)] using hM, by simpa only [ck_ne (show (5:Nat) ≠ 8 by decide)] using hf8, HF.out.put _ (by decide), hS.set 5 rfl (by omega) (by rw [hz]; exact Nat.le_of_ble_eq_true rfl) (show ([0, 1, 2, 3, 4, 5, 6, 7, 8, 9, 10, 11] : List Nat).Nodup by decide) (show ([104, 105, 106, 107, 108, 109, 110, 111, 112, 103, 113, 114] : List Nat).Nodup by decide), hD.skip (by omega) (by decide)⟩
          · have x109 := hS.nth 5 rfl (ready_dep hr rfl (show 5 ∈ _ by decide))
            refine k_ld (wanted_none rfl) rfl x109 rfl (HKC.out _ hM.now.1.1.1.1) ?_
            exact hK _ _ ⟨A3, c3, by simpa only [ccL_ne (show (6:Nat) ≠ 12 by decide), ck_ne (show (6:Nat) ≠ 8 by decide)] using hM, by simpa only [ck_ne (show (6:Nat) ≠ 8 by decide)] using hf8, HF.out.put _ (by decide), hS.set 6 rfl (by omega) (by rw [hz]; exact Nat.le_of_ble_eq_true rfl) (show ([0, 1, 2, 3, 4, 5, 6, 7, 8, 9, 10, 11] : List Nat).Nodup by decide) (show ([104, 105, 106, 107, 108, 109, 110, 111, 112, 103, 113, 114] : List Nat).Nodup by decide), hD.skip (by omega) (by decide)⟩
          · have x110 := hS.nth 6 rfl (ready_dep hr rfl (show 6 ∈ _ by decide))
            have y110 := slot_get x110
            refine k_pure (Value.agg (nodeL (ndT kd)).toArray) (wanted_none rfl) (by first|(go_simp;done)|(go_simp;simp only [y110];done)|(go_simp;simp only [y110];go_simp)|(go_simp;rfl)) ?_
            exact hK _ _ ⟨A3, c3, by simpa only [ccL_ne (show (7:Nat) ≠ 12 by decide), ck_ne (show (7:Nat) ≠ 8 by decide)] using hM, by simpa only [ck_ne (show (7:Nat) ≠ 8 by decide)] using hf8, HF.out.put _ (by decide), hS.set 7 rfl (by omega) (by rw [hz]; exact Nat.le_of_ble_eq_true rfl) (show ([0, 1, 2, 3, 4, 5, 6, 7, 8, 9, 10, 11] : List Nat).Nodup by decide) (show ([104, 105, 106, 107, 108, 109, 110, 111, 112, 103, 113, 114] : List Nat).Nodup by decide), hD.skip (by omega) (by decide)⟩
          · have x104 := hS.nth 0 rfl (ready_dep hr rfl (show 0 ∈ _ by decide))
            have x106 := hS.nth 2 rfl (ready_dep hr rfl (show 2 ∈ _ by decide))
            have x111 := hS.nth 7 rfl (ready_dep hr rfl (show 7 ∈ _ by decide))
            have f0 := get_tf (by omega) (ready_self hr)
            have n9 : fl.getD 9 false = false := hD.no (j:=8) (by decide) f0
            have n10 : fl.getD 10 false = false := hD.no (j:=8) (by decide) f0
            have n11 : fl.getD 11 false = false := hD.no (j:=8) (by decide) f0
            have n12 : fl.getD 12 false = false := hD.no (j:=8) (by decide) f0
            refine goes_ Tryd.func38 (by kernel_rfl) rfl #[Value.agg #[.slice A rs.length c, .int .i64 n], Value.string (mkS (joinS ps)), Value.agg (nodeL (ndT kd)).toArray] (wanted_none rfl) rfl rfl (by simp only [List.map_toArray, List.map_cons, List.map_nil, x104, x106, x111]) ?_
            refine (HAD.out _ _ _ hM (fun _ h => h.1.1.2) HC.out).mono ?_
            rintro e w_ ⟨A4, c4, rfl, hc2, hM2⟩
            refine ⟨_, rfl, ?_⟩
            refine hK _ _ ⟨A4, c4, ?_, fun _ => hc2, HF.out.put _ (by decide), hS.turn (by omega) (by rw [hz]; exact Nat.le_of_ble_eq_true rfl) (by intro e he h; simp only [List.mem_cons, List.not_mem_nil, or_false] at he; rcases he with rfl | rfl | rfl | rfl | rfl | rfl | rfl | rfl | rfl | rfl | rfl | rfl <;> first | rfl | exact absurd h (Nat.ne_of_beq_eq_false rfl)) (by intro e he h; simp only [List.mem_cons, List.not_mem_nil, or_false] at he; rcases he with rfl | rfl | rfl | rfl | rfl | rfl | rfl | rfl | rfl | rfl | rfl | rfl <;> first | exact absurd rfl h | exact .inr n9 | exact .inr n10 | exact .inr n11 | exact .inl ⟨by simp, Nat.ne_of_beq_eq_false rfl⟩), hD.skip (by omega) (by decide)⟩
            simp only [ccL_ne (show (8:Nat) ≠ 12 by decide), ccL_false n12] at hM2 ⊢
            exact hM2.imp (fun w h => ⟨h.1.1, fun _ => h.2⟩)
          · have x112 := hS.nth 8 rfl (ready_dep hr rfl (show 8 ∈ _ by decide))
            refine k_mv (Value.tuple #[Value.agg #[.slice A3 l3.length c3, .int .i64 n3], .int .i64 e3]) (wanted_none rfl) (by first|exact .inl rfl|exact .inr rfl) x112 ?_
            exact hK _ _ ⟨A3, c3, by simpa only [ccL_ne (show (9:Nat) ≠ 12 by decide), ck_ne (show (9:Nat) ≠ 8 by decide)] using hM, by simpa only [ck_ne (show (9:Nat) ≠ 8 by decide)] using hf8, HF.out.put _ (by decide), hS.set 9 rfl (by omega) (by rw [hz]; exact Nat.le_of_ble_eq_true rfl) (show ([0, 1, 2, 3, 4, 5, 6, 7, 8, 9, 10, 11] : List Nat).Nodup by decide) (show ([104, 105, 106, 107, 108, 109, 110, 111, 112, 103, 113, 114] : List Nat).Nodup by decide), hD.step (by omega) (by intro p hp e; simp only [List.mem_cons, List.not_mem_nil, or_false] at hp; rcases hp with rfl | rfl | rfl | rfl | rfl <;> first | exact absurd e (by decide) | exact ready_dep hr rfl (show 8 ∈ _ by decide))⟩
          · have x103 := hS.nth 9 rfl (ready_dep hr rfl (show 9 ∈ _ by decide))
            refine k_ex (Value.agg #[.slice A3 l3.length c3, .int .i64 n3]) (wanted_none rfl) rfl x103 rfl ?_
            exact hK _ _ ⟨A3, c3, by simpa only [ccL_ne (show (10:Nat) ≠ 12 by decide), ck_ne (show (10:Nat) ≠ 8 by decide)] using hM, by simpa only [ck_ne (show (10:Nat) ≠ 8 by decide)] using hf8, HF.out.put _ (by decide), hS.set 10 rfl (by omega) (by rw [hz]; exact Nat.le_of_ble_eq_true rfl) (show ([0, 1, 2, 3, 4, 5, 6, 7, 8, 9, 10, 11] : List Nat).Nodup by decide) (show ([104, 105, 106, 107, 108, 109, 110, 111, 112, 103, 113, 114] : List Nat).Nodup by decide), hD.step (by omega) (by intro p hp e; simp only [List.mem_cons, List.not_mem_nil, or_false] at hp; rcases hp with rfl | rfl | rfl | rfl | rfl <;> first | exact absurd e (by decide) | exact hD (9, 8) (by decide) (ready_dep hr rfl (show 9 ∈ _ by decide)))⟩
          · have x103 := hS.nth 9 rfl (ready_dep hr rfl (show 9 ∈ _ by decide))
            refine k_ex (Value.int .i64 e3) (wanted_none rfl) rfl x103 rfl ?_
            exact hK _ _ ⟨A3, c3, by simpa only [ccL_ne (show (11:Nat) ≠ 12 by decide), ck_ne (show (11:Nat) ≠ 8 by decide)] using hM, by simpa only [ck_ne (show (11:Nat) ≠ 8 by decide)] using hf8, HF.out.put _ (by decide), hS.set 11 rfl (by omega) (by rw [hz]; exact Nat.le_of_ble_eq_true rfl) (show ([0, 1, 2, 3, 4, 5, 6, 7, 8, 9, 10, 11] : List Nat).Nodup by decide) (show ([104, 105, 106, 107, 108, 109, 110, 111, 112, 103, 113, 114] : List Nat).Nodup by decide), hD.step (by omega) (by intro p hp e; simp only [List.mem_cons, List.not_mem_nil, or_false] at hp; rcases hp with rfl | rfl | rfl | rfl | rfl <;> first | exact absurd e (by decide) | exact hD (9, 8) (by decide) (ready_dep hr rfl (show 9 ∈ _ by decide)))⟩
          · have x113 := hS.nth 10 rfl (ready_dep hr rfl (show 10 ∈ _ by decide))
            have f0 := get_tf (by omega) (ready_self hr)
            simp only [ccL_false f0] at hM
            refine k_put hM (wanted_none rfl) rfl rfl x5 _ x113 (by repeat constructor) rfl ?_
            intro w_ hM2
            refine hK _ _ ⟨A3, c3, ?_, by simpa only [ck_ne (show (12:Nat) ≠ 8 by decide)] using hf8, HF.out, hS.keep (by intro e he; simp only [List.mem_cons, List.not_mem_nil, or_false] at he; rcases he with rfl | rfl | rfl | rfl | rfl | rfl | rfl | rfl | rfl | rfl | rfl | rfl <;> exact Nat.ne_of_beq_eq_false rfl), hD.step (by omega) (by intro p hp e; simp only [List.mem_cons, List.not_mem_nil, or_false] at hp; rcases hp with rfl | rfl | rfl | rfl | rfl <;> first | exact absurd e (by decide) | exact ready_dep hr rfl (show 0 ∈ _ by decide) | exact ready_dep hr rfl (show 8 ∈ _ by decide))⟩
            simp only [ck_ne (show (12:Nat) ≠ 8 by decide), ccL_true (set_get_eq (show 12 < fl.length by omega))]
            exact hM2
        intro q_ w' ⟨A3, c3, hM, hf8, hF, hS, _⟩
        have hA := hS.all hF (by intro e he; simp only [List.mem_cons, List.not_mem_nil, or_false] at he; rcases he with rfl | rfl | rfl | rfl | rfl | rfl | rfl | rfl | rfl | rfl | rfl | rfl <;> exact Nat.le_of_ble_eq_true rfl) (by intro e he; simp only [List.mem_cons, List.not_mem_nil, or_false] at he; rcases he with rfl | rfl | rfl | rfl | rfl | rfl | rfl | rfl | rfl | rfl | rfl | rfl <;> exact Nat.le_of_ble_eq_true rfl) (show ([104, 105, 106, 107, 108, 109, 110, 111, 112, 103, 113, 114] : List Nat).Nodup by decide)
        subst hA
        simp only [ccL_true (rep_get (show 12 < 13 by decide))] at hM
        have hf8 := Aside0.mk (hf8 (rep_get (show 8 < 13 by decide)))
        replace hM := hM.imp (fun w h => (⟨h.1.1.1, h.2 (rep_get (show 8 < 13 by decide))⟩ : (Kd.C (Kd.int .i64) w (some ak) ks.length ks ∧ Kd.C Kd.string w (some an) ns.length ns) ∧ Tr A3 l3 w))
        clear HM
        have HM := Aside0.mk hM
        clear hM hF hS
        simp only [fillAll, List.map_cons, List.map_nil, Act.put, List.setIfInBounds_toArray, List.set_cons_zero, List.set_cons_succ]
        go_wp2_with (first|go_skip|((with_reducible refine' lc HM ?qw rfl ?qx ?qm ?qa ?qv ?_);(case qw|qx|qa=>rfl);(case qm=>repeat constructor);(case qv=>rfl))|((with_reducible refine' la HM ?qw rfl ?qx ?qm ?qa ?_);(case qw|qx=>rfl);(case qm=>repeat constructor);(case qa=>rfl))|((with_reducible refine' pa HM ?qw rfl ?qx _ ?qy ?qm ?qa ?_);(case qw|qx|qy=>rfl);(case qm=>repeat constructor);(case qa=>rfl);clear HM;intro _ HM)|((with_reducible refine' pc HM ?qw rfl ?qx ?qa ?qy ?qm ?qo ?qi ?_);(case qw|qx|qa=>rfl);(case qy=>first|exact (rfl:_=Value.int _ _)|exact (rfl:_=Value.slice _ _ _)|exact (rfl:_=Value.string _)|exact (rfl:_=Value.bool _));(case qm=>repeat constructor);(case qo=>exact ⟨rfl,rfl⟩);(case qi=>rfl);clear HM;intro _ HM;try simp only [List.set_cons_zero,List.set_cons_succ] at HM)|((with_reducible refine' bz HM ?qw rfl ?qa ?qc ?_);(case qw|qa|qc=>rfl);clear HM;intro _ _ HM))
        go_roundw
        case rel => exact ⟨i + 1, l3, n3, _, _, by go_num, ⟨by omega⟩, HI3, HL3, hf8, HM⟩
        case measure => simp [intOf]; omega
    · have hil : i = ns.length := by have := HII.out; omega
      have hlz : ¬ ((i : Int) < (ns.length : Int)) := by omega
      have HLR := Aside0.mk (show rs.length ≤ 2265 ∧ n ≤ 2265 by have := HLN.out; have := HII.out; have := HL15.out; omega)
      clear hil HII hib HLN
      have hrz : (rs.length : Int) ≤ 2265 := by have := HLR.out; omega
      have HTB : Aside0 (∀ (al td : List Pth) (cs : List S44), DfsIn rs al td cs → (∀ d ∈ td, d ≠ []) → td.length ≤ rs.length + 1) := ⟨fun al td cs h h2 => dfs_todo HI.out h h2⟩
      have HTL : Aside0 (∀ (al td : List Pth) (cs : List S44), DfsIn rs al td cs → (∀ d ∈ td, d ≠ []) → td.length ≤ rs.length + 1) := HTB
      go_wp2_with (first|go_skip|((with_reducible refine' lc HM ?qw rfl ?qx ?qm ?qa ?qv ?_);(case qw|qx|qa=>rfl);(case qm=>repeat constructor);(case qv=>rfl))|((with_reducible refine' la HM ?qw rfl ?qx ?qm ?qa ?_);(case qw|qx=>rfl);(case qm=>repeat constructor);(case qa=>rfl))|((with_reducible refine' pa HM ?qw rfl ?qx _ ?qy ?qm ?qa ?_);(case qw|qx|qy=>rfl);(case qm=>repeat constructor);(case qa=>rfl);clear HM;intro _ HM)|((with_reducible refine' pc HM ?qw rfl ?qx ?qa ?qy ?qm ?qo ?qi ?_);(case qw|qx|qa=>rfl);(case qy=>first|exact (rfl:_=Value.int _ _)|exact (rfl:_=Value.slice _ _ _)|exact (rfl:_=Value.string _)|exact (rfl:_=Value.bool _));(case qm=>repeat constructor);(case qo=>exact ⟨rfl,rfl⟩);(case qi=>rfl);clear HM;intro _ HM;try simp only [List.set_cons_zero,List.set_cons_succ] at HM)|((with_reducible refine' bsG HM rfl rfl ?qx (fun w=>run_bs9 w ⟨#[]⟩) ?_);(case qx=>rfl);clear HM;intro gt _ HM))
      have hM9 := HM.out.swap
      clear HM
      have HM := Aside0.mk hM9
      clear hM9
      go_loopw [13, 14, 17] (fun v13 v14 v17 wr => ∃ (all todo : List Pth) (va vt : Value) (Xa Xt : List Bx) (fst : Bool), v13 = va ∧ v14 = vt ∧ v17 = (if fst = true then undef else .int .i64 0) ∧ Aside0 (OwnB 9 1 va all.length (txC all) Xa) ∧ Aside0 (OwnB 9 1 vt todo.length (txC todo) Xt) ∧ Aside0 (Dfs rs all todo) ∧ Aside0 ((fst = true → todo = [[]] ∧ all = []) ∧ (fst = false → ∀ d ∈ todo, d ≠ [])) ∧ Aside0 (Mem w (fun k => k < w.heap.size) wr ((g5, [.slice A rs.length c, .int .i64 n], 35) :: (Xa ++ Xt)) (fun w => (Kd.C (Kd.int .i64) w A0 ks.length ks ∧ Kd.C Kd.string w A1 ns.length ns) ∧ Tr A rs w))) (fun v13 _ v17 _ => 2 * (rs.length - lenOf v13) + flagOf v17)
      case atStart => exact ⟨[], [[]], _, _, [], [(gt, [.string ⟨#[]⟩], 9)], true, rfl, rfl, rfl, ⟨OwnB.nil _ _⟩, ⟨.inr ⟨gt, 1, [], rfl, rfl, rfl, rfl, Nat.le_refl _, by decide⟩⟩, ⟨dfs_start rs⟩, ⟨⟨fun _ => ⟨rfl, rfl⟩, fun h => by cases h⟩⟩, HM⟩
      case round =>
        clear HM
        obtain ⟨all, todo, va, vt, Xa, Xt, fst, rfl, rfl, rfl, HOA, HOT, HD, HF, HM⟩ := hrel
        obtain ⟨Aa, ca, rfl⟩ := HOA.out.slice
        rcases List.eq_nil_or_concat todo with rfl | ⟨td, d, rfl⟩
        · have hperm := dfs_end HD.out
          have hlen : all.length = rs.length := by have := hperm.length_eq; rwa [List.length_map] at this
          have kl2 : ((all.length : Int) != (rs.length : Int)) = false := bne_eq_false_iff_eq.2 (by omega)
          have HND : Aside0 (all.Nodup) := ⟨hperm.nodup_iff.2 (paths_nodup HI.out)⟩
          have HPM : Aside0 (∀ p ∈ all, ∃ r, lookR rs p = some r ∧ Cl p) := ⟨fun p hp => by
            obtain ⟨r, hr, rfl⟩ := List.mem_map.1 (hperm.mem_iff.1 hp)
            exact ⟨r, look_of HI.out.sorted hr, (HI.out.clean r hr).1⟩⟩
          have haz : (all.length : Int) ≤ 2265 := by omega
          have HAZ := Aside0.mk haz
          obtain ⟨At, ct, rfl⟩ := HOT.out.slice
          have hO : OwnB 9 (Kd.string).sz (.slice Aa all.length ca) (all.map tx).length (cellsX st9 (all.map tx)) Xa := by rw [← txC_cells, List.length_map]; exact HOA.out
          obtain ⟨A9, c9, hv, hc9, hM9⟩ := handX sx9 (HM.out.perm (B' := ((g5, [.slice A rs.length c, .int .i64 n], 35) :: Xt) ++ Xa) (List.Perm.cons _ List.perm_append_comm)) hO
          injection hv with e1 e2 e3
          subst e1
          clear HM hO e2 e3 hc9 hperm hlen HD HF HOA HOT
          have HM := Aside0.mk hM9
          clear hM9
          have HOFF : Aside0 (∀ b, OffMap b (fun w => (fun w => (Kd.C (Kd.int .i64) w A0 ks.length ks ∧ Kd.C Kd.string w A1 ns.length ns) ∧ Tr A rs w) w ∧ Kd.C Kd.string w Aa (all.map tx).length (all.map tx))) := ⟨fun b => (((off_int b A0 ks).and (off_str b A1 ns)).and (off_tr b A rs)).and (off_str b Aa (all.map tx))⟩
          generalize (if fst = true then undef else Value.int .i64 0) = z17
          go_wp2_with (first|go_skip|((with_reducible refine' lc HM ?qw rfl ?qx ?qm ?qa ?qv ?_);(case qw|qx|qa=>rfl);(case qm=>repeat constructor);(case qv=>rfl))|((with_reducible refine' la HM ?qw rfl ?qx ?qm ?qa ?_);(case qw|qx=>rfl);(case qm=>repeat constructor);(case qa=>rfl))|((with_reducible refine' pa HM ?qw rfl ?qx _ ?qy ?qm ?qa ?_);(case qw|qx|qy=>rfl);(case qm=>repeat constructor);(case qa=>rfl);clear HM;intro _ HM)|((with_reducible refine' pc HM ?qw rfl ?qx ?qa ?qy ?qm ?qo ?qi ?_);(case qw|qx|qa=>rfl);(case qy=>first|exact (rfl:_=Value.int _ _)|exact (rfl:_=Value.slice _ _ _)|exact (rfl:_=Value.string _)|exact (rfl:_=Value.bool _));(case qm=>repeat constructor);(case qo=>exact ⟨rfl,rfl⟩);(case qi=>rfl);clear HM;intro _ HM;try simp only [List.set_cons_zero,List.set_cons_succ] at HM)|((with_reducible refine' make_seen HM ?qw rfl ?_);(case qw=>rfl);clear HM;intro b _ HBB HM))
          have hoff := HOFF.out b
          clear HOFF
          have HOFF := Aside0.mk hoff
          clear hoff kl2
          go_loopw [184] (fun v184 wr => ∃ (i : Nat) (L : List (List UInt8)), v184 = .int .i64 i ∧ Aside0 (i ≤ all.length) ∧ Aside0 (L.length ≤ i ∧ ∀ s ∈ L, ∃ p ∈ all.take i, joinS p = s) ∧ Aside0 (Mem w (fun k => k < w.heap.size) wr ((g5, [.slice A rs.length c, .int .i64 n], 35) :: Xt) (fun w => (fun w => (fun w => (Kd.C (Kd.int .i64) w A0 ks.length ks ∧ Kd.C Kd.string w A1 ns.length ns) ∧ Tr A rs w) w ∧ Kd.C Kd.string w Aa (all.map tx).length (all.map tx)) w ∧ SeenAt w b L))) (fun v184 _ => all.length - (intOf v184).toNat)
          case atStart => exact ⟨0, [], rfl, ⟨Nat.zero_le _⟩, ⟨Nat.le_refl _, fun s hs => by cases hs⟩, HM⟩
          case round =>
            clear HM
            obtain ⟨i, L, rfl, HII3, HLS3, HM⟩ := hrel
            have hib3 : (i : Int) ≤ 2265 := by have := HII3.out; omega
            by_cases hlt3 : i < all.length
            · have hlz3 : (i : Int) < (all.length : Int) := by omega
              obtain ⟨aa, eaa, hpc⟩ := at_str HM.out.now.1.2 i (by rw [List.length_map]; exact hlt3)
              rw [List.getElem_map] at hpc
              obtain ⟨r, hlr, hcl⟩ := HPM.out _ (List.getElem_mem hlt3)
              have hnm : all[i] ∉ all.take i := fun hm => by
                have h : (all.take i ++ all.drop i).Nodup := by rw [List.take_append_drop]; exact HND.out
                rw [List.nodup_append] at h
                exact h.2.2 _ hm _ (by rw [List.drop_eq_getElem_cons hlt3]; exact List.mem_cons_self) rfl
              have hti : all.take (i + 1) = all.take i ++ [all[i]] := List.take_succ_eq_append_getElem hlt3
              have HPG : Aside0 (∀ q ∈ all.take i, Cl q) := ⟨fun q hq => by
                obtain ⟨_, _, h⟩ := HPM.out q (List.mem_of_mem_take hq)
                exact h⟩
              generalize all[i] = p at hpc hlr hcl hnm hti
              have HTI := Aside0.mk hti
              have HCL3 := Aside0.mk hcl
              have hsz : (tx p).size ≤ 300 := by unfold tx; rw [mk_size]; exact hcl.len
              have HSZ := Aside0.mk (show (tx p).size ≤ maxLen by unfold maxLen; omega)
              have hdt : (tx p).data.toList = joinS p := mkS_data _
              have kdn : decide ((tx p).data.toList ∈ L) = false := decide_eq_false (fun hm => by
                obtain ⟨q, hq, e⟩ := HLS3.out.2 _ hm
                rw [hdt] at e
                have : q = p := join_inj (HPG.out q hq).good hcl.good e
                exact hnm (this ▸ hq))
              have HLL := Aside0.mk (show L.length ≤ 1000000 by have := HLS3.out.1; omega)
              have hrl := HLR.out
              have HGT : Aside0 (∀ (W : World) (B : List Bx) (S : World → Prop) {A : Option Addr} {c : Nat}, Mem w (fun k => k < w.heap.size) W B S → (∀ w, S w → Tr A rs w) → rs.length ≤ c → Calls Tryd.prog 23 #[.agg #[.slice A rs.length c, .int .i64 n], .string (tx p)] W fun e w' => e = .returned (.tuple #[.agg (rowL r).toArray, .bool true]) ∧ Mem w (fun k => k < w.heap.size) w' B S) := ⟨fun W B S A c hM hS hc => get_some hM hS HI.out.wk hc (by omega) (Gd.of (.inr hcl)) hlr⟩
              obtain ⟨bb, hbb⟩ : ∃ bb, decide (joinS p ≠ []) = bb := ⟨_, rfl⟩
              have HUP : Aside0 (∀ (W : World) (B : List Bx) (S : World → Prop), Mem w (fun k => k < w.heap.size) W B S → Calls Tryd.prog 40 #[.string (tx p)] W fun e w' => e = .returned (.tuple #[.string (tx p.dropLast), .bool bb]) ∧ Mem w (fun k => k < w.heap.size) w' B S) := ⟨fun W B S hM => by have := up_M (a := joinS p) (by have := hcl.len; omega) hM; rw [up_join hcl, hbb] at this; exact this⟩
              have hpd : Dir p.dropLast := ⟨fun q hq => hcl.good q (List.dropLast_subset _ hq), by
                have := up_join hcl
                by_cases h1 : p.dropLast = []
                · rw [h1]; decide
                · have := (hcl.dl h1).len; omega⟩
              have HPD := Aside0.mk hpd
              have HL3 : Aside0 ((((tx p).data.toList :: L)).length ≤ i + 1 ∧ ∀ s ∈ ((tx p).data.toList :: L), ∃ q ∈ all.take (i + 1), joinS q = s) := ⟨by have := HLS3.out.1; simp only [List.length_cons]; omega, fun s hs => by
                rw [HTI.out]
                rcases List.mem_cons.1 hs with rfl | hs
                · exact ⟨p, by simp, hdt.symm⟩
                · obtain ⟨q, hq, e⟩ := HLS3.out.2 s hs
                  exact ⟨q, List.mem_append_left _ hq, e⟩⟩
              clear hlr hcl hnm hti hsz hdt hpd hrl
              subst eaa
              go_upto_region 38 with (first|go_skip|((with_reducible refine' lc HM ?qw rfl ?qx ?qm ?qa ?qv ?_);(case qw|qx|qa=>rfl);(case qm=>repeat constructor);(case qv=>rfl))|((with_reducible refine' la HM ?qw rfl ?qx ?qm ?qa ?_);(case qw|qx=>rfl);(case qm=>repeat constructor);(case qa=>rfl))|((with_reducible refine' pa HM ?qw rfl ?qx _ ?qy ?qm ?qa ?_);(case qw|qx|qy=>rfl);(case qm=>repeat constructor);(case qa=>rfl);clear HM;intro _ HM)|((with_reducible refine' pc HM ?qw rfl ?qx ?qa ?qy ?qm ?qo ?qi ?_);(case qw|qx|qa=>rfl);(case qy=>first|exact (rfl:_=Value.int _ _)|exact (rfl:_=Value.slice _ _ _)|exact (rfl:_=Value.string _)|exact (rfl:_=Value.bool _));(case qm=>repeat constructor);(case qo=>exact ⟨rfl,rfl⟩);(case qi=>rfl);clear HM;intro _ HM;try simp only [List.set_cons_zero,List.set_cons_succ] at HM))
              clear hpc
              go_upto_region 43 with (first|go_skip|((with_reducible refine gate_dst (N := 22) rfl ?_);(with_reducible refine' bz HM ?qw rfl ?qa ?qc ?_);(case qw|qa|qc=>rfl);clear HM;intro g22 _ HM)|((with_reducible refine' lc HM ?qw rfl ?qx ?qm ?qa ?qv ?_);(case qw|qx|qa=>rfl);(case qm=>repeat constructor);(case qv=>rfl))|((with_reducible refine' la HM ?qw rfl ?qx ?qm ?qa ?_);(case qw|qx=>rfl);(case qm=>repeat constructor);(case qa=>rfl))|((with_reducible refine' pa HM ?qw rfl ?qx _ ?qy ?qm ?qa ?_);(case qw|qx|qy=>rfl);(case qm=>repeat constructor);(case qa=>rfl);clear HM;intro _ HM)|((with_reducible refine' pc HM ?qw rfl ?qx ?qa ?qy ?qm ?qo ?qi ?_);(case qw|qx|qa=>rfl);(case qy=>first|exact (rfl:_=Value.int _ _)|exact (rfl:_=Value.slice _ _ _)|exact (rfl:_=Value.string _)|exact (rfl:_=Value.bool _));(case qm=>repeat constructor);(case qo=>exact ⟨rfl,rfl⟩);(case qi=>rfl);clear HM;intro _ HM;try simp only [List.set_cons_zero,List.set_cons_succ] at HM)|(go_at_call 23;refine (HGT.out _ _ _ HM.out (fun _ h => h.1.1.2) HC.out).mono ?_;rintro e _ ⟨rfl, hM⟩;clear HM;have HM:=Aside0.mk hM;clear hM)|((with_reducible refine' look_seen HM ?qw rfl ?qm ?qx ?qs ?_);(case qw=>rfl);(case qm|qx=>rfl);(case qs=>exact HSZ.out))|((with_reducible refine' add_seen HM HOFF.out HBB HLL.out rfl rfl ?qm ?qx HSZ.out ?qv ?_);(case qm|qx|qv=>rfl);clear HM;intro _ HM)|(go_at_call 40;refine (HUP.out _ _ _ HM.out).mono ?_;rintro e _ ⟨rfl, hM⟩;clear HM;have HM:=Aside0.mk hM;clear hM))
              clear kdn
              generalize (tx p).data.toList :: L = L2 at HL3 HM
              go_wp2_with (first|go_skip|((with_reducible refine' lc HM ?qw rfl ?qx ?qm ?qa ?qv ?_);(case qw|qx|qa=>rfl);(case qm=>repeat constructor);(case qv=>rfl))|((with_reducible refine' la HM ?qw rfl ?qx ?qm ?qa ?_);(case qw|qx=>rfl);(case qm=>repeat constructor);(case qa=>rfl))|((with_reducible refine' pa HM ?qw rfl ?qx _ ?qy ?qm ?qa ?_);(case qw|qx|qy=>rfl);(case qm=>repeat constructor);(case qa=>rfl);clear HM;intro _ HM)|((with_reducible refine' pc HM ?qw rfl ?qx ?qa ?qy ?qm ?qo ?qi ?_);(case qw|qx|qa=>rfl);(case qy=>first|exact (rfl:_=Value.int _ _)|exact (rfl:_=Value.slice _ _ _)|exact (rfl:_=Value.string _)|exact (rfl:_=Value.bool _));(case qm=>repeat constructor);(case qo=>exact ⟨rfl,rfl⟩);(case qi=>rfl);clear HM;intro _ HM;try simp only [List.set_cons_zero,List.set_cons_succ] at HM))
              go_loopw [211] (fun v211 wr => ∃ (j : Nat), v211 = .int .i64 j ∧ Aside0 (j ≤ rs.length) ∧ Aside0 (Mem w (fun k => k < w.heap.size) wr ((g22, rowL r, 44) :: (g5, [.slice A rs.length c, .int .i64 n], 35) :: Xt) (fun w => (fun w => (fun w => (Kd.C (Kd.int .i64) w A0 ks.length ks ∧ Kd.C Kd.string w A1 ns.length ns) ∧ Tr A rs w) w ∧ Kd.C Kd.string w (some aa) (all.map tx).length (all.map tx)) w ∧ SeenAt w b L2))) (fun v211 _ => rs.length - (intOf v211).toNat)
              case atStart => exact ⟨0, rfl, ⟨Nat.zero_le _⟩, HM⟩
              case round =>
                clear HM
                obtain ⟨j, rfl, HJJ, HM⟩ := hrel
                have hjb : (j : Int) ≤ 2265 := by have := HJJ.out; omega
                by_cases hlt4 : j < rs.length
                · have hlz4 : (j : Int) < (rs.length : Int) := by omega
                  have hyc := HI.out.clean _ (List.getElem_mem hlt4)
                  obtain ⟨ad, ea, hx0, hx1, hx2, hx3, hx4, hx5, hx6, hx7, hx8, hx9, hx10, hx11, hx12⟩ := at_T44 (HM.out.now.1.1.2) (j : Int) (by omega) (by omega)
                  have hrd : rd_T44 rs (j : Int) = rs[j] := by unfold rd_T44; rw [Int.toNat_natCast, List.getD_eq_getElem?_getD, List.getElem?_eq_getElem hlt4]; rfl
                  rw [Int.toNat_natCast, hrd] at hx0 hx1 hx2 hx3 hx4 hx5 hx6 hx7 hx8 hx9 hx11 hx12
                  rw [Int.toNat_natCast] at hx10
                  generalize rs[j] = y at hx0 hx1 hx2 hx3 hx4 hx5 hx6 hx7 hx8 hx9 hx11 hx12 hyc
                  clear hrd
                  subst ea
                  have hyd : Dir (pp y) := ⟨hyc.1.good, by have := hyc.1.len; omega⟩
                  obtain ⟨rl, hrl⟩ : ∃ rl, mkS (relS p.dropLast (pp y)) = rl := ⟨_, rfl⟩
                  have HREL : Aside0 (∀ (W : World) (B : List Bx) (S : World → Prop), Mem w (fun k => k < w.heap.size) W B S → Calls Tryd.prog 42 #[.string (tx p.dropLast), .string y.f0] W fun e w' => e = .returned (.string rl) ∧ Mem w (fun k => k < w.heap.size) w' B S) := ⟨fun W B S hM => by have := rel_M HPD.out hyd hM; rw [hrl, ← hyc.2] at this; exact this⟩
                  have HRES : Aside0 (∀ (W : World) (B : List Bx) (S : World → Prop), Mem w (fun k => k < w.heap.size) W B S → Calls Tryd.prog 41 #[.string (tx p.dropLast), .string rl] W fun e w' => e = .returned (.tuple #[.string y.f0, .int .i64 0]) ∧ Mem w (fun k => k < w.heap.size) w' B S) := ⟨fun W B S hM => by have := res_M HG.out HPD.out hyd hM; rw [hrl, ← hyc.2] at this; exact this⟩
                  clear hyc hyd hrl
                  go_upto_region 46 with (first|go_skip|((with_reducible refine gate_dst (N := 27) rfl ?_);(with_reducible refine' bz HM ?qw rfl ?qa ?qc ?_);(case qw|qa|qc=>rfl);clear HM;intro g27 _ HM)|((with_reducible refine' lc HM ?qw rfl ?qx ?qm ?qa ?qv ?_);(case qw|qx|qa=>rfl);(case qm=>repeat constructor);(case qv=>rfl))|((with_reducible refine' la HM ?qw rfl ?qx ?qm ?qa ?_);(case qw|qx=>rfl);(case qm=>repeat constructor);(case qa=>rfl))|((with_reducible refine' pa HM ?qw rfl ?qx _ ?qy ?qm ?qa ?_);(case qw|qx|qy=>rfl);(case qm=>repeat constructor);(case qa=>rfl);clear HM;intro _ HM)|((with_reducible refine' pc HM ?qw rfl ?qx ?qa ?qy ?qm ?qo ?qi ?_);(case qw|qx|qa=>rfl);(case qy=>first|exact (rfl:_=Value.int _ _)|exact (rfl:_=Value.slice _ _ _)|exact (rfl:_=Value.string _)|exact (rfl:_=Value.bool _));(case qm=>repeat constructor);(case qo=>exact ⟨rfl,rfl⟩);(case qi=>rfl);clear HM;intro _ HM;try simp only [List.set_cons_zero,List.set_cons_succ] at HM))
                  clear hx0 hx1 hx2 hx3 hx4 hx5 hx6 hx7 hx8 hx9 hx10 hx11 hx12
                  go_wp2_with (first|go_skip|((with_reducible refine' lc HM ?qw rfl ?qx ?qm ?qa ?qv ?_);(case qw|qx|qa=>rfl);(case qm=>repeat constructor);(case qv=>rfl))|((with_reducible refine' la HM ?qw rfl ?qx ?qm ?qa ?_);(case qw|qx=>rfl);(case qm=>repeat constructor);(case qa=>rfl))|((with_reducible refine' pa HM ?qw rfl ?qx _ ?qy ?qm ?qa ?_);(case qw|qx|qy=>rfl);(case qm=>repeat constructor);(case qa=>rfl);clear HM;intro _ HM)|((with_reducible refine' pc HM ?qw rfl ?qx ?qa ?qy ?qm ?qo ?qi ?_);(case qw|qx|qa=>rfl);(case qy=>first|exact (rfl:_=Value.int _ _)|exact (rfl:_=Value.slice _ _ _)|exact (rfl:_=Value.string _)|exact (rfl:_=Value.bool _));(case qm=>repeat constructor);(case qo=>exact ⟨rfl,rfl⟩);(case qi=>rfl);clear HM;intro _ HM;try simp only [List.set_cons_zero,List.set_cons_succ] at HM)|(go_at_call 42; (refine (HREL.out _ _ _ HM.out).mono ?_); rintro e _ ⟨rfl, hM⟩; clear HM;have HM:=Aside0.mk hM;clear hM)|(go_at_call 41; (refine (HRES.out _ _ _ HM.out).mono ?_); rintro e _ ⟨rfl, hM⟩; clear HM;have HM:=Aside0.mk hM;clear hM))
                  go_roundw
                  case rel => exact ⟨j + 1, by go_num, ⟨by omega⟩, ⟨HM.out.drop⟩⟩
                  case measure => simp [intOf]; omega
                · have hjl : j = rs.length := by have := HJJ.out; omega
                  have hlz4 : ¬ ((j : Int) < (rs.length : Int)) := by omega
                  clear hjl HJJ
                  go_wp2_with (first|go_skip|((with_reducible refine' lc HM ?qw rfl ?qx ?qm ?qa ?qv ?_);(case qw|qx|qa=>rfl);(case qm=>repeat constructor);(case qv=>rfl))|((with_reducible refine' la HM ?qw rfl ?qx ?qm ?qa ?_);(case qw|qx=>rfl);(case qm=>repeat constructor);(case qa=>rfl))|((with_reducible refine' pa HM ?qw rfl ?qx _ ?qy ?qm ?qa ?_);(case qw|qx|qy=>rfl);(case qm=>repeat constructor);(case qa=>rfl);clear HM;intro _ HM)|((with_reducible refine' pc HM ?qw rfl ?qx ?qa ?qy ?qm ?qo ?qi ?_);(case qw|qx|qa=>rfl);(case qy=>first|exact (rfl:_=Value.int _ _)|exact (rfl:_=Value.slice _ _ _)|exact (rfl:_=Value.string _)|exact (rfl:_=Value.bool _));(case qm=>repeat constructor);(case qo=>exact ⟨rfl,rfl⟩);(case qi=>rfl);clear HM;intro _ HM;try simp only [List.set_cons_zero,List.set_cons_succ] at HM))
                  go_roundw
                  case rel => exact ⟨i + 1, L2, by go_num, ⟨by omega⟩, HL3, ⟨HM.out.drop⟩⟩
                  case measure => simp [intOf]; omega
            · have hil3 : i = all.length := by have := HII3.out; omega
              have hlz3 : ¬ ((i : Int) < (all.length : Int)) := by omega
              clear hil3 HII3
              go_wp2_with (first|go_skip|((with_reducible refine' lc HM ?qw rfl ?qx ?qm ?qa ?qv ?_);(case qw|qx|qa=>rfl);(case qm=>repeat constructor);(case qv=>rfl))|((with_reducible refine' la HM ?qw rfl ?qx ?qm ?qa ?_);(case qw|qx=>rfl);(case qm=>repeat constructor);(case qa=>rfl))|((with_reducible refine' pa HM ?qw rfl ?qx _ ?qy ?qm ?qa ?_);(case qw|qx|qy=>rfl);(case qm=>repeat constructor);(case qa=>rfl);clear HM;intro _ HM)|((with_reducible refine' pc HM ?qw rfl ?qx ?qa ?qy ?qm ?qo ?qi ?_);(case qw|qx|qa=>rfl);(case qy=>first|exact (rfl:_=Value.int _ _)|exact (rfl:_=Value.slice _ _ _)|exact (rfl:_=Value.string _)|exact (rfl:_=Value.bool _));(case qm=>repeat constructor);(case qo=>exact ⟨rfl,rfl⟩);(case qi=>rfl);clear HM;intro _ HM;try simp only [List.set_cons_zero,List.set_cons_succ] at HM))
              go_ret
              exact ⟨rfl, HM.out.below⟩
        · rw [List.concat_eq_append] at HOT HD HF
          obtain ⟨gt2, cap, sp, hv, rfl, hcap, hpop⟩ := own_pop HOT.out
          subst hv
          have hdd := HD.out.dir d (by simp)
          have hgd : Gd d := by
            rcases hdd.1 with rfl | ⟨r, hr, _⟩
            · exact gd_nil
            · have hm := look_mem hr
              rw [← hm.2]
              exact Gd.of (.inr (HI.out.clean r hm.1).1)
          have hin := dfs_open HI.out HD.out
          obtain ⟨cs, hcs⟩ : ∃ cs, listL d rs = cs := ⟨_, rfl⟩
          have hcl : cs.length ≤ rs.length := by rw [← hcs]; exact Nat.le_trans (List.length_filter_le _ _) (List.length_filter_le _ _)
          have HCM : Aside0 (∀ c ∈ cs, c ∈ rs) := ⟨fun c hc => by rw [← hcs] at hc; exact ((list_mem HI.out hdd.2).1 hc).1⟩
          have hrl := HLR.out
          have HLS : Aside0 (∀ (W : World) (B : List Bx) (S : World → Prop) {A : Option Addr} {c : Nat}, Mem w (fun k => k < w.heap.size) W B S → (∀ w, S w → Tr A rs w) → rs.length ≤ c → Calls Tryd.prog 39 #[.agg #[.slice A rs.length c, .int .i64 n], .string (tx d)] W fun e w' => ∃ A' c', e = .returned (.tuple #[.slice A' cs.length c', .int .i64 0]) ∧ cs.length ≤ c' ∧ Mem w (fun k => k < w.heap.size) w' B (fun w => S w ∧ Tr A' cs w)) := ⟨fun W B S A c hM hS hc => by have := list_M (n := n) hM hS HI.out hc (by omega) hgd hdd.1; rw [hcs] at this; exact this⟩
          rw [hcs] at hin
          have HCL := Aside0.mk (show cs.length ≤ 2265 by omega)
          have hcz : (cs.length : Int) ≤ 2265 := by omega
          have HOT2 := Aside0.mk hpop
          have HVL : Aside0 ((txC td ++ (Value.string (tx d) :: sp))[td.length]? = some (.string (tx d))) := ⟨by rw [List.getElem?_append_right (by rw [txC_len]; exact Nat.le_refl _), txC_len, Nat.sub_self]; rfl⟩
          have hcut := fun W => cut45 W (some ⟨gt2, 0, none⟩) (td.length + 1) cap td.length (by omega)
          have htz : (td.length : Int) ≤ 2266 := by
            have hntd : ∀ x ∈ td, x ≠ [] := by
              cases fst with
              | true =>
                have h1 := (HF.out.1 rfl).1
                cases td with
                | nil => intro x hx; cases hx
                | cons x t => simp at h1
              | false => exact fun x hx => HF.out.2 rfl x (by simp [hx])
            have : td.length ≤ rs.length + 1 := HTB.out _ _ _ hin hntd
            omega
          have hM9 := HM.out.perm (B' := (g5, [.slice A rs.length c, .int .i64 n], 35) :: (gt2, txC td ++ (.string (tx d) :: sp), 9) :: Xa) (List.Perm.cons _ (List.perm_append_comm (l₂ := [_])))
          clear HM HOT
          have HM := Aside0.mk hM9
          have HOT := HOT2
          clear hM9 HOT2 hpop hcl hrl hcap
          cases fst with
          | true =>
            obtain ⟨h1, h2⟩ := HF.out.1 rfl
            have htd : td = [] := by cases td with | nil => rfl | cons x t => simp at h1
            subst htd
            have hd0 : d = [] := by simpa using h1
            rw [if_pos hd0, List.append_nil] at hin
            have HIN := Aside0.mk hin
            have HTD : Aside0 (∀ x ∈ ([] : List Pth), x ≠ []) := ⟨fun x hx => by cases hx⟩
            have b0 : ((tx d).toList == ([] : List UInt8)) = true := by rw [hd0]; exact beq_iff_eq.2 (mk_toList _)
            have b1 : (tx d).toList.isEmpty = true := by rw [hd0]; exact List.isEmpty_iff.2 (mk_toList _)
            clear hin h1 h2 hd0 hdd hgd HF HD
            go_wp2_with (first|go_skip|((with_reducible refine' lc HM ?qw rfl ?qx ?qm ?qa ?qv ?_);(case qw|qx|qa=>rfl);(case qm=>repeat constructor);(case qv=>first|rfl|exact HVL.out))|((with_reducible refine' la HM ?qw rfl ?qx ?qm ?qa ?_);(case qw|qx=>rfl);(case qm=>repeat constructor);(case qa=>rfl))|((with_reducible refine' pa HM ?qw rfl ?qx _ ?qy ?qm ?qa ?_);(case qw|qx|qy=>rfl);(case qm=>repeat constructor);(case qa=>rfl);clear HM;intro _ HM)|((with_reducible refine' pc HM ?qw rfl ?qx ?qa ?qy ?qm ?qo ?qi ?_);(case qw|qx|qa=>rfl);(case qy=>first|exact (rfl:_=Value.int _ _)|exact (rfl:_=Value.slice _ _ _)|exact (rfl:_=Value.string _)|exact (rfl:_=Value.bool _));(case qm=>repeat constructor);(case qo=>exact ⟨rfl,rfl⟩);(case qi=>rfl);clear HM;intro _ HM;try simp only [List.set_cons_zero,List.set_cons_succ] at HM)|(go_at_call 39; (refine (HLS.out _ _ _ HM.out (fun _ h => h.2) HC.out).mono ?_); rintro e _ ⟨A2, c2, rfl, hc, hM⟩; have HC2 := Aside0.mk hc; clear hc; clear HM;have HM:=Aside0.mk hM;clear hM))
            go_loopw [13, 14, 18] (fun v13 v14 v18 wr => ∃ (k : Nat) (al td2 : List Pth) (va vt : Value) (Xa Xt : List Bx), v13 = va ∧ v14 = vt ∧ v18 = .int .i64 ((k : Int) - 1) ∧ Aside0 (k ≤ cs.length) ∧ Aside0 (OwnB 9 1 va al.length (txC al) Xa) ∧ Aside0 (OwnB 9 1 vt td2.length (txC td2) Xt) ∧ Aside0 (DfsIn rs al td2 (cs.take k)) ∧ Aside0 (all.length ≤ al.length ∧ ∀ x ∈ td2, x ≠ []) ∧ Aside0 (Mem w (fun k => k < w.heap.size) wr ((g5, [.slice A rs.length c, .int .i64 n], 35) :: (Xa ++ Xt)) (fun w => (fun w => (Kd.C (Kd.int .i64) w A0 ks.length ks ∧ Kd.C Kd.string w A1 ns.length ns) ∧ Tr A rs w) w ∧ Tr A2 cs w))) (fun _ _ v18 _ => (intOf v18 + 1).toNat)
            case atStart => exact ⟨cs.length, all, [], _, _, _, _, rfl, rfl, by go_num, ⟨Nat.le_refl _⟩, HOA, HOT, ⟨by rw [List.take_length]; exact HIN.out⟩, ⟨by exact Nat.le_refl _, HTD.out⟩, ⟨HM.out.perm (List.Perm.cons _ (List.perm_append_comm (l₁ := [_])))⟩⟩
            case round =>
              clear HM
              obtain ⟨k, al, td2, va, vt, Xa, Xt, rfl, rfl, rfl, HKL, HOA, HOT, HIN, HLW, HM⟩ := hrel
              obtain ⟨Aa, ca, rfl⟩ := HOA.out.slice
              obtain ⟨At, ct, rfl⟩ := HOT.out.slice
              have hkb : (k : Int) ≤ 2265 := by have := HKL.out; have := HCL.out; omega
              cases k with
              | zero =>
                have hneg : decide ((0 : Int) ≤ ((0 : Nat) : Int) - 1) = false := decide_eq_false (by omega)
                have HD2 := dfs_shut (by have := HIN.out; simpa using this)
                have hal := dfs_len HIN.out
                have HAL := Aside0.mk hal
                clear hal
                go_wp2_with (first|go_skip|((with_reducible refine' lc HM ?qw rfl ?qx ?qm ?qa ?qv ?_);(case qw|qx|qa=>rfl);(case qm=>repeat constructor);(case qv=>rfl))|((with_reducible refine' la HM ?qw rfl ?qx ?qm ?qa ?_);(case qw|qx=>rfl);(case qm=>repeat constructor);(case qa=>rfl))|((with_reducible refine' pa HM ?qw rfl ?qx _ ?qy ?qm ?qa ?_);(case qw|qx|qy=>rfl);(case qm=>repeat constructor);(case qa=>rfl);clear HM;intro _ HM)|((with_reducible refine' pc HM ?qw rfl ?qx ?qa ?qy ?qm ?qo ?qi ?_);(case qw|qx|qa=>rfl);(case qy=>first|exact (rfl:_=Value.int _ _)|exact (rfl:_=Value.slice _ _ _)|exact (rfl:_=Value.string _)|exact (rfl:_=Value.bool _));(case qm=>repeat constructor);(case qo=>exact ⟨rfl,rfl⟩);(case qi=>rfl);clear HM;intro _ HM;try simp only [List.set_cons_zero,List.set_cons_succ] at HM))
                go_roundw
                case rel => exact ⟨al, td2, _, _, Xa, Xt, false, rfl, rfl, rfl, HOA, HOT, ⟨HD2⟩, ⟨⟨fun h => (by cases h), fun _ => HLW.out.2⟩⟩, ⟨HM.out.imp (fun w h => h.1)⟩⟩
                case measure => show 2 * (rs.length - al.length) + 0 < 2 * (rs.length - all.length) + 1; have := HLW.out.1; omega
              | succ k =>
                have hkl : k < cs.length := HKL.out
                have hpos : decide ((0 : Int) ≤ ((k + 1 : Nat) : Int) - 1) = true := decide_eq_true (by omega)
                have hkz : (k : Int) < (cs.length : Int) := by omega
                have hkz0 : (0 : Int) ≤ (k : Int) := by omega
                have hin := HIN.out
                rw [List.take_succ_eq_append_getElem hkl] at hin
                have hcm := HCM.out _ (List.getElem_mem hkl)
                have hstep := dfs_step HI.out hcm hin
                have hcc := HI.out.clean _ hcm
                obtain ⟨ad, ea, hx0, hx1, hx2, _⟩ := at_T44 HM.out.now.2 (k : Int) (by omega) (by omega)
                have hrd : rd_T44 cs (k : Int) = cs[k] := by unfold rd_T44; rw [Int.toNat_natCast, List.getD_eq_getElem?_getD, List.getElem?_eq_getElem hkl]; rfl
                rw [Int.toNat_natCast, hrd] at hx0 hx1 hx2
                generalize cs[k] = y at hx0 hx1 hx2 hstep hcc
                clear hrd hin hcm hx1
                have HTX := Aside0.mk (show y.f0 = tx (pp y) from hcc.2)
                have HLA := Aside0.mk (show al.length ≤ 900000 by have := dfs_len HIN.out; have := HLR.out; omega)
                have HLT := Aside0.mk (show td2.length ≤ 900000 by have := HTL.out _ _ _ HIN.out HLW.out.2; have := HLR.out; omega)
                have hne := hcc.1.ne
                have HNE := Aside0.mk hne
                clear hcc hne
                subst ea
                by_cases h4 : y.f2.f0 = 4
                · rw [if_pos h4, if_pos h4] at hstep
                  have HST := Aside0.mk hstep
                  have k4 : (y.f2.f0 == 4) = true := beq_iff_eq.2 h4
                  clear hstep h4
                  go_wp2_with (first|go_skip|((with_reducible refine' lc HM ?qw rfl ?qx ?qm ?qa ?qv ?_);(case qw|qx|qa=>rfl);(case qm=>repeat constructor);(case qv=>rfl))|((with_reducible refine' la HM ?qw rfl ?qx ?qm ?qa ?_);(case qw|qx=>rfl);(case qm=>repeat constructor);(case qa=>rfl))|((with_reducible refine' pa HM ?qw rfl ?qx _ ?qy ?qm ?qa ?_);(case qw|qx|qy=>rfl);(case qm=>repeat constructor);(case qa=>rfl);clear HM;intro _ HM)|((with_reducible refine' pc HM ?qw rfl ?qx ?qa ?qy ?qm ?qo ?qi ?_);(case qw|qx|qa=>rfl);(case qy=>first|exact (rfl:_=Value.int _ _)|exact (rfl:_=Value.slice _ _ _)|exact (rfl:_=Value.string _)|exact (rfl:_=Value.bool _));(case qm=>repeat constructor);(case qo=>exact ⟨rfl,rfl⟩);(case qi=>rfl);clear HM;intro _ HM;try simp only [List.set_cons_zero,List.set_cons_succ] at HM)|((with_reducible refine' bsG HM rfl rfl ?qx (fun w=>run_bs9 w y.f0) ?_);(case qx=>rfl);clear HM;intro gn _ HM)|((with_reducible refine gate_builtin (b:=.append) rfl ?_);refine' addG (cs:=[.string y.f0]) under45 inf9 rfl (by decide) (by decide) ((g5, [.slice A rs.length c, .int .i64 n], 35) :: Xa) HM HOT rfl (by simp [Value.oneCell']) rfl rfl ?qs ?qx ?qn ?_;(case qs|qx=>rfl);(case qn=>exact HLT.out);clear HM;intro vN XN _ HON HM;have hM:=HM.out;simp only [List.cons_append,List.nil_append] at hM;clear HM;have HM:=Aside0.mk hM;clear hM))
                  have HOT2 : Aside0 (OwnB 9 1 vN (td2 ++ [pp y]).length (txC (td2 ++ [pp y])) XN) := ⟨own_add (by have := HON.out; rw [HTX.out] at this; exact this)⟩
                  go_roundw
                  case rel => exact ⟨k, al, td2 ++ [pp y], _, _, Xa, XN, rfl, rfl, by go_num, ⟨by omega⟩, HOA, HOT2, HST, ⟨HLW.out.1, fun x hx => by rcases List.mem_append.1 hx with hx | hx; exact HLW.out.2 x hx; rw [List.mem_singleton.1 hx]; exact HNE.out⟩, ⟨HM.out.drop⟩⟩
                  case measure => first | (simp [intOf]; done) | (simp [intOf]; omega)
                · rw [if_neg h4, if_neg h4] at hstep
                  have HST := Aside0.mk hstep
                  have k4 : (y.f2.f0 == 4) = false := beq_eq_false_iff_ne.2 h4
                  clear hstep h4
                  have hM9 := HM.out.perm (B' := (g5, [.slice A rs.length c, .int .i64 n], 35) :: (Xt ++ Xa)) (List.Perm.cons _ List.perm_append_comm)
                  clear HM
                  have HM := Aside0.mk hM9
                  clear hM9
                  go_wp2_with (first|go_skip|((with_reducible refine' lc HM ?qw rfl ?qx ?qm ?qa ?qv ?_);(case qw|qx|qa=>rfl);(case qm=>repeat constructor);(case qv=>rfl))|((with_reducible refine' la HM ?qw rfl ?qx ?qm ?qa ?_);(case qw|qx=>rfl);(case qm=>repeat constructor);(case qa=>rfl))|((with_reducible refine' pa HM ?qw rfl ?qx _ ?qy ?qm ?qa ?_);(case qw|qx|qy=>rfl);(case qm=>repeat constructor);(case qa=>rfl);clear HM;intro _ HM)|((with_reducible refine' pc HM ?qw rfl ?qx ?qa ?qy ?qm ?qo ?qi ?_);(case qw|qx|qa=>rfl);(case qy=>first|exact (rfl:_=Value.int _ _)|exact (rfl:_=Value.slice _ _ _)|exact (rfl:_=Value.string _)|exact (rfl:_=Value.bool _));(case qm=>repeat constructor);(case qo=>exact ⟨rfl,rfl⟩);(case qi=>rfl);clear HM;intro _ HM;try simp only [List.set_cons_zero,List.set_cons_succ] at HM)|((with_reducible refine' bsG HM rfl rfl ?qx (fun w=>run_bs9 w y.f0) ?_);(case qx=>rfl);clear HM;intro gn _ HM)|((with_reducible refine gate_builtin (b:=.append) rfl ?_);refine' addG (cs:=[.string y.f0]) under45 inf9 rfl (by decide) (by decide) ((g5, [.slice A rs.length c, .int .i64 n], 35) :: Xt) HM HOA rfl (by simp [Value.oneCell']) rfl rfl ?qs ?qx ?qn ?_;(case qs|qx=>rfl);(case qn=>exact HLA.out);clear HM;intro vN XN _ HON HM;have hM:=HM.out;simp only [List.cons_append,List.nil_append] at hM;clear HM;have HM:=Aside0.mk hM;clear hM))
                  have HOA2 : Aside0 (OwnB 9 1 vN (al ++ [pp y]).length (txC (al ++ [pp y])) XN) := ⟨own_add (by have := HON.out; rw [HTX.out] at this; exact this)⟩
                  have hM9 := HM.out.drop.perm (B' := (g5, [.slice A rs.length c, .int .i64 n], 35) :: (XN ++ Xt)) (List.Perm.cons _ List.perm_append_comm)
                  go_roundw
                  case rel => exact ⟨k, al ++ [pp y], td2, _, _, XN, Xt, rfl, rfl, by go_num, ⟨by omega⟩, HOA2, HOT, HST, ⟨by rw [List.length_append]; have := HLW.out.1; omega, HLW.out.2⟩, ⟨hM9⟩⟩
                  case measure => first | (simp [intOf]; done) | (simp [intOf]; omega)
          | false =>
            have hnd := HF.out.2 rfl
            have hd0 : d ≠ [] := hnd d (by simp)
            rw [if_neg hd0] at hin
            have HIN := Aside0.mk hin
            have HTD : Aside0 (∀ x ∈ td, x ≠ []) := ⟨fun x hx => hnd x (by simp [hx])⟩
            have hne : (tx d).toList ≠ [] := by unfold tx; rw [mk_toList]; exact join_ne hdd.2 hd0
            have b0 : ((tx d).toList == ([] : List UInt8)) = false := beq_eq_false_iff_ne.2 hne
            have b1 : (tx d).toList.isEmpty = false := List.isEmpty_eq_false_iff.2 hne
            have HLA := Aside0.mk (show all.length ≤ 900000 by have := dfs_len hin; rw [List.length_append] at this; have := HLR.out; omega)
            clear hin hnd hd0 hne hdd hgd HF HD
            go_wp2_with (first|go_skip|((with_reducible refine' lc HM ?qw rfl ?qx ?qm ?qa ?qv ?_);(case qw|qx|qa=>rfl);(case qm=>repeat constructor);(case qv=>first|rfl|exact HVL.out))|((with_reducible refine' la HM ?qw rfl ?qx ?qm ?qa ?_);(case qw|qx=>rfl);(case qm=>repeat constructor);(case qa=>rfl))|((with_reducible refine' pa HM ?qw rfl ?qx _ ?qy ?qm ?qa ?_);(case qw|qx|qy=>rfl);(case qm=>repeat constructor);(case qa=>rfl);clear HM;intro _ HM)|((with_reducible refine' pc HM ?qw rfl ?qx ?qa ?qy ?qm ?qo ?qi ?_);(case qw|qx|qa=>rfl);(case qy=>first|exact (rfl:_=Value.int _ _)|exact (rfl:_=Value.slice _ _ _)|exact (rfl:_=Value.string _)|exact (rfl:_=Value.bool _));(case qm=>repeat constructor);(case qo=>exact ⟨rfl,rfl⟩);(case qi=>rfl);clear HM;intro _ HM;try simp only [List.set_cons_zero,List.set_cons_succ] at HM)|(go_at_call 39; (refine (HLS.out _ _ _ HM.out (fun _ h => h.2) HC.out).mono ?_); rintro e _ ⟨A2, c2, rfl, hc, hM⟩; have HC2 := Aside0.mk hc; clear hc; clear HM;have HM:=Aside0.mk hM;clear hM)|((with_reducible refine' bsG HM rfl rfl ?qx (fun w=>run_bs9 w (tx d)) ?_);(case qx=>rfl);clear HM;intro gn _ HM)|((with_reducible refine gate_builtin (b:=.append) rfl ?_);refine' addG (cs:=[.string (tx d)]) under45 inf9 rfl (by decide) (by decide) ((g5, [.slice A rs.length c, .int .i64 n], 35) :: (gt2, txC td ++ (.string (tx d) :: sp), 9) :: []) HM HOA rfl (by simp [Value.oneCell']) rfl rfl ?qs ?qx ?qn ?_;(case qs|qx=>rfl);(case qn=>exact HLA.out);clear HM;intro vN XN _ HON HM;have hM:=HM.out;simp only [List.cons_append,List.nil_append] at hM;clear HM;have HM:=Aside0.mk hM;clear hM))
            have HOA2 : Aside0 (OwnB 9 1 vN (all ++ [d]).length (txC (all ++ [d])) XN) := ⟨own_add HON.out⟩
            go_loopw [13, 14, 18] (fun v13 v14 v18 wr => ∃ (k : Nat) (al td2 : List Pth) (va vt : Value) (Xa Xt : List Bx), v13 = va ∧ v14 = vt ∧ v18 = .int .i64 ((k : Int) - 1) ∧ Aside0 (k ≤ cs.length) ∧ Aside0 (OwnB 9 1 va al.length (txC al) Xa) ∧ Aside0 (OwnB 9 1 vt td2.length (txC td2) Xt) ∧ Aside0 (DfsIn rs al td2 (cs.take k)) ∧ Aside0 ((all.length + 1) ≤ al.length ∧ ∀ x ∈ td2, x ≠ []) ∧ Aside0 (Mem w (fun k => k < w.heap.size) wr ((g5, [.slice A rs.length c, .int .i64 n], 35) :: (Xa ++ Xt)) (fun w => (fun w => (Kd.C (Kd.int .i64) w A0 ks.length ks ∧ Kd.C Kd.string w A1 ns.length ns) ∧ Tr A rs w) w ∧ Tr A2 cs w))) (fun _ _ v18 _ => (intOf v18 + 1).toNat)
            case atStart => exact ⟨cs.length, (all ++ [d]), td, _, _, _, _, rfl, rfl, by go_num, ⟨Nat.le_refl _⟩, HOA2, HOT, ⟨by rw [List.take_length]; exact HIN.out⟩, ⟨by simp, HTD.out⟩, ⟨HM.out.drop.perm (List.Perm.cons _ (List.perm_append_comm (l₁ := [_])))⟩⟩
            case round =>
              clear HM
              obtain ⟨k, al, td2, va, vt, Xa, Xt, rfl, rfl, rfl, HKL, HOA, HOT, HIN, HLW, HM⟩ := hrel
              obtain ⟨Aa, ca, rfl⟩ := HOA.out.slice
              obtain ⟨At, ct, rfl⟩ := HOT.out.slice
              have hkb : (k : Int) ≤ 2265 := by have := HKL.out; have := HCL.out; omega
              cases k with
              | zero =>
                have hneg : decide ((0 : Int) ≤ ((0 : Nat) : Int) - 1) = false := decide_eq_false (by omega)
                have HD2 := dfs_shut (by have := HIN.out; simpa using this)
                have hal := dfs_len HIN.out
                have HAL := Aside0.mk hal
                clear hal
                go_wp2_with (first|go_skip|((with_reducible refine' lc HM ?qw rfl ?qx ?qm ?qa ?qv ?_);(case qw|qx|qa=>rfl);(case qm=>repeat constructor);(case qv=>rfl))|((with_reducible refine' la HM ?qw rfl ?qx ?qm ?qa ?_);(case qw|qx=>rfl);(case qm=>repeat constructor);(case qa=>rfl))|((with_reducible refine' pa HM ?qw rfl ?qx _ ?qy ?qm ?qa ?_);(case qw|qx|qy=>rfl);(case qm=>repeat constructor);(case qa=>rfl);clear HM;intro _ HM)|((with_reducible refine' pc HM ?qw rfl ?qx ?qa ?qy ?qm ?qo ?qi ?_);(case qw|qx|qa=>rfl);(case qy=>first|exact (rfl:_=Value.int _ _)|exact (rfl:_=Value.slice _ _ _)|exact (rfl:_=Value.string _)|exact (rfl:_=Value.bool _));(case qm=>repeat constructor);(case qo=>exact ⟨rfl,rfl⟩);(case qi=>rfl);clear HM;intro _ HM;try simp only [List.set_cons_zero,List.set_cons_succ] at HM))
                go_roundw
                case rel => exact ⟨al, td2, _, _, Xa, Xt, false, rfl, rfl, rfl, HOA, HOT, ⟨HD2⟩, ⟨⟨fun h => (by cases h), fun _ => HLW.out.2⟩⟩, ⟨HM.out.imp (fun w h => h.1)⟩⟩
                case measure => show 2 * (rs.length - al.length) + 0 < 2 * (rs.length - all.length) + 0; have h1 := HLW.out.1; have h2 := HAL.out; omega
              | succ k =>
                have hkl : k < cs.length := HKL.out
                have hpos : decide ((0 : Int) ≤ ((k + 1 : Nat) : Int) - 1) = true := decide_eq_true (by omega)
                have hkz : (k : Int) < (cs.length : Int) := by omega
                have hkz0 : (0 : Int) ≤ (k : Int) := by omega
                have hin := HIN.out
                rw [List.take_succ_eq_append_getElem hkl] at hin
                have hcm := HCM.out _ (List.getElem_mem hkl)
                have hstep := dfs_step HI.out hcm hin
                have hcc := HI.out.clean _ hcm
                obtain ⟨ad, ea, hx0, hx1, hx2, _⟩ := at_T44 HM.out.now.2 (k : Int) (by omega) (by omega)
                have hrd : rd_T44 cs (k : Int) = cs[k] := by unfold rd_T44; rw [Int.toNat_natCast, List.getD_eq_getElem?_getD, List.getElem?_eq_getElem hkl]; rfl
                rw [Int.toNat_natCast, hrd] at hx0 hx1 hx2
                generalize cs[k] = y at hx0 hx1 hx2 hstep hcc
                clear hrd hin hcm hx1
                have HTX := Aside0.mk (show y.f0 = tx (pp y) from hcc.2)
                have HLA := Aside0.mk (show al.length ≤ 900000 by have := dfs_len HIN.out; have := HLR.out; omega)
                have HLT := Aside0.mk (show td2.length ≤ 900000 by have := HTL.out _ _ _ HIN.out HLW.out.2; have := HLR.out; omega)
                have hne := hcc.1.ne
                have HNE := Aside0.mk hne
                clear hcc hne
                subst ea
                by_cases h4 : y.f2.f0 = 4
                · rw [if_pos h4, if_pos h4] at hstep
                  have HST := Aside0.mk hstep
                  have k4 : (y.f2.f0 == 4) = true := beq_iff_eq.2 h4
                  clear hstep h4
                  go_wp2_with (first|go_skip|((with_reducible refine' lc HM ?qw rfl ?qx ?qm ?qa ?qv ?_);(case qw|qx|qa=>rfl);(case qm=>repeat constructor);(case qv=>rfl))|((with_reducible refine' la HM ?qw rfl ?qx ?qm ?qa ?_);(case qw|qx=>rfl);(case qm=>repeat constructor);(case qa=>rfl))|((with_reducible refine' pa HM ?qw rfl ?qx _ ?qy ?qm ?qa ?_);(case qw|qx|qy=>rfl);(case qm=>repeat constructor);(case qa=>rfl);clear HM;intro _ HM)|((with_reducible refine' pc HM ?qw rfl ?qx ?qa ?qy ?qm ?qo ?qi ?_);(case qw|qx|qa=>rfl);(case qy=>first|exact (rfl:_=Value.int _ _)|exact (rfl:_=Value.slice _ _ _)|exact (rfl:_=Value.string _)|exact (rfl:_=Value.bool _));(case qm=>repeat constructor);(case qo=>exact ⟨rfl,rfl⟩);(case qi=>rfl);clear HM;intro _ HM;try simp only [List.set_cons_zero,List.set_cons_succ] at HM)|((with_reducible refine' bsG HM rfl rfl ?qx (fun w=>run_bs9 w y.f0) ?_);(case qx=>rfl);clear HM;intro gn _ HM)|((with_reducible refine gate_builtin (b:=.append) rfl ?_);refine' addG (cs:=[.string y.f0]) under45 inf9 rfl (by decide) (by decide) ((g5, [.slice A rs.length c, .int .i64 n], 35) :: Xa) HM HOT rfl (by simp [Value.oneCell']) rfl rfl ?qs ?qx ?qn ?_;(case qs|qx=>rfl);(case qn=>exact HLT.out);clear HM;intro vN XN _ HON HM;have hM:=HM.out;simp only [List.cons_append,List.nil_append] at hM;clear HM;have HM:=Aside0.mk hM;clear hM))
                  have HOT2 : Aside0 (OwnB 9 1 vN (td2 ++ [pp y]).length (txC (td2 ++ [pp y])) XN) := ⟨own_add (by have := HON.out; rw [HTX.out] at this; exact this)⟩
                  go_roundw
                  case rel => exact ⟨k, al, td2 ++ [pp y], _, _, Xa, XN, rfl, rfl, by go_num, ⟨by omega⟩, HOA, HOT2, HST, ⟨HLW.out.1, fun x hx => by rcases List.mem_append.1 hx with hx | hx; exact HLW.out.2 x hx; rw [List.mem_singleton.1 hx]; exact HNE.out⟩, ⟨HM.out.drop⟩⟩
                  case measure => first | (simp [intOf]; done) | (simp [intOf]; omega)
                · rw [if_neg h4, if_neg h4] at hstep
                  have HST := Aside0.mk hstep
                  have k4 : (y.f2.f0 == 4) = false := beq_eq_false_iff_ne.2 h4
                  clear hstep h4
                  have hM9 := HM.out.perm (B' := (g5, [.slice A rs.length c, .int .i64 n], 35) :: (Xt ++ Xa)) (List.Perm.cons _ List.perm_append_comm)
                  clear HM
                  have HM := Aside0.mk hM9
                  clear hM9
                  go_wp2_with (first|go_skip|((with_reducible refine' lc HM ?qw rfl ?qx ?qm ?qa ?qv ?_);(case qw|qx|qa=>rfl);(case qm=>repeat constructor);(case qv=>rfl))|((with_reducible refine' la HM ?qw rfl ?qx ?qm ?qa ?_);(case qw|qx=>rfl);(case qm=>repeat constructor);(case qa=>rfl))|((with_reducible refine' pa HM ?qw rfl ?qx _ ?qy ?qm ?qa ?_);(case qw|qx|qy=>rfl);(case qm=>repeat constructor);(case qa=>rfl);clear HM;intro _ HM)|((with_reducible refine' pc HM ?qw rfl ?qx ?qa ?qy ?qm ?qo ?qi ?_);(case qw|qx|qa=>rfl);(case qy=>first|exact (rfl:_=Value.int _ _)|exact (rfl:_=Value.slice _ _ _)|exact (rfl:_=Value.string _)|exact (rfl:_=Value.bool _));(case qm=>repeat constructor);(case qo=>exact ⟨rfl,rfl⟩);(case qi=>rfl);clear HM;intro _ HM;try simp only [List.set_cons_zero,List.set_cons_succ] at HM)|((with_reducible refine' bsG HM rfl rfl ?qx (fun w=>run_bs9 w y.f0) ?_);(case qx=>rfl);clear HM;intro gn _ HM)|((with_reducible refine gate_builtin (b:=.append) rfl ?_);refine' addG (cs:=[.string y.f0]) under45 inf9 rfl (by decide) (by decide) ((g5, [.slice A rs.length c, .int .i64 n], 35) :: Xt) HM HOA rfl (by simp [Value.oneCell']) rfl rfl ?qs ?qx ?qn ?_;(case qs|qx=>rfl);(case qn=>exact HLA.out);clear HM;intro vN XN _ HON HM;have hM:=HM.out;simp only [List.cons_append,List.nil_append] at hM;clear HM;have HM:=Aside0.mk hM;clear hM))
                  have HOA2 : Aside0 (OwnB 9 1 vN (al ++ [pp y]).length (txC (al ++ [pp y])) XN) := ⟨own_add (by have := HON.out; rw [HTX.out] at this; exact this)⟩
                  have hM9 := HM.out.drop.perm (B' := (g5, [.slice A rs.length c, .int .i64 n], 35) :: (XN ++ Xt)) (List.Perm.cons _ List.perm_append_comm)
                  go_roundw
                  case rel => exact ⟨k, al ++ [pp y], td2, _, _, XN, Xt, rfl, rfl, by go_num, ⟨by omega⟩, HOA2, HOT, HST, ⟨by rw [List.length_append]; have := HLW.out.1; omega, HLW.out.2⟩, ⟨hM9⟩⟩
                  case measure => first | (simp [intOf]; done) | (simp [intOf]; omega)
end Go.Proofs.YtolpamojbiipaaaDoor.XA
