/- MergeGone's walk over Mem. Printed by wip/tools. -/
import Derived.Test.YtolpamojbiipaaaDoorEMemMerge
import Derived.Test.YtolpamojbiipaaaDoorEMemS
import Derived.Test.YtolpamojbiipaaaDoorUGoneLaw
import Derived.Test.YtolpamojbiipaaaDoorEMemRangeV
namespace Go.Proofs.YtolpamojbiipaaaDoor.XA
open Go.RowKit Go.Proofs.YtolpamojbiipaaaDoorW.PrintWords Go.Proofs.YtolpamojbiipaaaDoorW.PrintLast Go.Proofs.YtolpamojbiipaaaDoorW.PrintMore Go.Proofs.YtolpamojbiipaaaDoor.Mem Go.Proofs.YtolpamojbiipaaaDoor.Pure
set_option linter.unusedVariables false
set_option linter.unusedSimpArgs false

theorem at_Ct {A : Option Addr} {g : List Int} {w : World} (h : Ct A g w) {i : Nat} (hi : i < g.length) : ∃ ad, A = some ad ∧ w.cell? (ad.add (i * 2)) = some (.slice none 0 0) ∧ w.cell? ⟨(ad.add (i * 2)).block, (ad.add (i * 2)).off + 1, none⟩ = some (.int .i64 (g.getD i 0)) := by
  rcases h with rfl | ⟨gq, sp, rfl, hq⟩
  · simp at hi
  · have hc : ∀ (g : List Int) (i : Nat), i < g.length → (contsL g)[i * 2]? = some (.slice none 0 0) ∧ (contsL g)[i * 2 + 1]? = some (.int .i64 (g.getD i 0)) := by
      intro g
      induction g with
      | nil => intro i hi; simp at hi
      | cons z g ih =>
        intro i hi
        cases i with
        | zero => exact ⟨rfl, rfl⟩
        | succ i =>
          have h2 := ih i (by simpa using hi)
          have e : contsL (z :: g) = .slice none 0 0 :: .int .i64 z :: contsL g := rfl
          rw [e, show (i + 1) * 2 = i * 2 + 1 + 1 by omega]
          exact ⟨by simpa using h2.1, by simpa using h2.2⟩
    have hl : (contsL g).length = g.length * 2 := by
      clear hc hi hq
      induction g with
      | nil => rfl
      | cons z g ih => have e : contsL (z :: g) = .slice none 0 0 :: .int .i64 z :: contsL g := rfl; rw [e]; simp [ih]; omega
    have hh := hc g i hi
    have hadd : (⟨gq, 0, none⟩ : Addr).add (i * 2) = ⟨gq, i * 2, none⟩ := by unfold Addr.add; split <;> simp_all
    refine ⟨⟨gq, 0, none⟩, rfl, ?_, ?_⟩
    · rw [hadd, blk_cell hq (i * 2), List.getElem?_toArray, List.getElem?_append_left (by omega)]
      exact hh.1
    · rw [hadd]
      refine (blk_cell hq (i * 2 + 1)).trans ?_
      rw [List.getElem?_toArray, List.getElem?_append_left (by omega)]
      exact hh.2
theorem nz (n : Nat) : n = 0 ∧ ((n : Int) == 0) = true ∨ n ≠ 0 ∧ ((n : Int) == 0) = false := by
  by_cases h : n = 0
  · exact .inl ⟨h, by rw [h]; rfl⟩
  · exact .inr ⟨h, beq_eq_false_iff_ne.2 (by omega)⟩
set_option maxHeartbeats 8000000 in
set_option maxRecDepth 100000 in
theorem MergeGone_walk (w : World) (HG0 : GG w) (A0 : Option Addr) (c0 : Nat) (xs : List S104) (hr0 : Kd.C k104 w A0 xs.length xs) (hm0 : xs.length ≤ 9223372036854775807) (hw0 : ∀ x ∈ xs, ((Lit.int .i64 x.f0).wf = true ∧ (Lit.int .i64 x.f1).wf = true ∧ x.f2.size ≤ 9223372036854775807 ∧ x.f3.size ≤ 9223372036854775807)) (A1 : Option Addr) (c1 : Nat) (ys : List S104) (hr1 : Kd.C k104 w A1 ys.length ys) (hm1 : ys.length ≤ 9223372036854775807) (hw1 : ∀ x ∈ ys, ((Lit.int .i64 x.f0).wf = true ∧ (Lit.int .i64 x.f1).wf = true ∧ x.f2.size ≤ 9223372036854775807 ∧ x.f3.size ≤ 9223372036854775807)) :
    Calls Tryd.prog 11 #[.slice A0 xs.length c0, .slice A1 ys.length c1] w fun e w' => e = .returned (.bool true) ∧ Below w.heap.size w w' := by
  have HM : Aside0 (Mem w (fun k => k < w.heap.size) w [] (Two A0 A1 xs ys)) := ⟨two_M hr0 hr1⟩
  clear hw0 hw1 hr0 hr1
  by_cases hl0 : 30 < xs.length
  · have b0 : decide ((30 : Int) < (xs.length : Int)) = true := decide_eq_true (by omega)
    clear hl0
    go_enter Tryd.func11, Tryd.ntmps11
    go_wp2_with (first|go_skip|(go_at_call 27;refine (lays_M HM.out).mono ?_;rintro e _ ⟨rfl, hM⟩;clear HM;have HM:=Aside0.mk hM;clear hM))
    go_ret
    exact ⟨rfl, HM.out.below⟩
  have b0 : decide ((30 : Int) < (xs.length : Int)) = false := decide_eq_false (by omega)
  by_cases hl1 : 30 < ys.length
  · have b1 : decide ((30 : Int) < (ys.length : Int)) = true := decide_eq_true (by omega)
    clear hl1
    go_enter Tryd.func11, Tryd.ntmps11
    go_wp2_with (first|go_skip|(go_at_call 27;refine (lays_M HM.out).mono ?_;rintro e _ ⟨rfl, hM⟩;clear HM;have HM:=Aside0.mk hM;clear hM))
    go_ret
    exact ⟨rfl, HM.out.below⟩
  have b1 : decide ((30 : Int) < (ys.length : Int)) = false := decide_eq_false (by omega)
  obtain ⟨a, na, ws, nw, ea, hIa, hLa, hNa, hLw, hNw0, hNw, hPa⟩ := plants (P := fun k => k < w.heap.size) HG0 xs (by omega) 0 (by omega)
  obtain ⟨b, nb, ws2, nw2, eb, hIb, hLb, hNb, hLw2, hNw20, hNw2, hPb⟩ := plants (P := fun k => k < w.heap.size) HG0 ys (by omega) 5000 (by omega)
  have HIA := Aside0.mk hIa
  have HIB := Aside0.mk hIb
  have HLA := Aside0.mk hLa
  have HLB := Aside0.mk hLb
  have HNA := Aside0.mk hNa
  have HNB := Aside0.mk hNb
  have HPA := Aside0.mk hPa
  have HPB := Aside0.mk hPb
  clear hl0 hl1 HG0 hPa hPb hIa hIb
  clear ea eb
  have hia := HIA.out
  have hib0 := HIB.out
  rcases over_split HIA.out HIB.out with ⟨t, ht, hok, _⟩ | ⟨ht, _⟩
  case inr =>
    have HOV := Aside0.mk ht
    have HGO : Aside0 (∀ (W : World) (B : List Bx) (S : World → Prop) {A A2 : Option Addr} {c c2 : Nat} {n n2 : Int}, Mem w (fun k => k < w.heap.size) W B S → (∀ w, S w → Tr A a w) → (∀ w, S w → Tr A2 a w) → Calls Tryd.prog 34 #[.agg #[.slice A a.length c, .int .i64 n], .agg #[.slice A2 a.length c2, .int .i64 n2]] W fun e w' => ∃ Ao co, e = .returned (.slice Ao 0 co) ∧ Mem w (fun k => k < w.heap.size) w' B (fun w => S w)) := ⟨fun W B S A A2 c c2 n n2 hM hS hS2 => by
      refine (gone_M (n := n) (n2 := n2) (c := c) (c2 := c2) hM hS hS2 hia.ids hia.ids (by omega) (by omega) (by omega) (by omega)).mono ?_
      rw [gone_self hia]
      rintro e w' ⟨Ao, co, rfl, hM⟩
      exact ⟨Ao, co, rfl, hM.imp (fun w h => h.1)⟩⟩
    clear ht hia hib0
    go_enter Tryd.func11, Tryd.ntmps11
    go_upto_region 6 with (first|go_skip|((with_reducible refine gate_dst (N := 5) rfl ?_);(with_reducible refine' bz HM ?qw rfl ?qa ?qc ?_);(case qw|qa|qc=>rfl);clear HM;intro g5 _ HM)|((with_reducible refine gate_dst (N := 6) rfl ?_);(with_reducible refine' bz HM ?qw rfl ?qa ?qc ?_);(case qw|qa|qc=>rfl);clear HM;intro g6 _ HM)|((with_reducible refine gate_dst (N := 7) rfl ?_);(with_reducible refine' bz HM ?qw rfl ?qa ?qc ?_);(case qw|qa|qc=>rfl);clear HM;intro g7 _ HM)|((with_reducible refine gate_dst (N := 8) rfl ?_);(with_reducible refine' bz HM ?qw rfl ?qa ?qc ?_);(case qw|qa|qc=>rfl);clear HM;intro g8 _ HM)|((with_reducible refine' lc HM ?qw rfl ?qx ?qm ?qa ?qv ?_);(case qw|qx|qa=>rfl);(case qm=>repeat constructor);(case qv=>rfl))|((with_reducible refine' la HM ?qw rfl ?qx ?qm ?qa ?_);(case qw|qx=>rfl);(case qm=>repeat constructor);(case qa=>rfl))|((with_reducible refine' pa HM ?qw rfl ?qx _ ?qy ?qm ?qa ?_);(case qw|qx|qy=>rfl);(case qm=>repeat constructor);(case qa=>rfl);clear HM;intro _ HM)|(go_at_call 27;refine (lays_M HM.out).mono ?_;rintro e _ ⟨rfl, hM⟩;clear HM;have HM:=Aside0.mk hM;clear hM)|(go_at_call 28; (refine (HPA.out.tree HM.out ?hS).mono ?_); (case hS => exact fun _ h => h.1); rintro e _ ⟨Aa, ca, Awa, cwa, rfl, hc, hM⟩; have HCa := Aside0.mk hc; clear hc; clear HM;have HM:=Aside0.mk hM;clear hM))
    go_upto_region 7 with (first|go_skip|((with_reducible refine gate_dst (N := 5) rfl ?_);(with_reducible refine' bz HM ?qw rfl ?qa ?qc ?_);(case qw|qa|qc=>rfl);clear HM;intro g5 _ HM)|((with_reducible refine gate_dst (N := 6) rfl ?_);(with_reducible refine' bz HM ?qw rfl ?qa ?qc ?_);(case qw|qa|qc=>rfl);clear HM;intro g6 _ HM)|((with_reducible refine gate_dst (N := 7) rfl ?_);(with_reducible refine' bz HM ?qw rfl ?qa ?qc ?_);(case qw|qa|qc=>rfl);clear HM;intro g7 _ HM)|((with_reducible refine gate_dst (N := 8) rfl ?_);(with_reducible refine' bz HM ?qw rfl ?qa ?qc ?_);(case qw|qa|qc=>rfl);clear HM;intro g8 _ HM)|((with_reducible refine' lc HM ?qw rfl ?qx ?qm ?qa ?qv ?_);(case qw|qx|qa=>rfl);(case qm=>repeat constructor);(case qv=>rfl))|((with_reducible refine' la HM ?qw rfl ?qx ?qm ?qa ?_);(case qw|qx=>rfl);(case qm=>repeat constructor);(case qa=>rfl))|((with_reducible refine' pa HM ?qw rfl ?qx _ ?qy ?qm ?qa ?_);(case qw|qx|qy=>rfl);(case qm=>repeat constructor);(case qa=>rfl);clear HM;intro _ HM)|(go_at_call 28; (refine (HPB.out.tree HM.out ?hS).mono ?_); (case hS => exact fun _ h => h.1.2); rintro e _ ⟨Ab, cb, Awb, cwb, rfl, hc, hM⟩; have HCb := Aside0.mk hc; clear hc; clear HM;have HM:=Aside0.mk hM;clear hM))
    go_upto_region 9 with (first|go_skip|((with_reducible refine gate_dst (N := 9) rfl ?_);(with_reducible refine' bz HM ?qw rfl ?qa ?qc ?_);(case qw|qa|qc=>rfl);clear HM;intro g9 _ HM)|((with_reducible refine' lc HM ?qw rfl ?qx ?qm ?qa ?qv ?_);(case qw|qx|qa=>rfl);(case qm=>repeat constructor);(case qv=>rfl))|((with_reducible refine' la HM ?qw rfl ?qx ?qm ?qa ?_);(case qw|qx=>rfl);(case qm=>repeat constructor);(case qa=>rfl))|((with_reducible refine' pa HM ?qw rfl ?qx _ ?qy ?qm ?qa ?_);(case qw|qx|qy=>rfl);(case qm=>repeat constructor);(case qa=>rfl);clear HM;intro _ HM)|(go_at_call 29; (refine (over_C HIA.out HIB.out (by have := HLA.out; omega) (by have := HLB.out; omega) (by have := HNA.out; omega) (by have := HNB.out; omega) HOV.out HM.out ?hSa ?hSb HCa.out HCb.out).mono ?_); (case hSa => exact fun _ h => h.1.2); (case hSb => exact fun _ h => h.2); rintro e _ ⟨At, ct, rfl, hc, hM⟩; have HCt := Aside0.mk hc; clear hc; clear HM;have HM:=Aside0.mk hM;clear hM))
    go_wp2_with (first|go_skip|((with_reducible refine' lc HM ?qw rfl ?qx ?qm ?qa ?qv ?_);(case qw|qx|qa=>rfl);(case qm=>repeat constructor);(case qv=>rfl))|((with_reducible refine' la HM ?qw rfl ?qx ?qm ?qa ?_);(case qw|qx=>rfl);(case qm=>repeat constructor);(case qa=>rfl))|((with_reducible refine' pa HM ?qw rfl ?qx _ ?qy ?qm ?qa ?_);(case qw|qx|qy=>rfl);(case qm=>repeat constructor);(case qa=>rfl);clear HM;intro _ HM)|((with_reducible refine' bz HM ?qw rfl ?qa ?qc ?_);(case qw|qa|qc=>rfl);clear HM;intro _ _ HM)|(go_at_call 34;refine (HGO.out _ _ _ HM.out (fun _ h=>h.1.1.2) (fun _ h=>h.2)).mono ?_;rintro e _ ⟨Ao, co, rfl, hM⟩;clear HM;have HM:=Aside0.mk hM;clear hM))
    go_ret
    exact ⟨rfl, HM.out.below⟩
  have hlen := hok.len
  have hnn := newN_le a b
  have hit := hok.inv
  have hLt : t.length ≤ 9060 := by omega
  have hNt : na + nb ≤ 9060 := by omega
  have hg2 := gone_two (t := t) hia
  have hge := gone_each (t := t) hia
  have hne : ∀ (x : Int), 0 ≤ namesN t x := fun x => Nat.zero_le _
  have HGO : Aside0 (∀ (W : World) (B : List Bx) (S : World → Prop) {A A2 : Option Addr} {c c2 : Nat} {n n2 : Int}, Mem w (fun k => k < w.heap.size) W B S → (∀ w, S w → Tr A a w) → (∀ w, S w → Tr A2 t w) → Calls Tryd.prog 34 #[.agg #[.slice A a.length c, .int .i64 n], .agg #[.slice A2 t.length c2, .int .i64 n2]] W fun e w' => ∃ Ao co, e = .returned (.slice Ao (goneGo a (goneF a t)).length co) ∧ Mem w (fun k => k < w.heap.size) w' B (fun w => S w ∧ Ct Ao (goneGo a (goneF a t)) w)) := ⟨fun W B S A A2 c c2 n n2 hM hS hS2 => by
    refine (gone_M (n := n) (n2 := n2) (c := c) (c2 := c2) hM hS hS2 hia.ids hit.ids (by omega) (by omega) (by omega) (by omega)).mono ?_
    rintro e w' ⟨Ao, co, rfl, hM⟩
    exact ⟨Ao, co, rfl, hM⟩⟩
  have HGT : Aside0 (∀ (W : World) (B : List Bx) (S : World → Prop) {A A2 : Option Addr} {c c2 : Nat} {n n2 : Int}, Mem w (fun k => k < w.heap.size) W B S → (∀ w, S w → Tr A t w) → (∀ w, S w → Tr A2 t w) → Calls Tryd.prog 34 #[.agg #[.slice A t.length c, .int .i64 n], .agg #[.slice A2 t.length c2, .int .i64 n2]] W fun e w' => ∃ Ao co, e = .returned (.slice Ao 0 co) ∧ Mem w (fun k => k < w.heap.size) w' B (fun w => S w)) := ⟨fun W B S A A2 c c2 n n2 hM hS hS2 => by
    refine (gone_M (n := n) (n2 := n2) (c := c) (c2 := c2) hM hS hS2 hit.ids hit.ids (by omega) (by omega) (by omega) (by omega)).mono ?_
    rw [gone_self hit]
    rintro e w' ⟨Ao, co, rfl, hM⟩
    exact ⟨Ao, co, rfl, hM.imp (fun w h => h.1)⟩⟩
  have HGB : Aside0 (∀ (W : World) (B : List Bx) (S : World → Prop) {A A2 : Option Addr} {c c2 : Nat} {n n2 : Int}, Mem w (fun k => k < w.heap.size) W B S → (∀ w, S w → Tr A b w) → (∀ w, S w → Tr A2 b w) → Calls Tryd.prog 34 #[.agg #[.slice A b.length c, .int .i64 n], .agg #[.slice A2 b.length c2, .int .i64 n2]] W fun e w' => ∃ Ao co, e = .returned (.slice Ao 0 co) ∧ Mem w (fun k => k < w.heap.size) w' B (fun w => S w)) := ⟨fun W B S A A2 c c2 n n2 hM hS hS2 => by
    refine (gone_M (n := n) (n2 := n2) (c := c) (c2 := c2) hM hS hS2 hib0.ids hib0.ids (by omega) (by omega) (by omega) (by omega)).mono ?_
    rw [gone_self hib0]
    rintro e w' ⟨Ao, co, rfl, hM⟩
    exact ⟨Ao, co, rfl, hM.imp (fun w h => h.1)⟩⟩
  obtain ⟨N, hN⟩ : ∃ N : Nat, N = na.toNat := ⟨_, rfl⟩
  have hN1 : N ≤ 4530 := by omega
  have HV : Aside0 (∀ (φ : Int → Int) (fl : Int → Bool) (x z : Int), fl x = true → (con a).1 x = some z → tot φ (vis a t (fun y => fl y && !(y == x))) N = tot φ (vis a t fl) N + if namesN t x = 0 then φ z else 0) := ⟨fun φ fl x z hf hz => by
    have := con_size hia hz
    exact vis_step this.1 (by omega) hf hz⟩
  have HVE : Aside0 (∀ (φ : Int → Int) (fl : Int → Bool), (∀ x, (Lit.int .i64 x).wf = true → fl x = false) → tot φ (vis a t fl) N = tot φ (goneF a t) N) := ⟨fun φ fl hf => vis_end hia hib0 hok (by omega) hf⟩
  have HVB : Aside0 (∀ fl, 0 ≤ tot id (vis a t fl) N ∧ tot id (vis a t fl) N ≤ 4530 * 1048576 ∧ 0 ≤ tot one (vis a t fl) N ∧ tot one (vis a t fl) N ≤ 4530) := ⟨fun fl => by
    have h1 := tot_size (f := vis a t fl) (fun x z h => by have := con_size hia (vis_sub h); omega) N
    have h2 : tot one (vis a t fl) N ≤ (N : Int) := by
      unfold tot
      refine Int.le_trans (sum_cap (n := 0) N (Nat.zero_le _) (fun i _ _ => ?_)) (by simp [sumN])
      split <;> simp [one]
    have h3 : 0 ≤ tot one (vis a t fl) N := sum_nonneg N (fun i _ => by split <;> simp [one])
    omega⟩
  have HSZ : Aside0 (∀ x z, (con a).1 x = some z → 0 ≤ z ∧ z ≤ 1048576) := ⟨fun x z h => by have := con_size hia h; omega⟩
  rw [← hN] at hg2
  have HG2 := Aside0.mk hg2
  have HGE := Aside0.mk hge
  have HNM : Aside0 (∀ (W : World) (B : List Bx) (x : Int) {S : World → Prop} {A : Option Addr} {c : Nat} {n : Int}, Mem w (fun k => k < w.heap.size) W B S → (∀ w, S w → Tr A t w) → t.length ≤ c → Calls Tryd.prog 36 #[.agg #[.slice A t.length c, .int .i64 n], .int .i64 x] W fun e w' => e = .returned (.int .i64 (namesN t x : Nat)) ∧ Mem w (fun k => k < w.heap.size) w' B S) := ⟨fun W B x S A c n hM hS hc => by
    obtain ⟨k, hk⟩ := names_ev (x := x) (n := n) (l := t) (by omega)
    refine (tree_Tree_Names.calls k A c t n x _ W (hS _ hM.now) hc (hk k (Nat.le_refl _))).mono ?_
    rintro e w' ⟨rfl, hb⟩
    exact ⟨rfl, hM.call hb⟩⟩
  have HOV := Aside0.mk ht
  have HLT := Aside0.mk hLt
  have HS0 := Aside0.mk (show tot one (vis a t (fun x => ((con a).1 x).isSome)) N = 0 ∧ tot id (vis a t (fun x => ((con a).1 x).isSome)) N = 0 from ⟨vis_start _ _, vis_start _ _⟩)
  generalize ent : na + nb = nt at HOV
  have hgl : (goneGo a (goneF a t)).length ≤ 4530 := by
    have := HVB.out (fun _ => false)
    have h2 := (HVE.out one (fun _ => false) (fun _ _ => rfl))
    omega
  generalize goneGo a (goneF a t) = gl at HGO HG2 HGE hgl
  clear ht hia hib0 hok hlen hnn hit hNt hg2 hge hne hN ent
  go_enter Tryd.func11, Tryd.ntmps11
  go_upto_region 6 with (first|go_skip|((with_reducible refine gate_dst (N := 5) rfl ?_);(with_reducible refine' bz HM ?qw rfl ?qa ?qc ?_);(case qw|qa|qc=>rfl);clear HM;intro g5 _ HM)|((with_reducible refine gate_dst (N := 6) rfl ?_);(with_reducible refine' bz HM ?qw rfl ?qa ?qc ?_);(case qw|qa|qc=>rfl);clear HM;intro g6 _ HM)|((with_reducible refine gate_dst (N := 7) rfl ?_);(with_reducible refine' bz HM ?qw rfl ?qa ?qc ?_);(case qw|qa|qc=>rfl);clear HM;intro g7 _ HM)|((with_reducible refine gate_dst (N := 8) rfl ?_);(with_reducible refine' bz HM ?qw rfl ?qa ?qc ?_);(case qw|qa|qc=>rfl);clear HM;intro g8 _ HM)|((with_reducible refine' lc HM ?qw rfl ?qx ?qm ?qa ?qv ?_);(case qw|qx|qa=>rfl);(case qm=>repeat constructor);(case qv=>rfl))|((with_reducible refine' la HM ?qw rfl ?qx ?qm ?qa ?_);(case qw|qx=>rfl);(case qm=>repeat constructor);(case qa=>rfl))|((with_reducible refine' pa HM ?qw rfl ?qx _ ?qy ?qm ?qa ?_);(case qw|qx|qy=>rfl);(case qm=>repeat constructor);(case qa=>rfl);clear HM;intro _ HM)|(go_at_call 27;refine (lays_M HM.out).mono ?_;rintro e _ ⟨rfl, hM⟩;clear HM;have HM:=Aside0.mk hM;clear hM)|(go_at_call 28; (refine (HPA.out.tree HM.out ?hS).mono ?_); (case hS => exact fun _ h => h.1); rintro e _ ⟨Aa, ca, Awa, cwa, rfl, hc, hM⟩; have HCa := Aside0.mk hc; clear hc; clear HM;have HM:=Aside0.mk hM;clear hM))
  go_upto_region 7 with (first|go_skip|((with_reducible refine gate_dst (N := 5) rfl ?_);(with_reducible refine' bz HM ?qw rfl ?qa ?qc ?_);(case qw|qa|qc=>rfl);clear HM;intro g5 _ HM)|((with_reducible refine gate_dst (N := 6) rfl ?_);(with_reducible refine' bz HM ?qw rfl ?qa ?qc ?_);(case qw|qa|qc=>rfl);clear HM;intro g6 _ HM)|((with_reducible refine gate_dst (N := 7) rfl ?_);(with_reducible refine' bz HM ?qw rfl ?qa ?qc ?_);(case qw|qa|qc=>rfl);clear HM;intro g7 _ HM)|((with_reducible refine gate_dst (N := 8) rfl ?_);(with_reducible refine' bz HM ?qw rfl ?qa ?qc ?_);(case qw|qa|qc=>rfl);clear HM;intro g8 _ HM)|((with_reducible refine' lc HM ?qw rfl ?qx ?qm ?qa ?qv ?_);(case qw|qx|qa=>rfl);(case qm=>repeat constructor);(case qv=>rfl))|((with_reducible refine' la HM ?qw rfl ?qx ?qm ?qa ?_);(case qw|qx=>rfl);(case qm=>repeat constructor);(case qa=>rfl))|((with_reducible refine' pa HM ?qw rfl ?qx _ ?qy ?qm ?qa ?_);(case qw|qx|qy=>rfl);(case qm=>repeat constructor);(case qa=>rfl);clear HM;intro _ HM)|(go_at_call 28; (refine (HPB.out.tree HM.out ?hS).mono ?_); (case hS => exact fun _ h => h.1.2); rintro e _ ⟨Ab, cb, Awb, cwb, rfl, hc, hM⟩; have HCb := Aside0.mk hc; clear hc; clear HM;have HM:=Aside0.mk hM;clear hM))
  go_upto_region 10 with (first|go_skip|((with_reducible refine gate_dst (N := 9) rfl ?_);(with_reducible refine' bz HM ?qw rfl ?qa ?qc ?_);(case qw|qa|qc=>rfl);clear HM;intro g9 _ HM)|((with_reducible refine' lc HM ?qw rfl ?qx ?qm ?qa ?qv ?_);(case qw|qx|qa=>rfl);(case qm=>repeat constructor);(case qv=>rfl))|((with_reducible refine' la HM ?qw rfl ?qx ?qm ?qa ?_);(case qw|qx=>rfl);(case qm=>repeat constructor);(case qa=>rfl))|((with_reducible refine' pa HM ?qw rfl ?qx _ ?qy ?qm ?qa ?_);(case qw|qx|qy=>rfl);(case qm=>repeat constructor);(case qa=>rfl);clear HM;intro _ HM)|(go_at_call 29; (refine (over_C HIA.out HIB.out (by have := HLA.out; omega) (by have := HLB.out; omega) (by have := HNA.out; omega) (by have := HNB.out; omega) HOV.out HM.out ?hSa ?hSb HCa.out HCb.out).mono ?_); (case hSa => exact fun _ h => h.1.2); (case hSb => exact fun _ h => h.2); rintro e _ ⟨At, ct, rfl, hc, hM⟩; have HCt := Aside0.mk hc; clear hc; clear HM;have HM:=Aside0.mk hM;clear hM))
  have HSE := Aside0.mk HM.out
  go_wp2_with (first|go_skip|((with_reducible refine' lc HM ?qw rfl ?qx ?qm ?qa ?qv ?_);(case qw|qx|qa=>rfl);(case qm=>repeat constructor);(case qv=>rfl))|((with_reducible refine' la HM ?qw rfl ?qx ?qm ?qa ?_);(case qw|qx=>rfl);(case qm=>repeat constructor);(case qa=>rfl))|((with_reducible refine' pa HM ?qw rfl ?qx _ ?qy ?qm ?qa ?_);(case qw|qx|qy=>rfl);(case qm=>repeat constructor);(case qa=>rfl);clear HM;intro _ HM)|((with_reducible refine' bz HM ?qw rfl ?qa ?qc ?_);(case qw|qa|qc=>rfl);clear HM;intro _ _ HM)|(go_at_call 35; (refine (contents_M HM.out (fun _ h => h.1.1.2) HIA.out.ids (by have := HLA.out; omega) (by have := HNA.out; omega)).mono ?_); rintro e _ ⟨b1, rfl, _, hb1, hM⟩; have HB1 := Aside0.mk hb1; clear hb1; clear HM;have HM:=Aside0.mk hM;clear hM)|(at_range; (with_reducible refine' range_mapV HM.out HB1.out rfl rfl ?hm ?_); (case hm => rfl); intro r cnt0 _ hr hbr hbx hag hM; clear HM;have HM:=Aside0.mk hM;clear hM; have HR := Aside0.mk hr; have HBR := Aside0.mk hbr; have HBX := Aside0.mk hbx; have HAG := Aside0.mk hag; clear hr hbr hbx hag))
  go_frame
  go_loopw [11, 12] (fun v11 v12 wr => ∃ (cnt : Nat) (fl : Int → Bool), v11 = .int .i64 (tot id (vis a t fl) N) ∧ v12 = .int .i64 (tot one (vis a t fl) N) ∧ Aside0 (∀ x, (Lit.int .i64 x).wf = true → fl x = true → ((con a).1 x).isSome = true) ∧
    Aside0 (Mem w (fun k => k < w.heap.size) wr ((g9, [.slice At t.length ct, .int .i64 nt], 35) :: (g8, [.slice Awb ws2.length cwb, .int .i64 nw2], 64) :: (g7, [.slice Ab b.length cb, .int .i64 nb], 35) :: (g6, [.slice Awa ws.length cwa, .int .i64 nw], 64) :: (g5, [.slice Aa a.length ca, .int .i64 na], 35) :: []) (fun w' => Ag w (fun k => k < w.heap.size) ((g9, [.slice At t.length ct, .int .i64 nt], 35) :: (g8, [.slice Awb ws2.length cwb, .int .i64 nw2], 64) :: (g7, [.slice Ab b.length cb, .int .i64 nb], 35) :: (g6, [.slice Awa ws.length cwa, .int .i64 nw], 64) :: (g5, [.slice Aa a.length ca, .int .i64 na], 35) :: []) r _ w' ∧ RgV w' b1 r (con a).1 fl cnt))) (fun _ _ wr => wr.rangeLeft b1 r)
  case atStart => exact ⟨cnt0, _, by rw [HS0.out.2], by rw [HS0.out.1], ⟨fun x _ h => h⟩, HM⟩
  case round =>
    clear HM HSE
    obtain ⟨cnt, fl, rfl, rfl, HFL, HM⟩ := hrel
    have HB0 := Aside0.mk (fun k (_ : k < r) (h : k ∈ List.map (·.1) (((g9, [.slice At t.length ct, .int .i64 nt], 35) :: (g8, [.slice Awb ws2.length cwb, .int .i64 nw2], 64) :: (g7, [.slice Ab b.length cb, .int .i64 nb], 35) :: (g6, [.slice Awa ws.length cwa, .int .i64 nw], 64) :: (g5, [.slice Aa a.length ca, .int .i64 na], 35) :: []) : List Bx)) => h)
    have HLE := Aside0.mk (Rg.left HM.out.now.2.rg)
    generalize htb : tot id (vis a t fl) N = tb
    generalize htn : tot one (vis a t fl) N = tn
    have HTB := Aside0.mk htb
    have HTN := Aside0.mk htn
    have HBD : Aside0 (0 ≤ tb ∧ tb ≤ 4530 * 1048576 ∧ 0 ≤ tn ∧ tn ≤ 4530) := ⟨by have := HVB.out fl; omega⟩
    clear htb htn
    go_wp2_with (first|go_skip|((with_reducible refine' lc HM ?qw rfl ?qx ?qm ?qa ?qv ?_);(case qw|qx|qa=>rfl);(case qm=>repeat constructor);(case qv=>rfl))|((with_reducible refine' la HM ?qw rfl ?qx ?qm ?qa ?_);(case qw|qx=>rfl);(case qm=>repeat constructor);(case qa=>rfl))|((with_reducible refine' pa HM ?qw rfl ?qx _ ?qy ?qm ?qa ?_);(case qw|qx|qy=>rfl);(case qm=>repeat constructor);(case qa=>rfl);clear HM;intro _ HM)|((with_reducible refine' bz HM ?qw rfl ?qa ?qc ?_);(case qw|qa|qc=>rfl);clear HM;intro _ _ HM)|(at_next; (with_reducible refine' next_mapV HM.out HB0.out HB1.out HR.out HFL.out rfl rfl ?hit ?hd ?hmo); (case hit => rfl); intro hd; have HD := Aside0.mk hd; clear hd; rotate_left; intro x z _ cnt1 hwx hfx hfz hlt1 hM hen; have HX := Aside0.mk (And.intro hfx hfz); have HLT := Aside0.mk hlt1; clear hwx hfx hfz hlt1; clear HM;have HM:=Aside0.mk hM;clear hM; rcases nz (namesN t x) with ⟨hq, q1⟩ | ⟨hq, q1⟩; (have HQ := Aside0.mk hq; clear hq; rotate_left; have HQ := Aside0.mk hq; clear hq; rotate_left))|(go_at_call 36;refine (HNM.out _ _ x HM.out (fun w h=>(HAG.out w h.1).2) HCt.out).mono ?_;rintro e _ ⟨rfl, hM⟩;clear HM;have HM:=Aside0.mk hM;clear hM))
    rotate_left
    · have hb := HBD.out
      have hz := HSZ.out x z HX.out.2
      have e1 : wrap64 (tb + z) = tot id (vis a t (fun y => fl y && !(y == x))) N := by
        rw [HV.out id fl x z HX.out.1 HX.out.2, if_pos HQ.out, HTB.out]
        exact w64 (by omega) (by omega)
      have e2 : wrap64 (tn + 1) = tot one (vis a t (fun y => fl y && !(y == x))) N := by
        rw [HV.out one fl x z HX.out.1 HX.out.2, if_pos HQ.out, HTN.out]
        exact w64 (by omega) (by omega)
      go_roundw
      case rel => exact ⟨cnt1, fun y => fl y && !(y == x), by rw [e1], by rw [e2], ⟨fun y hy h => HFL.out y hy (by simp only [Bool.and_eq_true] at h; exact h.1)⟩, ⟨HM.out.drop⟩⟩
      case measure =>
        have e1 := Rg.left HM.out.now.2.rg
        rw [e1, HLE.out]
        exact HLT.out
    · have e1 : tb = tot id (vis a t (fun y => fl y && !(y == x))) N := by
        rw [HV.out id fl x z HX.out.1 HX.out.2, if_neg HQ.out, HTB.out]; omega
      have e2 : tn = tot one (vis a t (fun y => fl y && !(y == x))) N := by
        rw [HV.out one fl x z HX.out.1 HX.out.2, if_neg HQ.out, HTN.out]; omega
      go_roundw
      case rel => exact ⟨cnt1, fun y => fl y && !(y == x), by rw [← e1], by rw [← e2], ⟨fun y hy h => HFL.out y hy (by simp only [Bool.and_eq_true] at h; exact h.1)⟩, ⟨HM.out.drop⟩⟩
      case measure =>
        have e1 := Rg.left HM.out.now.2.rg
        rw [e1, HLE.out]
        exact HLT.out
    have hsum : tb = gl.sum ∧ tn = (gl.length : Int) := by
      have h1 := HVE.out id fl HD.out
      have h2 := HVE.out one fl HD.out
      have h3 := HG2.out
      rw [HTB.out] at h1
      rw [HTN.out] at h2
      exact ⟨h1.trans h3.2.symm, h2.trans h3.1.symm⟩
    obtain ⟨rfl, rfl⟩ := hsum
    have hglz : (gl.length : Int) ≤ 4530 := by omega
    clear HD HTB HTN HBD HLE HFL HV HVE HVB
    have HM2 : Aside0 (Mem w (fun k => k < w.heap.size) _ ((g9, [.slice At t.length ct, .int .i64 nt], 35) :: (g8, [.slice Awb ws2.length cwb, .int .i64 nw2], 64) :: (g7, [.slice Ab b.length cb, .int .i64 nb], 35) :: (g6, [.slice Awa ws.length cwa, .int .i64 nw], 64) :: (g5, [.slice Aa a.length ca, .int .i64 na], 35) :: []) (fun w => ((Two A0 A1 xs ys w ∧ Tr Aa a w) ∧ Tr Ab b w) ∧ Tr At t w)) := ⟨HM.out.imp (fun w h => HAG.out w h.1)⟩
    clear HM
    have HM := HM2
    clear HM2
    go_wp2_with (first|go_skip|((with_reducible refine' lc HM ?qw rfl ?qx ?qm ?qa ?qv ?_);(case qw|qx|qa=>rfl);(case qm=>repeat constructor);(case qv=>rfl))|((with_reducible refine' la HM ?qw rfl ?qx ?qm ?qa ?_);(case qw|qx=>rfl);(case qm=>repeat constructor);(case qa=>rfl))|((with_reducible refine' pa HM ?qw rfl ?qx _ ?qy ?qm ?qa ?_);(case qw|qx|qy=>rfl);(case qm=>repeat constructor);(case qa=>rfl);clear HM;intro _ HM)|((with_reducible refine' bz HM ?qw rfl ?qa ?qc ?_);(case qw|qa|qc=>rfl);clear HM;intro _ _ HM)|(go_at_call 34;refine (HGO.out _ _ _ HM.out (fun _ h=>h.1.1.2) (fun _ h=>h.2)).mono ?_;rintro e _ ⟨Ao, co, rfl, hM⟩;clear HM;have HM:=Aside0.mk hM;clear hM))
    have HGL := Aside0.mk hglz
    go_loopw [11, 74] (fun v11 v74 wr => ∃ (i : Nat), v74 = .int .i64 i ∧ v11 = .int .i64 (gl.drop i).sum ∧ Aside0 (i ≤ gl.length) ∧ Aside0 (Mem w (fun k => k < w.heap.size) wr ((g9, [.slice At t.length ct, .int .i64 nt], 35) :: (g8, [.slice Awb ws2.length cwb, .int .i64 nw2], 64) :: (g7, [.slice Ab b.length cb, .int .i64 nb], 35) :: (g6, [.slice Awa ws.length cwa, .int .i64 nw], 64) :: (g5, [.slice Aa a.length ca, .int .i64 na], 35) :: []) (fun w => (((Two A0 A1 xs ys w ∧ Tr Aa a w) ∧ Tr Ab b w) ∧ Tr At t w) ∧ Ct Ao gl w))) (fun _ v74 _ => gl.length - (intOf v74).toNat)
    case atStart => exact ⟨0, rfl, by rw [List.drop_zero], ⟨Nat.zero_le _⟩, HM⟩
    case round =>
      clear HM
      obtain ⟨i, rfl, rfl, HIX, HM⟩ := hrel
      have hib : (i : Int) ≤ 4530 := by have := HIX.out; have := HGL.out; omega
      by_cases hlt : i < gl.length
      · have hlz : (i : Int) < (gl.length : Int) := by omega
        obtain ⟨ad, ea, hc0, hc1⟩ := at_Ct HM.out.now.2 hlt
        have hdr : (gl.drop i).sum = gl.getD i 0 + (gl.drop (i + 1)).sum := by
          rw [List.drop_eq_getElem_cons hlt, List.sum_cons, List.getD_eq_getElem?_getD, List.getElem?_eq_getElem hlt]; rfl
        have hb1 := sum_bound (gl.drop i) (fun z hz => HGE.out z (List.mem_of_mem_drop hz))
        have hb2 := sum_bound (gl.drop (i + 1)) (fun z hz => HGE.out z (List.mem_of_mem_drop hz))
        have hdl : (gl.drop i).length ≤ 4530 := by rw [List.length_drop]; omega
        have hdl2 : (gl.drop (i + 1)).length ≤ 4530 := by rw [List.length_drop]; omega
        have e1 : wrap64 ((gl.drop i).sum - gl.getD i 0) = (gl.drop (i + 1)).sum := by rw [w64 (by omega) (by omega)]; omega
        have HE1 := Aside0.mk e1
        clear e1 hdr hb1 hb2 hdl hdl2
        subst ea
        generalize gl.getD i 0 = z at hc1 HE1
        go_upto_region 21 with (first|go_skip|((with_reducible refine' lc HM ?qw rfl ?qx ?qm ?qa ?qv ?_);(case qw|qx|qa=>rfl);(case qm=>repeat constructor);(case qv=>rfl))|((with_reducible refine' la HM ?qw rfl ?qx ?qm ?qa ?_);(case qw|qx=>rfl);(case qm=>repeat constructor);(case qa=>rfl))|((with_reducible refine' pa HM ?qw rfl ?qx _ ?qy ?qm ?qa ?_);(case qw|qx|qy=>rfl);(case qm=>repeat constructor);(case qa=>rfl);clear HM;intro _ HM)|((with_reducible refine' bz HM ?qw rfl ?qa ?qc ?_);(case qw|qa|qc=>rfl);clear HM;intro _ _ HM))
        clear hc0 hc1
        go_wp2_with (first|go_skip|((with_reducible refine' lc HM ?qw rfl ?qx ?qm ?qa ?qv ?_);(case qw|qx|qa=>rfl);(case qm=>repeat constructor);(case qv=>rfl))|((with_reducible refine' la HM ?qw rfl ?qx ?qm ?qa ?_);(case qw|qx=>rfl);(case qm=>repeat constructor);(case qa=>rfl))|((with_reducible refine' pa HM ?qw rfl ?qx _ ?qy ?qm ?qa ?_);(case qw|qx|qy=>rfl);(case qm=>repeat constructor);(case qa=>rfl);clear HM;intro _ HM)|((with_reducible refine' bz HM ?qw rfl ?qa ?qc ?_);(case qw|qa|qc=>rfl);clear HM;intro _ _ HM))
        go_roundw
        case rel => exact ⟨i + 1, by go_num, by rw [HE1.out], ⟨by omega⟩, ⟨HM.out.drop⟩⟩
        case measure => simp [intOf]; omega
      · have hil : i = gl.length := by have := HIX.out; omega
        have hlz : ¬ ((i : Int) < (gl.length : Int)) := by omega
        have hz : (gl.drop i).sum = 0 := by rw [hil, List.drop_length]; rfl
        rw [hz]
        clear hil hz HIX
        go_wp2_with (first|go_skip|((with_reducible refine' lc HM ?qw rfl ?qx ?qm ?qa ?qv ?_);(case qw|qx|qa=>rfl);(case qm=>repeat constructor);(case qv=>rfl))|((with_reducible refine' la HM ?qw rfl ?qx ?qm ?qa ?_);(case qw|qx=>rfl);(case qm=>repeat constructor);(case qa=>rfl))|(go_at_call 34;refine (HGT.out _ _ _ HM.out (fun _ h=>h.1.2) (fun _ h=>h.1.2)).mono ?_;rintro e _ ⟨Ao2, co2, rfl, hM⟩;clear HGT;clear HM;have HM:=Aside0.mk hM;clear hM)|(go_at_call 34;refine (HGB.out _ _ _ HM.out (fun _ h=>h.1.1.2) (fun _ h=>h.1.1.2)).mono ?_;rintro e _ ⟨Ao3, co2, rfl, hM⟩;clear HGB;clear HM;have HM:=Aside0.mk hM;clear hM))
        go_ret
        exact ⟨rfl, HM.out.below⟩
end Go.Proofs.YtolpamojbiipaaaDoor.XA
