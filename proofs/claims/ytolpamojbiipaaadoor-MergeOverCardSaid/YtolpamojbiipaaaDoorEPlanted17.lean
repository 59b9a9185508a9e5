/- pannierlaw17.planted, walked by hand over Mem. Printed by wip/tools/gen_planted17.py. -/
import Derived.Test.YtolpamojbiipaaaDoorELink
import Derived.Test.YtolpamojbiipaaaDoorEMemS
import Derived.Test.YtolpamojbiipaaaDoorERefAdd
import Derived.Test.YtolpamojbiipaaaDoorEMemRow
namespace Go.Proofs.YtolpamojbiipaaaDoor.XA
open Go.RowKit Go.Proofs.YtolpamojbiipaaaDoorW.PrintWords Go.Proofs.YtolpamojbiipaaaDoorW.PrintLast Go.Proofs.YtolpamojbiipaaaDoorW.PrintMore Go.Proofs.YtolpamojbiipaaaDoor.Mem Go.Proofs.YtolpamojbiipaaaDoor.Pure
set_option linter.unusedVariables false
set_option linter.unusedSimpArgs false

def nd17 (k m z : Int) : S42 := ⟨k, m, 0, 0, 0, ⟨#[]⟩, ⟨#[]⟩, ⟨#[]⟩, ⟨(), z⟩, false⟩
abbrev T17 := (List S44 × Int) × (List S73 × Int)
/-- Is a thing not to be put? -/
def skip17 (x : S104) : Prop := (cleanS x.f2.data.toList).2 ≠ 0 ∨ 300 < x.f2.size ∨ x.f1 < 0 ∨ 1000 < x.f1
instance (x : S104) : Decidable (skip17 x) := by unfold skip17; infer_instance
/-- Both trees with one thing more. -/
def put17 (more : Int) (t : T17) (x : S104) : T17 :=
  if skip17 x then t else if x.f3.data.toList = [] then
    (if x.f0 = 1 then (((addP t.1.1 t.1.2 (cleanS x.f2.data.toList).1 (nd17 1 (x.f1 + more) x.f1)).1, (addP t.1.1 t.1.2 (cleanS x.f2.data.toList).1 (nd17 1 (x.f1 + more) x.f1)).2.1), ((addW t.2.1 t.2.2 (cleanS x.f2.data.toList).1 1 x.f1).1, (addW t.2.1 t.2.2 (cleanS x.f2.data.toList).1 1 x.f1).2.1))
     else if x.f0 = 3 ∨ x.f0 = 4 then (((addP t.1.1 t.1.2 (cleanS x.f2.data.toList).1 (nd17 x.f0 (x.f1 + more) 0)).1, (addP t.1.1 t.1.2 (cleanS x.f2.data.toList).1 (nd17 x.f0 (x.f1 + more) 0)).2.1), ((addW t.2.1 t.2.2 (cleanS x.f2.data.toList).1 x.f0 x.f1).1, (addW t.2.1 t.2.2 (cleanS x.f2.data.toList).1 x.f0 x.f1).2.1)) else t)
  else if (cleanS x.f3.data.toList).2 = 0 then (((linkP t.1.1 t.1.2 (cleanS x.f2.data.toList).1 (cleanS x.f3.data.toList).1).1, (linkP t.1.1 t.1.2 (cleanS x.f2.data.toList).1 (cleanS x.f3.data.toList).1).2.1), ((linkW t.2.1 t.2.2 (cleanS x.f2.data.toList).1 (cleanS x.f3.data.toList).1).1, (linkW t.2.1 t.2.2 (cleanS x.f2.data.toList).1 (cleanS x.f3.data.toList).1).2.1)) else t
def planted17 (more : Int) (xs : List S104) : T17 := xs.foldl (put17 more) (([], 0), ([], 0))
/-- What grows by a step, and what stays. -/
structure Step17 (t t' : T17) : Prop where
  inv : Inv t'.1.1 t'.1.2
  next : t.1.2 ≤ t'.1.2 ∧ t'.1.2 ≤ t.1.2 + 151
  len : t'.1.1.length ≤ t.1.1.length + 151
  wlen : t'.2.1.length ≤ t.2.1.length + 151
  wnext : t.2.2 ≤ t'.2.2 ∧ t'.2.2 ≤ t.2.2 + 151
theorem put17_ok {t : T17} (h : Inv t.1.1 t.1.2) (more : Int) (x : S104) : Step17 t (put17 more t x) := by
  have same : Step17 t t := ⟨h, by omega, by omega, by omega, by omega⟩
  unfold put17
  by_cases hs : skip17 x
  · rw [if_pos hs]; exact same
  rw [if_neg hs]
  have hs' := hs
  unfold skip17 at hs'
  simp only [not_or] at hs'
  have he : (cleanS x.f2.data.toList).2 = 0 := by simpa using hs'.1
  have hcl := clean_cl he (by omega)
  have fin : ∀ (nd : S42) (k m : Int), Nd nd → Step17 t (((addP t.1.1 t.1.2 (cleanS x.f2.data.toList).1 nd).1, (addP t.1.1 t.1.2 (cleanS x.f2.data.toList).1 nd).2.1), ((addW t.2.1 t.2.2 (cleanS x.f2.data.toList).1 k m).1, (addW t.2.1 t.2.2 (cleanS x.f2.data.toList).1 k m).2.1)) := fun nd k m hnd => by
    have ok := addP_ok h hcl hnd
    have okw := addW_len t.2.1 t.2.2 hcl k m
    exact ⟨ok.inv, ok.next, ok.len.2, okw.1, okw.2⟩
  by_cases ht : x.f3.data.toList = []
  · rw [if_pos ht]
    by_cases h1 : x.f0 = 1
    · rw [if_pos h1]; exact fin _ _ _ ⟨.inl rfl, rfl, by show 0 ≤ x.f1 ∧ x.f1 ≤ 1048576; omega⟩
    rw [if_neg h1]
    by_cases h2 : x.f0 = 3 ∨ x.f0 = 4
    · rw [if_pos h2]; exact fin _ _ _ ⟨.inr h2, rfl, by show (0 : Int) ≤ 0 ∧ (0 : Int) ≤ 1048576; omega⟩
    · rw [if_neg h2]; exact same
  · rw [if_neg ht]
    by_cases h1 : (cleanS x.f3.data.toList).2 = 0
    · rw [if_pos h1]
      have ok := linkP_ok h (ps := (cleanS x.f2.data.toList).1) (qs := (cleanS x.f3.data.toList).1) hcl
      have okw := linkW_len t.2.1 t.2.2 hcl (cleanS x.f3.data.toList).1
      exact ⟨ok.1, ok.2.1 |> fun h => ⟨h, ok.2.2.1⟩, ok.2.2.2, okw.1, okw.2⟩
    · rw [if_neg h1]; exact same
structure All17 (t : T17) (k : Nat) : Prop where
  inv : Inv t.1.1 t.1.2
  next : t.1.2 ≤ 151 * k
  len : t.1.1.length ≤ 151 * k
  wlen : t.2.1.length ≤ 151 * k
  wnext : 0 ≤ t.2.2 ∧ t.2.2 ≤ 151 * k
theorem planted17_ok (more : Int) (xs : List S104) : All17 (planted17 more xs) xs.length := by
  have gen : ∀ (xs : List S104) (t : T17) (k : Nat), All17 t k → All17 (xs.foldl (put17 more) t) (k + xs.length) := by
    intro xs
    induction xs with
    | nil => intro t k h; exact h
    | cons x r ih =>
      intro t k h
      have h1 := put17_ok h.inv more x
      have h2 := ih (put17 more t x) (k + 1) ⟨h1.inv, by have := h1.next; have := h.next; omega, by have := h1.len; have := h.len; omega, by have := h1.wlen; have := h.wlen; omega, by have := h1.wnext; have := h.wnext; omega⟩
      rw [List.foldl_cons, List.length_cons, show k + (r.length + 1) = k + 1 + r.length by omega]
      exact h2
  have := gen xs (([], 0), ([], 0)) 0 ⟨inv_nil, by simp, by simp, by simp, by simp⟩
  rwa [Nat.zero_add] at this
theorem clean_gd' (s : ByteArray) : Gd (cleanS s.data.toList).1 := by
  by_cases h : (cleanS s.data.toList).2 = 0
  · exact clean_gd h
  · rw [clean_bad h]; exact gd_nil
theorem built42 (k m : Int) : Tryd.prog.built 42 [(0, .int .i64 k), (1, .int .i64 m)] = some (nodeL (nd17 k m 0)).toArray := by kernel_rfl
theorem build_node {ops : Array Oper} {rest : List Oper} {o : Oper} {a : Act} {w : World} {Q : Exit → Act → World → Prop} {x y : Operand} (hg : o.guard = none) (ho : o.op = .build 42 #[(0, x), (1, y)]) (k m : Int)
    (hx : a.eval x = .int .i64 k) (hy : a.eval y = .int .i64 m) (h : wpList Tryd.prog ops Q rest (a.put o.dst (.agg (nodeL (nd17 k m 0)).toArray)) w) : wpList Tryd.prog ops Q (o :: rest) a w := by
  have e : (#[(0, x), (1, y)].map fun (j, u) => (j, a.eval u)).toList = [((0 : Nat), Value.int .i64 k), (1, .int .i64 m)] := by simp [hx, hy]
  refine wpList_build hg 42 _ ho (by rw [e, built42]; rfl) ?_
  rw [e, built42]
  exact h
theorem _root_.Go.Proofs.YtolpamojbiipaaaDoor.Mem.Mem.held2 {w0 w : World} {P : Nat → Prop} {B : List Bx} {S0 : World → Prop} {x y : Bx} (h : Mem w0 P w (x :: y :: B) S0) : Held [x, y] w := fun z hz => (h.box z (by
  simp only [List.mem_cons, List.not_mem_nil, or_false] at hz
  rcases hz with rfl | rfl
  · exact m0
  · exact m1)).1
theorem r_start2 {Pr : Program} {w0 W : World} {P : Nat → Prop} {B : List Bx} {S0 : World → Prop} {x y : Bx} {ops : Array Oper} {ds : List Nat} {a : Act} {Q : Exit → Act → World → Prop} {n id : Nat} (HM : Mem w0 P W (x :: y :: B) S0) (l : Array Bool) (hm : Pr.follows .mixedOrders = true) (hn : ops.size = n) (hl : Array.replicate n false = l)
    (h : ∀ W1, Mem w0 P W1 (x :: y :: B) S0 → wpAnyLast Pr .any ops Q (Held [x, y]) ds n l a W1) : (Code.region id ops true).wp Pr Q a W :=
  start_ l hm hn hl HM.drew.held2 (fun _ => h _ HM.drew)
theorem nodeL_size (k m z : Int) : (nodeL (nd17 k m 0)).set 9 (.int .i64 z) = nodeL (nd17 k m z) := rfl
def pl17r20T : Bool × List (List Nat × List Nat) := (true, [([], []), ([], []), ([0, 0], [0]), ([1, 2, 0, 1, 2], [1])])
def pl17r20B : List Nat := [0, 0, 1, 7]
theorem pl17r20Tab : rtab .any (opsOf Tryd.f28 20) = pl17r20T := by kernel_rfl
theorem pl17r20Bits : waitsOk pl17r20T.2 pl17r20B = true := by kernel_rfl

set_option maxHeartbeats 8000000 in
set_option maxRecDepth 100000 in
theorem planted17_walk (w : World) (P0 : Nat → Prop) (HG0 : GG w) (A0 : Option Addr) (c0 : Nat) (xs : List S104) (more : Int) (hx : Kd.F k104 w P0 A0 xs.length xs) (hlen : xs.length ≤ 1000) (hmore : 0 ≤ more ∧ more ≤ 1000000) :
    Calls Tryd.prog 28 #[.slice A0 xs.length c0, .int .i64 more] w fun e w' => ∃ A c A2 c2, e = .returned (.tuple #[.agg #[.slice A (planted17 more xs).1.1.length c, .int .i64 (planted17 more xs).1.2], .agg #[.slice A2 (planted17 more xs).2.1.length c2, .int .i64 (planted17 more xs).2.2]]) ∧
      (planted17 more xs).1.1.length ≤ c ∧ (planted17 more xs).2.1.length ≤ c2 ∧ Mem w P0 w' [] (fun w => (Kd.C k104 w A0 xs.length xs ∧ Tr A (planted17 more xs).1.1 w) ∧ Wr A2 (planted17 more xs).2.1 w) := by
  have HG := Aside0.mk HG0
  have HM : Aside0 (Mem w P0 w [] (fun w => Kd.C k104 w A0 xs.length xs)) := ⟨Mem.start (fun W' h => hx W' (fun k hp hk => h k hk hp))⟩
  have hli : (xs.length : Int) ≤ 1000 := by omega
  obtain ⟨hmore1, hmore2⟩ := hmore
  clear HG0 hx
  obtain ⟨res, hres⟩ : ∃ res, res = planted17 more xs := ⟨_, rfl⟩
  rw [← hres]
  have HR := Aside0.mk hres
  clear hres
  go_enter Tryd.func28, Tryd.ntmps28
  go_wp2_with (first|go_skip|((with_reducible refine gate_dst (N := 4) rfl ?_);(with_reducible refine' bz HM ?qw rfl ?qa ?qc ?_);(case qw|qa|qc=>rfl);clear HM;intro g4 _ HM)|((with_reducible refine gate_dst (N := 5) rfl ?_);(with_reducible refine' bz HM ?qw rfl ?qa ?qc ?_);(case qw|qa|qc=>rfl);clear HM;intro g5 _ HM)|((with_reducible refine gate_dst (N := 6) rfl ?_);(with_reducible refine' bz HM ?qw rfl ?qa ?qc ?_);(case qw|qa|qc=>rfl);clear HM;intro g6 _ HM)|((with_reducible refine gate_dst (N := 7) rfl ?_);(with_reducible refine' bz HM ?qw rfl ?qa ?qc ?_);(case qw|qa|qc=>rfl);clear HM;intro g7 _ HM))
  go_loopw [19] (fun v19 wr => ∃ (i : Nat) (l : List S44) (n : Int) (A : Option Addr) (c : Nat) (ws : List S73) (m : Int) (Aw : Option Addr) (cw : Nat), v19 = .int .i64 i ∧ Aside0 (i ≤ xs.length) ∧ Aside0 (((l, n), (ws, m)) = planted17 more (xs.take i)) ∧ Aside0 (l.length ≤ c) ∧ Aside0 (ws.length ≤ cw) ∧
    Aside0 (Mem w P0 wr [(g7, [.slice Aw ws.length cw, .int .i64 m], 64), (g6, [.slice A l.length c, .int .i64 n], 35), (g5, [.slice none 0 0, .int .i64 0], 64), (g4, [.slice none 0 0, .int .i64 0], 35)] (fun w => (Kd.C k104 w A0 xs.length xs ∧ Tr A l w) ∧ Wr Aw ws w))) (fun v19 _ => xs.length - (intOf v19).toNat)
  case atStart => exact ⟨0, [], 0, none, 0, [], 0, none, 0, rfl, ⟨Nat.zero_le _⟩, ⟨rfl⟩, ⟨Nat.le_refl _⟩, ⟨Nat.le_refl _⟩, ⟨HM.out.imp (fun w h => ⟨⟨h, Kd.C_nil _ _⟩, Kd.C_nil _ _⟩)⟩⟩
  case round =>
    clear HM
    obtain ⟨i, l, n, A, c, ws, m, Aw, cw, rfl, HIX, HT, HC, HC2, HM⟩ := hrel
    have hib : (i : Int) ≤ 1000 := by have := HIX.out; omega
    have hti := planted17_ok more (xs.take i)
    by_cases hlt : i < xs.length
    · have hlz : (i : Int) < (xs.length : Int) := by omega
      have hsucc : Aside0 (xs.take (i + 1) = xs.take i ++ [xs[i]]) := ⟨by rw [List.take_succ_eq_append_getElem hlt]⟩
      have hstep : Aside0 (planted17 more (xs.take i ++ [xs[i]]) = put17 more ((l, n), (ws, m)) xs[i]) := ⟨by rw [HT.out]; unfold planted17; rw [List.foldl_append]; rfl⟩
      rw [← HT.out] at hti
      have hlt2 : (xs.take i).length ≤ 1000 := by rw [List.length_take]; omega
      obtain ⟨ad, ea, hx0, hx1, hx2, hx3⟩ := at_T104 HM.out.now.1.1 (i : Int) (by omega) (by omega)
      have hrd : rd_T104 xs (i : Int) = xs[i] := by unfold rd_T104; rw [Int.toNat_natCast, List.getD_eq_getElem?_getD, List.getElem?_eq_getElem hlt]; rfl
      rw [hrd] at hx0 hx1 hx2 hx3
      rw [Int.toNat_natCast] at hx0 hx1 hx2 hx3
      clear hrd HT
      generalize xs[i] = x at hx0 hx1 hx2 hx3 hsucc hstep
      have HI := Aside0.mk hti.inv
      have HL := Aside0.mk (show l.length ≤ 800000 by have := hti.len; simp only at this; omega)
      have HN := Aside0.mk (show n ≤ 800000 by have := hti.next; simp only at this; omega)
      have HL2 := Aside0.mk (show ws.length ≤ 800000 by have := hti.wlen; simp only at this; omega)
      have HN2 := Aside0.mk (show 0 ≤ m ∧ m ≤ 800000 by have := hti.wnext; simp only at this; omega)
      clear hti hlt2
      subst ea
      go_upto_region 6 with (first|go_skip|((with_reducible refine' lc HM ?qw rfl ?qx ?qm ?qa ?qv ?_);(case qw|qx|qa=>rfl);(case qm=>repeat constructor);(case qv=>rfl))|((with_reducible refine' la HM ?qw rfl ?qx ?qm ?qa ?_);(case qw|qx=>rfl);(case qm=>repeat constructor);(case qa=>rfl))|((with_reducible refine' pa HM ?qw rfl ?qx _ ?qy ?qm ?qa ?_);(case qw|qx|qy=>rfl);(case qm=>repeat constructor);(case qa=>rfl);clear HM;intro _ HM)|((with_reducible refine' pc HM ?qw rfl ?qx ?qa ?qy ?qm ?qo ?qi ?_);(case qw|qx|qa=>rfl);(case qy=>first|exact (rfl:_=Value.int _ _)|exact (rfl:_=Value.slice _ _ _)|exact (rfl:_=Value.string _)|exact (rfl:_=Value.bool _));(case qm=>repeat constructor);(case qo=>exact ⟨rfl,rfl⟩);(case qi=>rfl);clear HM;intro _ HM;try simp only [List.set_cons_zero,List.set_cons_succ] at HM)|((with_reducible refine' bz HM ?qw rfl ?qa ?qc ?_);(case qw|qa|qc=>rfl);clear HM;intro _ _ HM))
      clear hx0 hx1 hx2 hx3
      go_upto_region 7 with (first|go_skip|((with_reducible refine' lc HM ?qw rfl ?qx ?qm ?qa ?qv ?_);(case qw|qx|qa=>rfl);(case qm=>repeat constructor);(case qv=>rfl))|((with_reducible refine' la HM ?qw rfl ?qx ?qm ?qa ?_);(case qw|qx=>rfl);(case qm=>repeat constructor);(case qa=>rfl))|((with_reducible refine' pa HM ?qw rfl ?qx _ ?qy ?qm ?qa ?_);(case qw|qx|qy=>rfl);(case qm=>repeat constructor);(case qa=>rfl);clear HM;intro _ HM)|((with_reducible refine' pc HM ?qw rfl ?qx ?qa ?qy ?qm ?qo ?qi ?_);(case qw|qx|qa=>rfl);(case qy=>first|exact (rfl:_=Value.int _ _)|exact (rfl:_=Value.slice _ _ _)|exact (rfl:_=Value.string _)|exact (rfl:_=Value.bool _));(case qm=>repeat constructor);(case qo=>exact ⟨rfl,rfl⟩);(case qi=>rfl);clear HM;intro _ HM;try simp only [List.set_cons_zero,List.set_cons_succ] at HM)|((with_reducible refine' bz HM ?qw rfl ?qa ?qc ?_);(case qw|qa|qc=>rfl);clear HM;intro _ _ HM)|(go_at_call 22;refine (clean_M HG.out HM.out _).mono ?_;rintro e _ ⟨A1, c1, rfl, hc1, hM⟩;have HCA := Aside0.mk hc1; clear hc1; clear HM;have HM:=Aside0.mk hM;clear hM))
      go_upto_region 8 with (first|go_skip|((with_reducible refine' lc HM ?qw rfl ?qx ?qm ?qa ?qv ?_);(case qw|qx|qa=>rfl);(case qm=>repeat constructor);(case qv=>rfl))|((with_reducible refine' la HM ?qw rfl ?qx ?qm ?qa ?_);(case qw|qx=>rfl);(case qm=>repeat constructor);(case qa=>rfl))|((with_reducible refine' pa HM ?qw rfl ?qx _ ?qy ?qm ?qa ?_);(case qw|qx|qy=>rfl);(case qm=>repeat constructor);(case qa=>rfl);clear HM;intro _ HM)|((with_reducible refine' pc HM ?qw rfl ?qx ?qa ?qy ?qm ?qo ?qi ?_);(case qw|qx|qa=>rfl);(case qy=>first|exact (rfl:_=Value.int _ _)|exact (rfl:_=Value.slice _ _ _)|exact (rfl:_=Value.string _)|exact (rfl:_=Value.bool _));(case qm=>repeat constructor);(case qo=>exact ⟨rfl,rfl⟩);(case qi=>rfl);clear HM;intro _ HM;try simp only [List.set_cons_zero,List.set_cons_succ] at HM)|((with_reducible refine' bz HM ?qw rfl ?qa ?qc ?_);(case qw|qa|qc=>rfl);clear HM;intro _ _ HM)|(go_at_call 22;refine (clean_M HG.out HM.out _).mono ?_;rintro e _ ⟨A2, c2, rfl, hc2, hM⟩;have HCB := Aside0.mk hc2; clear hc2; clear HM;have HM:=Aside0.mk hM;clear hM))
      have HGA := Aside0.mk (clean_gd' x.f2)
      have HGB := Aside0.mk (clean_gd' x.f3)
      go_upto_region 9 with (first|go_skip|((with_reducible refine' lc HM ?qw rfl ?qx ?qm ?qa ?qv ?_);(case qw|qx|qa=>rfl);(case qm=>repeat constructor);(case qv=>rfl))|((with_reducible refine' la HM ?qw rfl ?qx ?qm ?qa ?_);(case qw|qx=>rfl);(case qm=>repeat constructor);(case qa=>rfl))|((with_reducible refine' pa HM ?qw rfl ?qx _ ?qy ?qm ?qa ?_);(case qw|qx|qy=>rfl);(case qm=>repeat constructor);(case qa=>rfl);clear HM;intro _ HM)|((with_reducible refine' pc HM ?qw rfl ?qx ?qa ?qy ?qm ?qo ?qi ?_);(case qw|qx|qa=>rfl);(case qy=>first|exact (rfl:_=Value.int _ _)|exact (rfl:_=Value.slice _ _ _)|exact (rfl:_=Value.string _)|exact (rfl:_=Value.bool _));(case qm=>repeat constructor);(case qo=>exact ⟨rfl,rfl⟩);(case qi=>rfl);clear HM;intro _ HM;try simp only [List.set_cons_zero,List.set_cons_succ] at HM)|((with_reducible refine' bz HM ?qw rfl ?qa ?qc ?_);(case qw|qa|qc=>rfl);clear HM;intro _ _ HM)|(go_at_call 24; (first | ((with_reducible refine (join_M HM.out ?hS HCA.out HGA.out).mono ?_); (case hS => exact fun _ h => h.1.2)) | ((with_reducible refine (join_M HM.out ?hS HCB.out HGB.out).mono ?_); (case hS => exact fun _ h => h.2))); rintro e _ ⟨rfl, hM⟩; clear HM;have HM:=Aside0.mk hM;clear hM))
      by_cases hs : skip17 x
      case pos =>
        have HS := Aside0.mk (show put17 more ((l, n), (ws, m)) x = ((l, n), (ws, m)) by unfold put17; rw [if_pos hs])
        unfold skip17 at hs
        have hq : (cleanS x.f2.data.toList).2 ≠ 0 ∨ ((cleanS x.f2.data.toList).2 = 0 ∧ (300 < x.f2.size ∨ (¬ 300 < x.f2.size ∧ (x.f1 < 0 ∨ (¬ x.f1 < 0 ∧ 1000 < x.f1))))) := by
          by_cases e : (cleanS x.f2.data.toList).2 = 0
          · refine .inr ⟨e, ?_⟩
            have := hs.resolve_left (fun h => h e)
            omega
          · exact .inl e
        clear hs
        generalize (cleanS x.f2.data.toList).2 = e1 at hq ⊢
        rcases hq with h | ⟨rfl, h | ⟨h2, h | ⟨h3, h⟩⟩⟩
        · have b1 : (e1 != 0) = true := bne_iff_ne.2 h
          have b2 : (e1 == 0) = false := beq_eq_false_iff_ne.2 h
          clear h
          go_wp2_with (first|go_skip|((with_reducible refine' lc HM ?qw rfl ?qx ?qm ?qa ?qv ?_);(case qw|qx|qa=>rfl);(case qm=>repeat constructor);(case qv=>rfl))|((with_reducible refine' la HM ?qw rfl ?qx ?qm ?qa ?_);(case qw|qx=>rfl);(case qm=>repeat constructor);(case qa=>rfl))|((with_reducible refine' pa HM ?qw rfl ?qx _ ?qy ?qm ?qa ?_);(case qw|qx|qy=>rfl);(case qm=>repeat constructor);(case qa=>rfl);clear HM;intro _ HM)|((with_reducible refine' pc HM ?qw rfl ?qx ?qa ?qy ?qm ?qo ?qi ?_);(case qw|qx|qa=>rfl);(case qy=>first|exact (rfl:_=Value.int _ _)|exact (rfl:_=Value.slice _ _ _)|exact (rfl:_=Value.string _)|exact (rfl:_=Value.bool _));(case qm=>repeat constructor);(case qo=>exact ⟨rfl,rfl⟩);(case qi=>rfl);clear HM;intro _ HM;try simp only [List.set_cons_zero,List.set_cons_succ] at HM)|((with_reducible refine' bz HM ?qw rfl ?qa ?qc ?_);(case qw|qa|qc=>rfl);clear HM;intro _ _ HM))
          go_roundw
          case rel => exact ⟨i + 1, l, n, A, c, ws, m, Aw, cw, by go_num, ⟨by omega⟩, ⟨by rw [hsucc.out, hstep.out, HS.out]⟩, HC, HC2, ⟨(HM.out.drop).imp (fun w h => ⟨⟨h.1.1.1.1, h.1.1.1.2⟩, h.1.1.2⟩)⟩⟩
          case measure => simp [intOf]; omega
        · have b1 : decide ((300 : Int) < (x.f2.size : Int)) = true := decide_eq_true (by omega)
          go_wp2_with (first|go_skip|((with_reducible refine' lc HM ?qw rfl ?qx ?qm ?qa ?qv ?_);(case qw|qx|qa=>rfl);(case qm=>repeat constructor);(case qv=>rfl))|((with_reducible refine' la HM ?qw rfl ?qx ?qm ?qa ?_);(case qw|qx=>rfl);(case qm=>repeat constructor);(case qa=>rfl))|((with_reducible refine' pa HM ?qw rfl ?qx _ ?qy ?qm ?qa ?_);(case qw|qx|qy=>rfl);(case qm=>repeat constructor);(case qa=>rfl);clear HM;intro _ HM)|((with_reducible refine' pc HM ?qw rfl ?qx ?qa ?qy ?qm ?qo ?qi ?_);(case qw|qx|qa=>rfl);(case qy=>first|exact (rfl:_=Value.int _ _)|exact (rfl:_=Value.slice _ _ _)|exact (rfl:_=Value.string _)|exact (rfl:_=Value.bool _));(case qm=>repeat constructor);(case qo=>exact ⟨rfl,rfl⟩);(case qi=>rfl);clear HM;intro _ HM;try simp only [List.set_cons_zero,List.set_cons_succ] at HM)|((with_reducible refine' bz HM ?qw rfl ?qa ?qc ?_);(case qw|qa|qc=>rfl);clear HM;intro _ _ HM))
          go_roundw
          case rel => exact ⟨i + 1, l, n, A, c, ws, m, Aw, cw, by go_num, ⟨by omega⟩, ⟨by rw [hsucc.out, hstep.out, HS.out]⟩, HC, HC2, ⟨(HM.out.drop).imp (fun w h => ⟨⟨h.1.1.1.1, h.1.1.1.2⟩, h.1.1.2⟩)⟩⟩
          case measure => simp [intOf]; omega
        · have b1 : decide ((300 : Int) < (x.f2.size : Int)) = false := decide_eq_false (by omega)
          have b2 : decide (x.f1 < 0) = true := decide_eq_true h
          go_wp2_with (first|go_skip|((with_reducible refine' lc HM ?qw rfl ?qx ?qm ?qa ?qv ?_);(case qw|qx|qa=>rfl);(case qm=>repeat constructor);(case qv=>rfl))|((with_reducible refine' la HM ?qw rfl ?qx ?qm ?qa ?_);(case qw|qx=>rfl);(case qm=>repeat constructor);(case qa=>rfl))|((with_reducible refine' pa HM ?qw rfl ?qx _ ?qy ?qm ?qa ?_);(case qw|qx|qy=>rfl);(case qm=>repeat constructor);(case qa=>rfl);clear HM;intro _ HM)|((with_reducible refine' pc HM ?qw rfl ?qx ?qa ?qy ?qm ?qo ?qi ?_);(case qw|qx|qa=>rfl);(case qy=>first|exact (rfl:_=Value.int _ _)|exact (rfl:_=Value.slice _ _ _)|exact (rfl:_=Value.string _)|exact (rfl:_=Value.bool _));(case qm=>repeat constructor);(case qo=>exact ⟨rfl,rfl⟩);(case qi=>rfl);clear HM;intro _ HM;try simp only [List.set_cons_zero,List.set_cons_succ] at HM)|((with_reducible refine' bz HM ?qw rfl ?qa ?qc ?_);(case qw|qa|qc=>rfl);clear HM;intro _ _ HM))
          go_roundw
          case rel => exact ⟨i + 1, l, n, A, c, ws, m, Aw, cw, by go_num, ⟨by omega⟩, ⟨by rw [hsucc.out, hstep.out, HS.out]⟩, HC, HC2, ⟨(HM.out.drop).imp (fun w h => ⟨⟨h.1.1.1.1, h.1.1.1.2⟩, h.1.1.2⟩)⟩⟩
          case measure => simp [intOf]; omega
        · have b1 : decide ((300 : Int) < (x.f2.size : Int)) = false := decide_eq_false (by omega)
          have b2 : decide (x.f1 < 0) = false := decide_eq_false h3
          have b3 : decide (1000 < x.f1) = true := decide_eq_true h
          go_wp2_with (first|go_skip|((with_reducible refine' lc HM ?qw rfl ?qx ?qm ?qa ?qv ?_);(case qw|qx|qa=>rfl);(case qm=>repeat constructor);(case qv=>rfl))|((with_reducible refine' la HM ?qw rfl ?qx ?qm ?qa ?_);(case qw|qx=>rfl);(case qm=>repeat constructor);(case qa=>rfl))|((with_reducible refine' pa HM ?qw rfl ?qx _ ?qy ?qm ?qa ?_);(case qw|qx|qy=>rfl);(case qm=>repeat constructor);(case qa=>rfl);clear HM;intro _ HM)|((with_reducible refine' pc HM ?qw rfl ?qx ?qa ?qy ?qm ?qo ?qi ?_);(case qw|qx|qa=>rfl);(case qy=>first|exact (rfl:_=Value.int _ _)|exact (rfl:_=Value.slice _ _ _)|exact (rfl:_=Value.string _)|exact (rfl:_=Value.bool _));(case qm=>repeat constructor);(case qo=>exact ⟨rfl,rfl⟩);(case qi=>rfl);clear HM;intro _ HM;try simp only [List.set_cons_zero,List.set_cons_succ] at HM)|((with_reducible refine' bz HM ?qw rfl ?qa ?qc ?_);(case qw|qa|qc=>rfl);clear HM;intro _ _ HM))
          go_roundw
          case rel => exact ⟨i + 1, l, n, A, c, ws, m, Aw, cw, by go_num, ⟨by omega⟩, ⟨by rw [hsucc.out, hstep.out, HS.out]⟩, HC, HC2, ⟨(HM.out.drop).imp (fun w h => ⟨⟨h.1.1.1.1, h.1.1.1.2⟩, h.1.1.2⟩)⟩⟩
          case measure => simp [intOf]; omega
      have HS := Aside0.mk hs
      unfold skip17 at hs
      simp only [not_or] at hs
      have he : (cleanS x.f2.data.toList).2 = 0 := by simpa using hs.1
      have HCL := Aside0.mk (clean_cl he (by omega))
      have b1 : decide ((300 : Int) < (x.f2.size : Int)) = false := decide_eq_false (by omega)
      have b2 : decide (x.f1 < 0) = false := decide_eq_false hs.2.2.1
      have b3 : decide (1000 < x.f1) = false := decide_eq_false hs.2.2.2
      have hwm : wrap64 (x.f1 + more) = x.f1 + more := w64 (by omega) (by omega)
      rw [he]
      clear hs he
      by_cases ht : x.f3.data.toList = []
      case neg =>
        have t0 : (x.f3.toList == ([] : List UInt8)) = false := beq_eq_false_iff_ne.2 (by rw [toList_data]; exact ht)
        have t1 : x.f3.toList.isEmpty = false := List.isEmpty_eq_false_iff.2 (by rw [toList_data]; exact ht)
        by_cases he : (cleanS x.f3.data.toList).2 = 0
        case neg =>
          have HQ := Aside0.mk (show put17 more ((l, n), (ws, m)) x = ((l, n), (ws, m)) by unfold put17; rw [if_neg HS.out, if_neg ht, if_neg he])
          generalize (cleanS x.f3.data.toList).2 = e1 at he ⊢
          have u1 : (e1 != 0) = true := bne_iff_ne.2 he
          have u2 : (e1 == 0) = false := beq_eq_false_iff_ne.2 he
          clear he ht
          go_wp2_with (first|go_skip|((with_reducible refine' lc HM ?qw rfl ?qx ?qm ?qa ?qv ?_);(case qw|qx|qa=>rfl);(case qm=>repeat constructor);(case qv=>rfl))|((with_reducible refine' la HM ?qw rfl ?qx ?qm ?qa ?_);(case qw|qx=>rfl);(case qm=>repeat constructor);(case qa=>rfl))|((with_reducible refine' pa HM ?qw rfl ?qx _ ?qy ?qm ?qa ?_);(case qw|qx|qy=>rfl);(case qm=>repeat constructor);(case qa=>rfl);clear HM;intro _ HM)|((with_reducible refine' pc HM ?qw rfl ?qx ?qa ?qy ?qm ?qo ?qi ?_);(case qw|qx|qa=>rfl);(case qy=>first|exact (rfl:_=Value.int _ _)|exact (rfl:_=Value.slice _ _ _)|exact (rfl:_=Value.string _)|exact (rfl:_=Value.bool _));(case qm=>repeat constructor);(case qo=>exact ⟨rfl,rfl⟩);(case qi=>rfl);clear HM;intro _ HM;try simp only [List.set_cons_zero,List.set_cons_succ] at HM)|((with_reducible refine' bz HM ?qw rfl ?qa ?qc ?_);(case qw|qa|qc=>rfl);clear HM;intro _ _ HM))
          go_roundw
          case rel => exact ⟨i + 1, l, n, A, c, ws, m, Aw, cw, by go_num, ⟨by omega⟩, ⟨by rw [hsucc.out, hstep.out, HQ.out]⟩, HC, HC2, ⟨(HM.out.drop).imp (fun w h => ⟨⟨h.1.1.1.1, h.1.1.1.2⟩, h.1.1.2⟩)⟩⟩
          case measure => simp [intOf]; omega
        have HQ := Aside0.mk (show put17 more ((l, n), (ws, m)) x = (((linkP l n (cleanS x.f2.data.toList).1 (cleanS x.f3.data.toList).1).1, (linkP l n (cleanS x.f2.data.toList).1 (cleanS x.f3.data.toList).1).2.1), ((linkW ws m (cleanS x.f2.data.toList).1 (cleanS x.f3.data.toList).1).1, (linkW ws m (cleanS x.f2.data.toList).1 (cleanS x.f3.data.toList).1).2.1)) by unfold put17; rw [if_neg HS.out, if_neg ht, if_pos he])
        rw [he]
        clear he ht
        generalize (cleanS x.f2.data.toList).1 = ps at HM HCA HCL HGA HQ ⊢
        generalize (cleanS x.f3.data.toList).1 = qs at HM HCB HGB HQ ⊢
        go_wp2_with (first|go_skip|((with_reducible refine' lc HM ?qw rfl ?qx ?qm ?qa ?qv ?_);(case qw|qx|qa=>rfl);(case qm=>repeat constructor);(case qv=>rfl))|((with_reducible refine' la HM ?qw rfl ?qx ?qm ?qa ?_);(case qw|qx=>rfl);(case qm=>repeat constructor);(case qa=>rfl))|((with_reducible refine' pa HM ?qw rfl ?qx _ ?qy ?qm ?qa ?_);(case qw|qx|qy=>rfl);(case qm=>repeat constructor);(case qa=>rfl);clear HM;intro _ HM)|((with_reducible refine' pc HM ?qw rfl ?qx ?qa ?qy ?qm ?qo ?qi ?_);(case qw|qx|qa=>rfl);(case qy=>first|exact (rfl:_=Value.int _ _)|exact (rfl:_=Value.slice _ _ _)|exact (rfl:_=Value.string _)|exact (rfl:_=Value.bool _));(case qm=>repeat constructor);(case qo=>exact ⟨rfl,rfl⟩);(case qi=>rfl);clear HM;intro _ HM;try simp only [List.set_cons_zero,List.set_cons_succ] at HM)|((with_reducible refine' bz HM ?qw rfl ?qa ?qc ?_);(case qw|qa|qc=>rfl);clear HM;intro _ _ HM)|(go_at_call 26; (refine (link_M HM.out ?hS HI.out HC.out HL.out HN.out HCL.out HGB.out).mono ?_); (case hS => first | exact fun _ h => h | exact fun _ h => h.2 | exact fun _ h => h.1 | exact fun _ h => h.1.2 | exact fun _ h => h.1.1 | exact fun _ h => h.1.1.2 | exact fun _ h => h.1.1.1 | exact fun _ h => h.1.1.1.2 | exact fun _ h => h.1.1.1.1 | exact fun _ h => h.1.1.1.1.2 | exact fun _ h => h.1.1.1.1.1); rintro e _ ⟨A3, c3, rfl, hc3, hM⟩; have HC3 := Aside0.mk hc3; clear hc3; clear HM; have HM := Aside0.mk hM; clear hM)|(go_at_call 53; (refine (rlink_M HM.out ?hS HC2.out HL2.out HN2.out.1 HN2.out.2 HCL.out).mono ?_); (case hS => first | exact fun _ h => h | exact fun _ h => h.2 | exact fun _ h => h.1 | exact fun _ h => h.1.2 | exact fun _ h => h.1.1 | exact fun _ h => h.1.1.2 | exact fun _ h => h.1.1.1 | exact fun _ h => h.1.1.1.2 | exact fun _ h => h.1.1.1.1 | exact fun _ h => h.1.1.1.1.2 | exact fun _ h => h.1.1.1.1.1); rintro e _ ⟨A4, c4, rfl, hc4, hM⟩; have HC4 := Aside0.mk hc4; clear hc4; clear HM; have HM := Aside0.mk hM; clear hM))
        go_roundw
        case rel => exact ⟨i + 1, _, _, A3, c3, _, _, A4, c4, by go_num, ⟨by omega⟩, ⟨by rw [hsucc.out, hstep.out, HQ.out]⟩, HC3, HC4, ⟨(HM.out.drop).imp (fun w h => ⟨⟨h.1.1.1.1.1.1, h.1.2⟩, h.2⟩)⟩⟩
        case measure => simp [intOf]; omega
      have t0 : (x.f3.toList == ([] : List UInt8)) = true := beq_iff_eq.2 (by rw [toList_data]; exact ht)
      have t1 : x.f3.toList.isEmpty = true := List.isEmpty_iff.2 (by rw [toList_data]; exact ht)
      by_cases h1 : x.f0 = 1
      case pos =>
        have HQ := Aside0.mk (show put17 more ((l, n), (ws, m)) x = (((addP l n (cleanS x.f2.data.toList).1 (nd17 1 (x.f1 + more) x.f1)).1, (addP l n (cleanS x.f2.data.toList).1 (nd17 1 (x.f1 + more) x.f1)).2.1), ((addW ws m (cleanS x.f2.data.toList).1 1 x.f1).1, (addW ws m (cleanS x.f2.data.toList).1 1 x.f1).2.1)) by unfold put17; rw [if_neg HS.out, if_pos ht, if_pos h1])
        clear ht
        generalize (cleanS x.f2.data.toList).1 = ps at HM HCA HCL HGA HQ ⊢
        rw [h1] at HM
        clear h1
        go_upto_region 17 with (first|go_skip|((with_reducible refine' lc HM ?qw rfl ?qx ?qm ?qa ?qv ?_);(case qw|qx|qa=>rfl);(case qm=>repeat constructor);(case qv=>rfl))|((with_reducible refine' la HM ?qw rfl ?qx ?qm ?qa ?_);(case qw|qx=>rfl);(case qm=>repeat constructor);(case qa=>rfl))|((with_reducible refine' pa HM ?qw rfl ?qx _ ?qy ?qm ?qa ?_);(case qw|qx|qy=>rfl);(case qm=>repeat constructor);(case qa=>rfl);clear HM;intro _ HM)|((with_reducible refine' pc HM ?qw rfl ?qx ?qa ?qy ?qm ?qo ?qi ?_);(case qw|qx|qa=>rfl);(case qy=>first|exact (rfl:_=Value.int _ _)|exact (rfl:_=Value.slice _ _ _)|exact (rfl:_=Value.string _)|exact (rfl:_=Value.bool _));(case qm=>repeat constructor);(case qo=>exact ⟨rfl,rfl⟩);(case qi=>rfl);clear HM;intro _ HM;try simp only [List.set_cons_zero,List.set_cons_succ] at HM)|((with_reducible refine' bz HM ?qw rfl ?qa ?qc ?_);(case qw|qa|qc=>rfl);clear HM;intro _ _ HM)|((with_reducible refine' build_node rfl rfl _ _ ?hx ?hy ?_); (case hx => rfl); (case hy => rfl)))
        rw [nodeL_size] at HM
        go_wp2_with (first|go_skip|((with_reducible refine' lc HM ?qw rfl ?qx ?qm ?qa ?qv ?_);(case qw|qx|qa=>rfl);(case qm=>repeat constructor);(case qv=>rfl))|((with_reducible refine' la HM ?qw rfl ?qx ?qm ?qa ?_);(case qw|qx=>rfl);(case qm=>repeat constructor);(case qa=>rfl))|((with_reducible refine' pa HM ?qw rfl ?qx _ ?qy ?qm ?qa ?_);(case qw|qx|qy=>rfl);(case qm=>repeat constructor);(case qa=>rfl);clear HM;intro _ HM)|((with_reducible refine' pc HM ?qw rfl ?qx ?qa ?qy ?qm ?qo ?qi ?_);(case qw|qx|qa=>rfl);(case qy=>first|exact (rfl:_=Value.int _ _)|exact (rfl:_=Value.slice _ _ _)|exact (rfl:_=Value.string _)|exact (rfl:_=Value.bool _));(case qm=>repeat constructor);(case qo=>exact ⟨rfl,rfl⟩);(case qi=>rfl);clear HM;intro _ HM;try simp only [List.set_cons_zero,List.set_cons_succ] at HM)|((with_reducible refine' bz HM ?qw rfl ?qa ?qc ?_);(case qw|qa|qc=>rfl);clear HM;intro _ _ HM)|(go_at_call 38; (refine (add_M HM.out ?hS HI.out HC.out HL.out HN.out HCL.out (nd17 1 (x.f1 + more) x.f1)).mono ?_); (case hS => first | exact fun _ h => h | exact fun _ h => h.2 | exact fun _ h => h.1 | exact fun _ h => h.1.2 | exact fun _ h => h.1.1 | exact fun _ h => h.1.1.2 | exact fun _ h => h.1.1.1 | exact fun _ h => h.1.1.1.2 | exact fun _ h => h.1.1.1.1 | exact fun _ h => h.1.1.1.1.2 | exact fun _ h => h.1.1.1.1.1); rintro e _ ⟨A3, c3, rfl, hc3, hM⟩; have HC3 := Aside0.mk hc3; clear hc3; clear HM; have HM := Aside0.mk hM; clear hM)|(go_at_call 54; (refine (radd_M (kind := 1) (mark := x.f1) HM.out ?hS HC2.out HL2.out HN2.out HCL.out).mono ?_); (case hS => first | exact fun _ h => h | exact fun _ h => h.2 | exact fun _ h => h.1 | exact fun _ h => h.1.2 | exact fun _ h => h.1.1 | exact fun _ h => h.1.1.2 | exact fun _ h => h.1.1.1 | exact fun _ h => h.1.1.1.2 | exact fun _ h => h.1.1.1.1 | exact fun _ h => h.1.1.1.1.2 | exact fun _ h => h.1.1.1.1.1); rintro e _ ⟨A4, c4, rfl, hc4, hM⟩; have HC4 := Aside0.mk hc4; clear hc4; clear HM; have HM := Aside0.mk hM; clear hM))
        go_roundw
        case rel => exact ⟨i + 1, _, _, A3, c3, _, _, A4, c4, by go_num, ⟨by omega⟩, ⟨by rw [hsucc.out, hstep.out, HQ.out]⟩, HC3, HC4, ⟨(HM.out.drop.drop).imp (fun w h => ⟨⟨h.1.1.1.1.1.1, h.1.2⟩, h.2⟩)⟩⟩
        case measure => simp [intOf]; omega
      by_cases h2 : x.f0 = 3 ∨ x.f0 = 4
      case pos =>
        have HQ := Aside0.mk (show put17 more ((l, n), (ws, m)) x = (((addP l n (cleanS x.f2.data.toList).1 (nd17 x.f0 (x.f1 + more) 0)).1, (addP l n (cleanS x.f2.data.toList).1 (nd17 x.f0 (x.f1 + more) 0)).2.1), ((addW ws m (cleanS x.f2.data.toList).1 x.f0 x.f1).1, (addW ws m (cleanS x.f2.data.toList).1 x.f0 x.f1).2.1)) by unfold put17; rw [if_neg HS.out, if_pos ht, if_neg h1, if_pos h2])
        clear ht h1
        generalize (cleanS x.f2.data.toList).1 = ps at HM HCA HCL HGA HQ ⊢
        rcases h2 with h2 | h2
        · rw [h2] at HM HQ
          clear h2
          go_wp2_with (first|go_skip|((with_reducible refine' lc HM ?qw rfl ?qx ?qm ?qa ?qv ?_);(case qw|qx|qa=>rfl);(case qm=>repeat constructor);(case qv=>rfl))|((with_reducible refine' la HM ?qw rfl ?qx ?qm ?qa ?_);(case qw|qx=>rfl);(case qm=>repeat constructor);(case qa=>rfl))|((with_reducible refine' pa HM ?qw rfl ?qx _ ?qy ?qm ?qa ?_);(case qw|qx|qy=>rfl);(case qm=>repeat constructor);(case qa=>rfl);clear HM;intro _ HM)|((with_reducible refine' pc HM ?qw rfl ?qx ?qa ?qy ?qm ?qo ?qi ?_);(case qw|qx|qa=>rfl);(case qy=>first|exact (rfl:_=Value.int _ _)|exact (rfl:_=Value.slice _ _ _)|exact (rfl:_=Value.string _)|exact (rfl:_=Value.bool _));(case qm=>repeat constructor);(case qo=>exact ⟨rfl,rfl⟩);(case qi=>rfl);clear HM;intro _ HM;try simp only [List.set_cons_zero,List.set_cons_succ] at HM)|((with_reducible refine' bz HM ?qw rfl ?qa ?qc ?_);(case qw|qa|qc=>rfl);clear HM;intro _ _ HM)|((with_reducible refine' build_node rfl rfl _ _ ?hx ?hy ?_); (case hx => rfl); (case hy => rfl))|(go_at_call 38; (refine (add_M HM.out ?hS HI.out HC.out HL.out HN.out HCL.out (nd17 3 (x.f1 + more) 0)).mono ?_); (case hS => first | exact fun _ h => h | exact fun _ h => h.2 | exact fun _ h => h.1 | exact fun _ h => h.1.2 | exact fun _ h => h.1.1 | exact fun _ h => h.1.1.2 | exact fun _ h => h.1.1.1 | exact fun _ h => h.1.1.1.2 | exact fun _ h => h.1.1.1.1 | exact fun _ h => h.1.1.1.1.2 | exact fun _ h => h.1.1.1.1.1); rintro e _ ⟨A3, c3, rfl, hc3, hM⟩; have HC3 := Aside0.mk hc3; clear hc3; clear HM; have HM := Aside0.mk hM; clear hM)|(go_at_call 54; (refine (radd_M (kind := 3) (mark := x.f1) HM.out ?hS HC2.out HL2.out HN2.out HCL.out).mono ?_); (case hS => first | exact fun _ h => h | exact fun _ h => h.2 | exact fun _ h => h.1 | exact fun _ h => h.1.2 | exact fun _ h => h.1.1 | exact fun _ h => h.1.1.2 | exact fun _ h => h.1.1.1 | exact fun _ h => h.1.1.1.2 | exact fun _ h => h.1.1.1.1 | exact fun _ h => h.1.1.1.1.2 | exact fun _ h => h.1.1.1.1.1); rintro e _ ⟨A4, c4, rfl, hc4, hM⟩; have HC4 := Aside0.mk hc4; clear hc4; clear HM; have HM := Aside0.mk hM; clear hM))
          go_roundw
          case rel => exact ⟨i + 1, _, _, A3, c3, _, _, A4, c4, by go_num, ⟨by omega⟩, ⟨by rw [hsucc.out, hstep.out, HQ.out]⟩, HC3, HC4, ⟨(HM.out.drop.drop).imp (fun w h => ⟨⟨h.1.1.1.1.1.1, h.1.2⟩, h.2⟩)⟩⟩
          case measure => simp [intOf]; omega
        · rw [h2] at HM HQ
          clear h2
          go_wp2_with (first|go_skip|((with_reducible refine' lc HM ?qw rfl ?qx ?qm ?qa ?qv ?_);(case qw|qx|qa=>rfl);(case qm=>repeat constructor);(case qv=>rfl))|((with_reducible refine' la HM ?qw rfl ?qx ?qm ?qa ?_);(case qw|qx=>rfl);(case qm=>repeat constructor);(case qa=>rfl))|((with_reducible refine' pa HM ?qw rfl ?qx _ ?qy ?qm ?qa ?_);(case qw|qx|qy=>rfl);(case qm=>repeat constructor);(case qa=>rfl);clear HM;intro _ HM)|((with_reducible refine' pc HM ?qw rfl ?qx ?qa ?qy ?qm ?qo ?qi ?_);(case qw|qx|qa=>rfl);(case qy=>first|exact (rfl:_=Value.int _ _)|exact (rfl:_=Value.slice _ _ _)|exact (rfl:_=Value.string _)|exact (rfl:_=Value.bool _));(case qm=>repeat constructor);(case qo=>exact ⟨rfl,rfl⟩);(case qi=>rfl);clear HM;intro _ HM;try simp only [List.set_cons_zero,List.set_cons_succ] at HM)|((with_reducible refine' bz HM ?qw rfl ?qa ?qc ?_);(case qw|qa|qc=>rfl);clear HM;intro _ _ HM)|((with_reducible refine' build_node rfl rfl _ _ ?hx ?hy ?_); (case hx => rfl); (case hy => rfl))|(go_at_call 38; (refine (add_M HM.out ?hS HI.out HC.out HL.out HN.out HCL.out (nd17 4 (x.f1 + more) 0)).mono ?_); (case hS => first | exact fun _ h => h | exact fun _ h => h.2 | exact fun _ h => h.1 | exact fun _ h => h.1.2 | exact fun _ h => h.1.1 | exact fun _ h => h.1.1.2 | exact fun _ h => h.1.1.1 | exact fun _ h => h.1.1.1.2 | exact fun _ h => h.1.1.1.1 | exact fun _ h => h.1.1.1.1.2 | exact fun _ h => h.1.1.1.1.1); rintro e _ ⟨A3, c3, rfl, hc3, hM⟩; have HC3 := Aside0.mk hc3; clear hc3; clear HM; have HM := Aside0.mk hM; clear hM)|(go_at_call 54; (refine (radd_M (kind := 4) (mark := x.f1) HM.out ?hS HC2.out HL2.out HN2.out HCL.out).mono ?_); (case hS => first | exact fun _ h => h | exact fun _ h => h.2 | exact fun _ h => h.1 | exact fun _ h => h.1.2 | exact fun _ h => h.1.1 | exact fun _ h => h.1.1.2 | exact fun _ h => h.1.1.1 | exact fun _ h => h.1.1.1.2 | exact fun _ h => h.1.1.1.1 | exact fun _ h => h.1.1.1.1.2 | exact fun _ h => h.1.1.1.1.1); rintro e _ ⟨A4, c4, rfl, hc4, hM⟩; have HC4 := Aside0.mk hc4; clear hc4; clear HM; have HM := Aside0.mk hM; clear hM))
          go_roundw
          case rel => exact ⟨i + 1, _, _, A3, c3, _, _, A4, c4, by go_num, ⟨by omega⟩, ⟨by rw [hsucc.out, hstep.out, HQ.out]⟩, HC3, HC4, ⟨(HM.out.drop.drop).imp (fun w h => ⟨⟨h.1.1.1.1.1.1, h.1.2⟩, h.2⟩)⟩⟩
          case measure => simp [intOf]; omega
      · have HQ := Aside0.mk (show put17 more ((l, n), (ws, m)) x = ((l, n), (ws, m)) by unfold put17; rw [if_neg HS.out, if_pos ht, if_neg h1, if_neg h2])
        simp only [not_or] at h2
        have k1 : (x.f0 == 1) = false := beq_eq_false_iff_ne.2 h1
        have k3 : (x.f0 == 3) = false := beq_eq_false_iff_ne.2 h2.1
        have k4 : (x.f0 == 4) = false := beq_eq_false_iff_ne.2 h2.2
        clear h1 h2 ht
        go_wp2_with (first|go_skip|((with_reducible refine' lc HM ?qw rfl ?qx ?qm ?qa ?qv ?_);(case qw|qx|qa=>rfl);(case qm=>repeat constructor);(case qv=>rfl))|((with_reducible refine' la HM ?qw rfl ?qx ?qm ?qa ?_);(case qw|qx=>rfl);(case qm=>repeat constructor);(case qa=>rfl))|((with_reducible refine' pa HM ?qw rfl ?qx _ ?qy ?qm ?qa ?_);(case qw|qx|qy=>rfl);(case qm=>repeat constructor);(case qa=>rfl);clear HM;intro _ HM)|((with_reducible refine' pc HM ?qw rfl ?qx ?qa ?qy ?qm ?qo ?qi ?_);(case qw|qx|qa=>rfl);(case qy=>first|exact (rfl:_=Value.int _ _)|exact (rfl:_=Value.slice _ _ _)|exact (rfl:_=Value.string _)|exact (rfl:_=Value.bool _));(case qm=>repeat constructor);(case qo=>exact ⟨rfl,rfl⟩);(case qi=>rfl);clear HM;intro _ HM;try simp only [List.set_cons_zero,List.set_cons_succ] at HM)|((with_reducible refine' bz HM ?qw rfl ?qa ?qc ?_);(case qw|qa|qc=>rfl);clear HM;intro _ _ HM))
        go_roundw
        case rel => exact ⟨i + 1, l, n, A, c, ws, m, Aw, cw, by go_num, ⟨by omega⟩, ⟨by rw [hsucc.out, hstep.out, HQ.out]⟩, HC, HC2, ⟨(HM.out.drop).imp (fun w h => ⟨⟨h.1.1.1.1, h.1.1.1.2⟩, h.1.1.2⟩)⟩⟩
        case measure => simp [intOf]; omega
    · have hil : i = xs.length := by have := HIX.out; omega
      have hlz : ¬ ((i : Int) < (xs.length : Int)) := by omega
      have hre := HR.out.trans (show planted17 more xs = ((l, n), (ws, m)) by rw [HT.out, hil, List.take_length])
      clear hti HT HR hil
      subst hre
      go_upto_region 20 with (first|go_skip|((with_reducible refine' lc HM ?qw rfl ?qx ?qm ?qa ?qv ?_);(case qw|qx|qa=>rfl);(case qm=>repeat constructor);(case qv=>rfl))|((with_reducible refine' la HM ?qw rfl ?qx ?qm ?qa ?_);(case qw|qx=>rfl);(case qm=>repeat constructor);(case qa=>rfl))|((with_reducible refine' pa HM ?qw rfl ?qx _ ?qy ?qm ?qa ?_);(case qw|qx|qy=>rfl);(case qm=>repeat constructor);(case qa=>rfl);clear HM;intro _ HM)|((with_reducible refine' pc HM ?qw rfl ?qx ?qa ?qy ?qm ?qo ?qi ?_);(case qw|qx|qa=>rfl);(case qy=>first|exact (rfl:_=Value.int _ _)|exact (rfl:_=Value.slice _ _ _)|exact (rfl:_=Value.string _)|exact (rfl:_=Value.bool _));(case qm=>repeat constructor);(case qo=>exact ⟨rfl,rfl⟩);(case qi=>rfl);clear HM;intro _ HM;try simp only [List.set_cons_zero,List.set_cons_succ] at HM)|((with_reducible refine' bz HM ?qw rfl ?qa ?qc ?_);(case qw|qa|qc=>rfl);clear HM;intro _ _ HM))
      refine r_start2 (ds := [3]) HM.out #[false, false, false, false] (by kernel_rfl) rfl rfl (fun _ hM => ?_)
      refine with_tabW pl17r20Tab pl17r20Bits (fun HT_ HW_ => ?_)
      clear HM
      have HM := Aside0.mk hM
      clear hM
      apply r_all (i:=0) (N:=(some 131)) #[true, false, false, false]
      (case hi=>rfl)
      (case hN=>rfl)
      (case hc=>exact take_ofW HT_.out HW_.out (by kernel_rfl))
      (case hQ=>exact fun _ _ _ h=>h)
      (case ho=>rfl)
      (case hw=>rfl)
      (case hx=>rfl)
      (case ha=>exact agg35)
      (case hH=>first|exact HM.out.held2|exact HM.out.held|exact HM.out.heldTail|exact HM.out.heldTail2)
      (case hm=>first | exact m0 | exact m1 | exact m2 | exact m3)
      (case hl=>rfl)
      (case hp=>(simp only [Act.put, fillAll, List.setIfInBounds_toArray, List.set_cons_zero, List.set_cons_succ, i64_w, i32_w]; rfl))
      apply r_all (i:=1) (N:=(some 132)) #[true, true, false, false]
      (case hi=>rfl)
      (case hN=>rfl)
      (case hc=>exact take_ofW HT_.out HW_.out (by kernel_rfl))
      (case hQ=>exact fun _ _ _ h=>h)
      (case ho=>rfl)
      (case hw=>rfl)
      (case hx=>rfl)
      (case ha=>exact agg64)
      (case hH=>first|exact HM.out.held2|exact HM.out.held|exact HM.out.heldTail|exact HM.out.heldTail2)
      (case hm=>first | exact m0 | exact m1 | exact m2 | exact m3)
      (case hl=>rfl)
      (case hp=>(simp only [Act.put, fillAll, List.setIfInBounds_toArray, List.set_cons_zero, List.set_cons_succ, i64_w, i32_w]; rfl))
      refine one_ (i := 2) (N := none) #[true, true, true, false] rfl rfl (one_of HT_.out (by kernel_rfl)) (by decide) (fun K hK => ?_)
      apply r_put HM.out
      (case ho => rfl)
      (case hw => rfl)
      (case hN => rfl)
      (case hx => rfl)
      (case hm => first | exact at0 | exact at1 | exact at2 | exact at3)
      (case hy => rfl)
      (case hs => exact size35)
      (case h1 => first | exact rowL_one _ | exact nodeL_one _ | simp [Value.oneCell'])
      (case hi => rfl)
      intro _ hM
      refine hK.out _ _ hM.held2 (fun _ => ?_)
      clear hK K
      simp only [List.set_cons_zero, List.set_cons_succ] at hM
      clear HM
      have HM := Aside0.mk hM
      clear hM
      refine last_ (i := 3) (N := none) #[true, true, true, true] rfl rfl (one_of HT_.out (by kernel_rfl)) (by decide) (fun K hK => ?_)
      apply r_put HM.out
      (case ho => rfl)
      (case hw => rfl)
      (case hN => rfl)
      (case hx => rfl)
      (case hm => first | exact at0 | exact at1 | exact at2 | exact at3)
      (case hy => rfl)
      (case hs => exact size64)
      (case h1 => first | exact rowL_one _ | exact nodeL_one _ | simp [Value.oneCell'])
      (case hi => rfl)
      intro _ hM
      refine hK.out _ _ ?_
      clear hK K
      simp only [List.set_cons_zero, List.set_cons_succ] at hM
      clear HM
      have HM := Aside0.mk hM
      clear hM
      refine done_ (done_of HT_.out (by kernel_rfl)) ?_
      go_wp2
      refine bodyPost_ret (ret_cc HM.out rfl rfl (by first | exact m0 | exact m1 | exact m2 | exact m3) (by exact agg35) rfl (by first | exact m0 | exact m1 | exact m2 | exact m3) (by exact agg64)) rfl ?_
      exact ⟨A, c, Aw, cw, rfl, HC.out, HC2.out, HM.out.bare⟩
theorem planted17_M {w0 W : World} {P : Nat → Prop} {B : List Bx} {S : World → Prop} (HG : GG w0) (HM : Mem w0 P W B S) {A0 : Option Addr} {c0 : Nat} {xs : List S104} {more : Int} (hS : ∀ w, S w → Kd.C k104 w A0 xs.length xs) (hlen : xs.length ≤ 1000) (hmore : 0 ≤ more ∧ more ≤ 1000000) :
    Calls Tryd.prog 28 #[.slice A0 xs.length c0, .int .i64 more] W fun e w' => ∃ A c A2 c2, e = .returned (.tuple #[.agg #[.slice A (planted17 more xs).1.1.length c, .int .i64 (planted17 more xs).1.2], .agg #[.slice A2 (planted17 more xs).2.1.length c2, .int .i64 (planted17 more xs).2.2]]) ∧
      (planted17 more xs).1.1.length ≤ c ∧ (planted17 more xs).2.1.length ≤ c2 ∧ Mem w0 P w' B (fun w => (S w ∧ Tr A (planted17 more xs).1.1 w) ∧ Wr A2 (planted17 more xs).2.1 w) := by
  refine (planted17_walk W (fun k => k ∉ B.map (·.1) ∧ (P k ∨ w0.heap.size ≤ k)) (GG_below HG HM.below) A0 c0 xs more (fun W' hW => hS _ (HM.old W' (fun k hk hp => hW k hp hk))) hlen hmore).mono ?_
  rintro e w' ⟨A, c, A2, c2, rfl, hc, hc2, hM⟩
  refine ⟨A, c, A2, c2, rfl, hc, hc2, (HM.add hM.below (fun W' h => hM.last W' (fun k hk hlt => h k hlt (by
    rcases hk with hk | hk
    · exact .inl hk
    · exact .inr hk)))).imp (fun w h => ⟨⟨h.1, h.2.1.2⟩, h.2.2⟩)⟩
end Go.Proofs.YtolpamojbiipaaaDoor.XA
