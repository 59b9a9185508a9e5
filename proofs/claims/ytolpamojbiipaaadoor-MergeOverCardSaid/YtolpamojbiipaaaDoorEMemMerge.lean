/- What the walks of the merge laws share: calls of planted, Get, Over with what is known of their trees. Printed by wip/tools/gen_mergewords.py. -/
import Derived.Test.YtolpamojbiipaaaDoorELays
import Derived.Test.YtolpamojbiipaaaDoorEPlanted17
namespace Go.Proofs.YtolpamojbiipaaaDoor.XA
open Go.RowKit Go.Proofs.YtolpamojbiipaaaDoorW.PrintWords Go.Proofs.YtolpamojbiipaaaDoorW.PrintLast Go.Proofs.YtolpamojbiipaaaDoorW.PrintMore Go.Proofs.YtolpamojbiipaaaDoor.Mem Go.Proofs.YtolpamojbiipaaaDoor.Pure
set_option linter.unusedVariables false
set_option linter.unusedSimpArgs false

theorem heap104 : Kd.Heap k104 := ⟨fun _ h => by rw [k104_open h]; exact k104_mk _ _⟩
/-- Two lists of things that lie in w. -/
def Two (A0 A1 : Option Addr) (xs ys : List S104) (w : World) : Prop := Kd.C k104 w A0 xs.length xs ∧ Kd.C k104 w A1 ys.length ys
theorem two_M {w : World} {A0 A1 : Option Addr} {xs ys : List S104} (h0 : Kd.C k104 w A0 xs.length xs) (h1 : Kd.C k104 w A1 ys.length ys) : Mem w (fun k => k < w.heap.size) w [] (Two A0 A1 xs ys) :=
  Mem.start (fun W' h => ⟨heap104.C (fun k hk => h k hk hk) h0, heap104.C (fun k hk => h k hk hk) h1⟩)
/-- The calls of planted with a list. -/
def Plants (w0 : World) (P : Nat → Prop) (xs : List S104) (more : Int) (a : List S44) (na : Int) (ws : List S73) (nw : Int) : Prop :=
  ∀ (W : World) (B : List Bx) (S : World → Prop) (A0 : Option Addr) (c0 : Nat), Mem w0 P W B S → (∀ w, S w → Kd.C k104 w A0 xs.length xs) → Calls Tryd.prog 28 #[.slice A0 xs.length c0, .int .i64 more] W fun e w' => ∃ A c A2 c2, e = .returned (.tuple #[.agg #[.slice A a.length c, .int .i64 na], .agg #[.slice A2 ws.length c2, .int .i64 nw]]) ∧
      a.length ≤ c ∧ ws.length ≤ c2 ∧ Mem w0 P w' B (fun w => (S w ∧ Tr A a w) ∧ Wr A2 ws w)
theorem plants {w0 : World} {P : Nat → Prop} (HG : GG w0) (xs : List S104) (hlen : xs.length ≤ 30) (more : Int) (hmore : 0 ≤ more ∧ more ≤ 1000000) :
    ∃ a na ws nw, planted17 more xs = ((a, na), (ws, nw)) ∧ Inv a na ∧ a.length ≤ 4530 ∧ na ≤ 4530 ∧ ws.length ≤ 4530 ∧ 0 ≤ nw ∧ nw ≤ 4530 ∧ Plants w0 P xs more a na ws nw := by
  have ok := planted17_ok more xs
  refine ⟨(planted17 more xs).1.1, (planted17 more xs).1.2, (planted17 more xs).2.1, (planted17 more xs).2.2, rfl, ok.inv, by have := ok.len; omega, by have := ok.next; omega, by have := ok.wlen; omega, ok.wnext.1, by have := ok.wnext.2; omega, ?_⟩
  intro W B S A0 c0 HM hS
  exact planted17_M HG HM hS (by omega) hmore
theorem Plants.tree {w0 : World} {P : Nat → Prop} {xs : List S104} {more : Int} {a : List S44} {na : Int} {ws : List S73} {nw : Int} (h : Plants w0 P xs more a na ws nw) {W : World} {B : List Bx} {S : World → Prop} {A0 : Option Addr} {c0 : Nat} (HM : Mem w0 P W B S) (hS : ∀ w, S w → Kd.C k104 w A0 xs.length xs) :
    Calls Tryd.prog 28 #[.slice A0 xs.length c0, .int .i64 more] W fun e w' => ∃ A c A2 c2, e = .returned (.tuple #[.agg #[.slice A a.length c, .int .i64 na], .agg #[.slice A2 ws.length c2, .int .i64 nw]]) ∧ a.length ≤ c ∧ Mem w0 P w' B (fun w => S w ∧ Tr A a w) := by
  refine (h W B S A0 c0 HM hS).mono ?_
  rintro e w' ⟨A, c, A2, c2, rfl, hc, _, hM⟩
  exact ⟨A, c, A2, c2, rfl, hc, hM.imp (fun w h => h.1)⟩
theorem over_C {w0 W : World} {P : Nat → Prop} {B : List Bx} {S : World → Prop} {a b t : List S44} {na nb nt err : Int} {Aa Ab : Option Addr} {ca cb : Nat} (ha : Inv a na) (hb : Inv b nb) (hla : a.length ≤ 400000) (hlb : b.length ≤ 400000) (hna : na ≤ 400000) (hnb : nb ≤ 400000) (ht : overT a b na nb = (t, nt, err))
    (HM : Mem w0 P W B S) (hSa : ∀ w, S w → Tr Aa a w) (hSb : ∀ w, S w → Tr Ab b w) (hca : a.length ≤ ca) (hcb : b.length ≤ cb) :
    Calls Tryd.prog 29 #[.agg #[.slice Aa a.length ca, .int .i64 na], .agg #[.slice Ab b.length cb, .int .i64 nb]] W fun e w' => ∃ A' c', e = .returned (.tuple #[.agg #[.slice A' t.length c', .int .i64 nt], .int .i64 err]) ∧ t.length ≤ c' ∧ Mem w0 P w' B (fun w => S w ∧ Tr A' t w) := by
  have := overT_M HM hSa hSb ha.wk hb.wk hca hcb hla hlb ⟨ha.next, hna⟩ ⟨hb.next, hnb⟩ (fun r hr => by have := hb.ids r hr; omega)
  rw [ht] at this
  exact this
theorem get_row {w0 W : World} {P : Nat → Prop} {B : List Bx} {S : World → Prop} {l : List S44} {n m : Int} {A : Option Addr} {c : Nat} {y : S44} (HM : Mem w0 P W B S) (hS : ∀ w, S w → Tr A l w) (hI : Inv l m) (hc : l.length ≤ c) (hl : l.length ≤ 900000) (hy : Cl (pp y) ∧ y.f0 = mkS (joinS (pp y))) {x : Option S44} (hx : lookR l (pp y) = x) :
    Calls Tryd.prog 23 #[.agg #[.slice A l.length c, .int .i64 n], .string y.f0] W fun e w' => e = .returned (.tuple #[.agg (rowL (x.getD z44)).toArray, .bool x.isSome]) ∧ Mem w0 P w' B S := by
  have := get_M (n := n) HM hS hI.wk hc hl (Gd.of (.inr hy.1))
  rw [hx, ← hy.2] at this
  exact this
theorem get_rowS {w0 W : World} {P : Nat → Prop} {B : List Bx} {S : World → Prop} {l : List S44} {n m : Int} {A : Option Addr} {c : Nat} {y o : S44} (HM : Mem w0 P W B S) (hS : ∀ w, S w → Tr A l w) (hI : Inv l m) (hc : l.length ≤ c) (hl : l.length ≤ 900000) (hy : Cl (pp y) ∧ y.f0 = mkS (joinS (pp y))) (hx : lookR l (pp y) = some o) :
    Calls Tryd.prog 23 #[.agg #[.slice A l.length c, .int .i64 n], .string y.f0] W fun e w' => e = .returned (.tuple #[.agg (rowL o).toArray, .bool true]) ∧ Mem w0 P w' B S := get_row HM hS hI hc hl hy hx
theorem get_rowN {w0 W : World} {P : Nat → Prop} {B : List Bx} {S : World → Prop} {l : List S44} {n m : Int} {A : Option Addr} {c : Nat} {y : S44} (HM : Mem w0 P W B S) (hS : ∀ w, S w → Tr A l w) (hI : Inv l m) (hc : l.length ≤ c) (hl : l.length ≤ 900000) (hy : Cl (pp y) ∧ y.f0 = mkS (joinS (pp y))) (hx : lookR l (pp y) = none) :
    Calls Tryd.prog 23 #[.agg #[.slice A l.length c, .int .i64 n], .string y.f0] W fun e w' => e = .returned (.tuple #[.agg (rowL z44).toArray, .bool false]) ∧ Mem w0 P w' B S := get_row HM hS hI hc hl hy hx
end Go.Proofs.YtolpamojbiipaaaDoor.XA
