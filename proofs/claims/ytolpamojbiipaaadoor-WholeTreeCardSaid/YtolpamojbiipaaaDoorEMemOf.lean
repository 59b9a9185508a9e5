/- usage.Of, pannierref10.Split, among own boxes. -/
import Derived.Test.YtolpamojbiipaaaDoorEMemTree
import Derived.Test.YtolpamojbiipaaaDoorEUsageOf
import Derived.Test.YtolpamojbiipaaaDoorURefSpl
namespace Go.Proofs.YtolpamojbiipaaaDoor.XA
open Go.RowKit Go.Proofs.YtolpamojbiipaaaDoorW.PrintWords Go.Proofs.YtolpamojbiipaaaDoorW.PrintLast Go.Proofs.YtolpamojbiipaaaDoorW.PrintMore Go.Proofs.YtolpamojbiipaaaDoor.Mem Go.Proofs.YtolpamojbiipaaaDoor.Pure
set_option linter.unusedVariables false
set_option linter.unusedSimpArgs false

/-- A usage's cells. -/
def usL (q : Int × Int × Int × Int) : List Value := [.int .i64 q.1, .int .i64 q.2.1, .int .i64 q.2.2.1, .int .i64 q.2.2.2]
theorem usL_one (q : Int × Int × Int × Int) : ∀ u ∈ usL q, u.oneCell' = true := by simp [usL, Value.oneCell']
def ofL (l : List S44) : Int × Int × Int × Int := ofGo l [] 0 0 0 0
variable {w0 W w' : World} {P : Nat → Prop} {B : List Bx} {S : World → Prop} {A : Option Addr} {c : Nat} {l : List S44} {n : Int}
theorem told {m : Int} (hI : Inv l m) (hl : l.length ≤ 900000) (hm : m ≤ 900000) : Told l :=
  ⟨by omega, fun r hr => by
    have h1 := hI.clean r hr
    have h2 := hI.ids r hr
    have h3 := h1.1.len
    refine ⟨by rw [h1.2, mk_size]; omega, ?_⟩
    simp only [Lit.wf, IntKind.min, IntKind.max, IntKind.signed, IntKind.bits, Bool.and_eq_true, decide_eq_true_eq]
    simp
    omega⟩
theorem of_M {m : Int} (HM : Mem w0 P W B S) (hS : ∀ w, S w → Tr A l w) (hI : Inv l m) (hc : l.length ≤ c) (hl : l.length ≤ 900000) (hm : m ≤ 900000) :
    Calls Tryd.prog 20 #[.agg #[.slice A l.length c, .int .i64 n]] W fun e w' => e = .returned (.agg (usL (ofL l)).toArray) ∧ Mem w0 P w' B S := by
  refine (usage_Of.calls A c l n (ofL l).1 (ofL l).2.1 (ofL l).2.2.1 (ofL l).2.2.2 W (hS _ HM.now) hc (by unfold usage_Of.f; rw [if_pos (told hI hl hm)]; rfl)).mono ?_
  rintro e w' ⟨rfl, hb⟩
  exact ⟨rfl, HM.call hb⟩
theorem split_M (HM : Mem w0 P W B S) {ps : Pth} (hp : Gd ps) :
    Calls Tryd.prog 21 #[.string (mkS (joinS ps))] W fun e w' => ∃ A c, e = .returned (.slice A ps.length c) ∧ Mem w0 P w' B S := by
  have hn : names (joinS ps) = ps := by
    by_cases e : ps = []
    · subst e; rfl
    · exact names_join hp.good e
  obtain ⟨k, hk⟩ := refsplit_ev (l := joinS ps) (by have := hp.len; omega)
  rw [hn] at hk
  refine (pannierref10_Split.calls k _ _ W (hk k (Nat.le_refl _))).mono ?_
  rintro e w' ⟨v0, rfl, hR, hb⟩
  obtain ⟨A, c, rfl⟩ := Kd.R_slice hR
  exact ⟨A, c, by rw [List.length_map], HM.call hb⟩
theorem split_row {m : Int} (HM : Mem w0 P W B S) (hI : Inv l m) {y : S44} (hy : y ∈ l) :
    Calls Tryd.prog 21 #[.string y.f0] W fun e w' => ∃ A c, e = .returned (.slice A (pp y).length c) ∧ Mem w0 P w' B S := by
  have h := hI.clean y hy
  have := split_M HM (Gd.of (.inr h.1))
  rw [← h.2] at this
  exact this
theorem ofGo_congr : ∀ (l : List S44) (S S' : List Int) (b i d n : Int), (∀ x, x ∈ S ↔ x ∈ S') → ofGo l S b i d n = ofGo l S' b i d n
  | [], _, _, _, _, _, _, _ => rfl
  | r :: t, S, S', b, i, d, n, h => by
    have h2 : ∀ x, x ∈ r.f1 :: S ↔ x ∈ r.f1 :: S' := fun x => by simp [h x]
    rw [ofGo, ofGo]
    by_cases e : r.f1 ∈ S
    · rw [if_pos e, if_pos ((h _).1 e)]; exact ofGo_congr t _ _ _ _ _ _ h2
    · rw [if_neg e, if_neg (fun x => e ((h _).2 x))]
      by_cases k : r.f2.f0 = 1
      · rw [if_pos k, if_pos k]; exact ofGo_congr t _ _ _ _ _ _ h2
      · rw [if_neg k, if_neg k]; exact ofGo_congr t _ _ _ _ _ _ h2
theorem heap49 : Kd.Heap k49 := ⟨fun _ h => by rw [k49_open h]; exact k49_mk _ _⟩
theorem infoI3 : (Tryd.prog.info? 3).map (fun i => (i.zero, i.size, i.bytes)) = some (some (.int .i64 0), 1, 8) := by kernel_rfl
end Go.Proofs.YtolpamojbiipaaaDoor.XA
