/- '==' of small arrays as one Bool. -/
import Derived.Test.YtchldbhnohicoaaWWords
import Derived.Test.YtchldbhnohicoaaWEqStruct
import Derived.ChangeKeysEq
namespace Go.Proofs.Ytchldbhnohicoaa.XA
open Go.RowKit Go.Proofs.YtchldbhnohicoaaW.PrintWords
section
variable {P : Program} {d : Nat} {e : TypeId} {c : Nat} {xs ys : Array Value} {j : Nat} {js : List Nat} {a b : Value} {r s : Bool} {w : World}
theorem eqi_last (ha : (part e xs (j * c)).run P w = .ok a w) (hb : (part e ys (j * c)).run P w = .ok b w) (he : (Op.equalIn d e a b).run P w = .ok r w) : (Op.eqItems d e c xs ys [j]).run P w = .ok r w := by
  simp only [Op.eqItems, Sem.run_bind, ha, hb, he, Result.andThen_ok]
  cases r <;> simp
theorem eqi_cons (ha : (part e xs (j * c)).run P w = .ok a w) (hb : (part e ys (j * c)).run P w = .ok b w) (he : (Op.equalIn d e a b).run P w = .ok r w) (hr : (Op.eqItems d e c xs ys js).run P w = .ok s w) : (Op.eqItems d e c xs ys (j :: js)).run P w = .ok (r && s) w := by
  rw [Op.eqItems]
  simp only [Sem.run_bind, ha, hb, he, Result.andThen_ok]
  cases r
  · simp
  · simpa using hr
theorem eqArr_of {t : TypeId} {n : Nat} (js : List Nat) (hu : P.underlying t = some (.array n e)) (hi : (P.info? e).isSome = true) (hc : P.cellsOf e = c) (hj : List.range n = js) (h : (Op.eqItems d e c xs ys js).run P w = .ok r w) : (Op.equalIn (d + 1) t (.agg xs) (.agg ys)).run P w = .ok r w := by
  obtain ⟨i, hi⟩ := Option.isSome_iff_exists.1 hi
  rw [run_equalIn_array (P := P) (w := w) d xs ys hu hi, hc, hj]
  exact h
end
end Go.Proofs.Ytchldbhnohicoaa.XA
