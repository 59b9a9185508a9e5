/- internal/stringslite.Index at a text of one byte: the place of its first one. -/
import Derived.Test.YtchldbhnohicoaaShelf
import Derived.Test.YtchldbhnohicoaaXA0
namespace Go.Proofs.Ytchldbhnohicoaa.XA
open Go.RowKit Go.Proofs.YtchldbhnohicoaaW.PrintWords Go.Proofs.YtchldbhnohicoaaW.PrintLast Go.Proofs.YtchldbhnohicoaaW.PrintMore
set_option linter.unusedVariables false

def stringslite_Index.f (s t : ByteArray) : Option Int := match t.data.toList with
  | [c] => some (Lib.indexByte s.data.toList c)
  | _ => none
theorem stringslite_Index.calls (a0 : ByteArray) (a1 : ByteArray) (r : Int) (w : World) (h : stringslite_Index.f a0 a1 = some r) :
    Calls Try.prog 48 #[.string a0, .string a1] w fun e w' => e = .returned (.int .i64 r) ∧ Drawn0 w w' := by
  unfold stringslite_Index.f at h
  split at h
  · rename_i c hc
    have e : a1 = ⟨#[c]⟩ := by
      cases a1 with
      | mk d =>
        cases d with
        | mk l =>
          have : l = [c] := hc
          rw [this]
    subst e
    obtain rfl := Option.some.inj h
    refine (Try.stringslite_Index_one a0 c w).mono ?_
    rintro e w' ⟨rfl, rfl⟩
    exact ⟨rfl, Drawn0.refl _⟩
  · cases h
end Go.Proofs.Ytchldbhnohicoaa.XA
