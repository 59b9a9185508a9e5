-- Written by a program of this session (wip/tools/xprint.py) out of the translation's print. Lean checks it.
import Derived.Test.YtnpdgmgabkoeiaaDoorProg
import Derived.Below
import Derived.Deep.Draws
import Derived.Deep.AppendLies
import Derived.Maps.AppendAt
import Derived.OwnWalk
import Derived.Laws.BytesArg
import Derived.Laws.MakeOwn
import Derived.Laws.OwnMore
import Derived.Deep.OwnRows
import Derived.Tactics
import Derived.Lib.ConvBytes
import Derived.Laws.Slices
import Derived.WalkKit
import Derived.KernelRfl
import Derived.RowKit3
import Derived.Deep.LoopGhost
import Derived.Deep.QuietTactic
import Derived.BigQuiet
import Derived.WideLaws
import Derived.Deep.DeepCutAuto
import Derived.Deep.CutBlock
import Derived.Deep.RegionHeld3
import Derived.Laws.Rows
import Derived.Lib.AppendStr
import Derived.ArgAppend
import Derived.Laws.IdiomCopy
import Derived.OrdersHeld
import Derived.Laws.BitsLemmas
import Derived.RowKit
import Derived.Test.YtnpdgmgabkoeiaaDoorWWords
import Derived.Test.YtnpdgmgabkoeiaaDoorWLast
import Derived.Test.YtnpdgmgabkoeiaaDoorWTab
import Derived.Test.YtnpdgmgabkoeiaaDoorWFour
import Derived.Test.YtnpdgmgabkoeiaaDoorWQPut
import Derived.Test.YtnpdgmgabkoeiaaDoorWApart
import Derived.Test.YtnpdgmgabkoeiaaDoorWArr
import Derived.Test.YtnpdgmgabkoeiaaDoorWZeros
import Derived.Test.YtnpdgmgabkoeiaaDoorWFoot
import Derived.Test.YtnpdgmgabkoeiaaDoorWKept
import Derived.Test.YtnpdgmgabkoeiaaDoorWShare
import Derived.Test.YtnpdgmgabkoeiaaDoorWN
import Derived.Test.YtnpdgmgabkoeiaaDoorWFootNe
import Derived.Test.YtnpdgmgabkoeiaaDoorWAt
import Derived.Test.YtnpdgmgabkoeiaaDoorWEqStruct
import Derived.Test.YtnpdgmgabkoeiaaDoorWRepsOne
import Derived.Test.YtnpdgmgabkoeiaaDoorWInv
import Derived.Test.YtnpdgmgabkoeiaaDoorWInvWords
import Derived.Test.YtnpdgmgabkoeiaaDoorWGuard
import Derived.Test.YtnpdgmgabkoeiaaDoorWNEv
import Derived.Test.YtnpdgmgabkoeiaaDoorWMore
namespace Go.Proofs.YtnpdgmgabkoeiaaDoor.XA
open Go.RowKit Go.Proofs.YtnpdgmgabkoeiaaDoorW.PrintWords Go.Proofs.YtnpdgmgabkoeiaaDoorW.PrintLast Go.Proofs.YtnpdgmgabkoeiaaDoorW.PrintMore
attribute [local go_sem] max2_int min2_int max_two min_two max_three min_three max_four min_four   -- for this text's walks alone
set_option linter.unusedVariables false
set_option linter.unusedSimpArgs false



def errW : Option Int → Value
  | none => .nilIface
  | some c => .iface 0 (.int .i64 c)
theorem errW_none : errW none = .nilIface := rfl
theorem errW_some (c : Int) : errW (some c) = .iface 0 (.int .i64 c) := rfl

-- the values' own types
/-! #### struct type 29 -/
structure S29 where
  f0 : ByteArray
  f1 : ByteArray
def z29 : S29 := ⟨(⟨#[]⟩ : ByteArray), (⟨#[]⟩ : ByteArray)⟩
def k29 : Kd S29 := Kd.iso (Kd.pair Kd.string Kd.string) (fun x : S29 => (x.f0, x.f1))
theorem k29_open {w : World} {x : S29} {cs : List Value} (h : k29.K w x cs) : cs = [.string x.f0, .string x.f1] := by
  obtain ⟨_, _, rfl, rfl, rfl⟩ := h
  exact rfl
theorem k29_openM {w : World} {base : Nat} {ok : Nat → Prop} {x : S29} {cs : List Value} (h : k29.M w base ok x cs) : cs = [.string x.f0, .string x.f1] := by
  obtain ⟨_, _, rfl, rfl, rfl⟩ := h
  exact rfl
theorem k29_mk (w : World) (x : S29)  : k29.K w x [.string x.f0, .string x.f1] := ⟨[.string x.f0], [.string x.f1], rfl, rfl, rfl⟩
theorem k29_mkM (w : World) (base : Nat) (ok : Nat → Prop) (x : S29)  : k29.M w base ok x [.string x.f0, .string x.f1] := ⟨[.string x.f0], [.string x.f1], rfl, rfl, rfl⟩
def rd_T29 (xs : List S29) (i : Int) : S29 := xs.getD i.toNat z29
theorem at_T29 {w : World} {A : Option Addr} {n : Nat} {xs : List S29} (h : Kd.C k29 w A n xs) (i : Int) (h0 : 0 ≤ i) (h1 : i < n) : ∃ ad , A = some ad ∧ w.cell? (ad.add (i.toNat * 2)) = some (.string (rd_T29 xs i).f0) ∧ w.cell? ⟨(ad.add (i.toNat * 2)).block, (ad.add (i.toNat * 2)).off + 1, none⟩ = some (.string (rd_T29 xs i).f1) := by
  obtain ⟨ad, c, e, _, hK, hc0⟩ := Kd.C_get h z29 i h0 h1
  have hc : ∀ j u, c[j]? = some u → w.cell? (ad.add (i.toNat * 2 + j)) = some u := hc0
  obtain rfl := k29_open hK
  exact ⟨ad, e, hc 0 _ rfl, by rw [← add_field _ _ 1 (by omega)]; exact hc 1 _ rfl⟩

end Go.Proofs.YtnpdgmgabkoeiaaDoor.XA
