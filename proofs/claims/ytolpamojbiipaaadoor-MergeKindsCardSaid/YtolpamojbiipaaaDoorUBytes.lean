/- Bytes of texts at places. -/
import Derived.Test.YtolpamojbiipaaaDoorUClean
namespace Go.Proofs.YtolpamojbiipaaaDoor.Pure
open Go.RowKit Go.Proofs.YtolpamojbiipaaaDoor.XA Go.Proofs.YtolpamojbiipaaaDoorW.PrintWords Go.Proofs.YtolpamojbiipaaaDoorW.PrintLast Go.Proofs.YtolpamojbiipaaaDoorW.PrintMore
set_option linter.unusedSimpArgs false
set_option linter.unusedVariables false

theorem bl_mk (p : List UInt8) : bl (mkS p) = p.map fun b => (b.toNat : Int) := by simp [bl, mkS_data]
theorem bt_mk {p r : List UInt8} {c : UInt8} {j : Nat} (h : p.drop j = c :: r) : bt (mkS p) (j : Int) = (c.toNat : Int) := by
  rw [bt_bl, bl_mk]
  exact rd_drop (by rw [← List.map_drop, h]; rfl)
theorem byte_ne {c d : UInt8} (h : c ≠ d) : ¬ ((c.toNat : Int) = (d.toNat : Int)) := fun e => h (UInt8.toNat_inj.1 (by omega))
theorem byte_iff {c d : UInt8} : ((c.toNat : Int) = (d.toNat : Int)) ↔ c = d := ⟨fun e => UInt8.toNat_inj.1 (by omega), fun e => by rw [e]⟩
theorem is47 {c : UInt8} : ((c.toNat : Int) = 47) ↔ c = 47 := byte_iff (c := c) (d := 47)
theorem is0 {c : UInt8} : ((c.toNat : Int) = 0) ↔ c = 0 := byte_iff (c := c) (d := 0)
end Go.Proofs.YtolpamojbiipaaaDoor.Pure
