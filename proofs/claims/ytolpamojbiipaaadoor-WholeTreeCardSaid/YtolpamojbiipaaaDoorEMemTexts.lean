/- Rows of texts and of whole numbers among own boxes. -/
import Derived.Test.YtolpamojbiipaaaDoorEMemRows
import Derived.Test.YtolpamojbiipaaaDoorEMemSeen
import Derived.Test.YtolpamojbiipaaaDoorUDfs
namespace Go.Proofs.YtolpamojbiipaaaDoor.XA
open Go.RowKit Go.Proofs.YtolpamojbiipaaaDoorW.PrintWords Go.Proofs.YtolpamojbiipaaaDoorW.PrintLast Go.Proofs.YtolpamojbiipaaaDoorW.PrintMore Go.Proofs.YtolpamojbiipaaaDoor.Mem Go.Proofs.YtolpamojbiipaaaDoor.Pure
set_option linter.unusedVariables false
set_option linter.unusedSimpArgs false

def st9 (s : ByteArray) : List Value := [.string s]
theorem sx9 : Sx Kd.string st9 := ⟨fun _ => rfl, fun x u hu => by simp [st9] at hu; subst hu; rfl, fun w x => rfl, fun h => h⟩
theorem heap9 : Kd.Heap Kd.string := ⟨fun _ h => h⟩
theorem heap3 : Kd.Heap (Kd.int .i64) := ⟨fun _ h => h⟩
theorem off_str (b : Nat) (A : Option Addr) (xs : List ByteArray) : OffMap b (fun w => Kd.C Kd.string w A xs.length xs) := off_C (fun w w' x cs h => h) b A xs.length xs
theorem off_int (b : Nat) (A : Option Addr) (xs : List Int) : OffMap b (fun w => Kd.C (Kd.int .i64) w A xs.length xs) := off_C (fun w w' x cs h => h) b A xs.length xs
theorem at_str {w : World} {A : Option Addr} {xs : List ByteArray} (h : Kd.C Kd.string w A xs.length xs) (i : Nat) (hi : i < xs.length) : ∃ ad, A = some ad ∧ w.cell? (ad.add i) = some (.string xs[i]) := by
  obtain ⟨ad, c, e, h1, h2, h3⟩ := Kd.C_get h ByteArray.empty (i : Int) (by omega) (by omega)
  have h2' : c = [Value.string (xs.getD (i : Int).toNat ByteArray.empty)] := h2
  subst h2'
  have := h3 0 _ rfl
  rw [Int.toNat_natCast, List.getD_eq_getElem?_getD, List.getElem?_eq_getElem hi] at this
  exact ⟨ad, e, by simpa [Kd.string, Kd.scalar] using this⟩
theorem at_int {w : World} {A : Option Addr} {xs : List Int} (h : Kd.C (Kd.int .i64) w A xs.length xs) (i : Nat) (hi : i < xs.length) : ∃ ad, A = some ad ∧ w.cell? (ad.add i) = some (.int .i64 xs[i]) := by
  obtain ⟨ad, c, e, h1, h2, h3⟩ := Kd.C_get h 0 (i : Int) (by omega) (by omega)
  have h2' : c = [Value.int .i64 (xs.getD (i : Int).toNat 0)] := h2
  subst h2'
  have := h3 0 _ rfl
  rw [Int.toNat_natCast, List.getD_eq_getElem?_getD, List.getElem?_eq_getElem hi] at this
  exact ⟨ad, e, by simpa [Kd.int, Kd.scalar] using this⟩
/-- A path as a text; paths as cells. -/
def tx (p : Pth) : ByteArray := mkS (joinS p)
def txC (ps : List Pth) : List Value := ps.map (fun p => Value.string (tx p))
theorem txC_app (a b : List Pth) : txC (a ++ b) = txC a ++ txC b := by simp [txC]
theorem txC_len (a : List Pth) : (txC a).length = a.length := by simp [txC]
theorem txC_cells (a : List Pth) : txC a = cellsX st9 (a.map tx) := by
  unfold txC cellsX st9
  induction a with
  | nil => rfl
  | cons x t ih => rw [List.map_cons, List.map_cons, List.flatMap_cons, ih]; rfl
theorem cut45 (W : World) (A : Option Addr) (n c h : Nat) (hh : h ≤ c) : (Instr.slice 45 (.slice A n c) none (some (.int .i64 (h : Int))) none).run Tryd.prog W = .ok (.slice A h c) W := by
  have he : Tryd.prog.underlying 45 = some (.slice (Tryd.prog.elem 45)) := by kernel_rfl
  rw [run_slice_h W 45 A n c he .i64 h (by omega) (by omega)]
  have hs : (sizeOf (Tryd.prog.elem 45)).run Tryd.prog W = .ok 1 W := by kernel_rfl
  rw [hs]
  simp only [Result.andThen, Int.toNat_natCast, sliced]
  simp
  cases A <;> simp [Addr.add]
/-- The last of an own row of texts, taken off. -/
theorem own_pop {v : Value} {X : List Bx} {ps : List Pth} {p : Pth} (h : OwnB 9 1 v (ps ++ [p]).length (txC (ps ++ [p])) X) : ∃ g cap sp, v = .slice (some ⟨g, 0, none⟩) (ps.length + 1) cap ∧ X = [(g, txC ps ++ (.string (tx p) :: sp), 9)] ∧ ps.length + 1 ≤ cap ∧
    OwnB 9 1 (.slice (some ⟨g, 0, none⟩) ps.length cap) ps.length (txC ps) X := by
  rcases h with ⟨_, h0, _⟩ | ⟨g, cap, sp, rfl, rfl, h1, h2, h3, h4⟩
  · simp at h0
  · rw [List.length_append] at h3 h1 ⊢
    simp only [List.length_cons, List.length_nil] at h3 h1 ⊢
    have e : txC (ps ++ [p]) ++ sp = txC ps ++ (.string (tx p) :: sp) := by rw [txC_app]; simp [txC]
    refine ⟨g, cap, sp, rfl, by rw [e], by omega, .inr ⟨g, cap, .string (tx p) :: sp, rfl, by rw [e], by rw [txC_len]; omega, ?_, by omega, h4⟩⟩
    rw [← e]; exact h2
theorem own_add {v : Value} {X : List Bx} {ps : List Pth} {p : Pth} (h : OwnB 9 1 v (ps.length + 1) (txC ps ++ [.string (tx p)]) X) : OwnB 9 1 v (ps ++ [p]).length (txC (ps ++ [p])) X := by
  rw [txC_app, List.length_append]; exact h
end Go.Proofs.YtolpamojbiipaaaDoor.XA
