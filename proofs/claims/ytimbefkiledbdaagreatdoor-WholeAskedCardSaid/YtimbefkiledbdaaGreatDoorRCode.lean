/- fault.Code at an error's number in one place: errors.As, walked (the reflection's entries by closed facts). -/
import Derived.Test.YtimbefkiledbdaaGreatDoorRFault
namespace Go.Proofs.YtimbefkiledbdaaGreatDoor.R
open Go.RowKit Go.Extern.Stop Go.Stop Go.Extern Go.Proofs.YtimbefkiledbdaaGreatDoor.Mem
set_option linter.unusedVariables false
set_option linter.unusedSimpArgs false

/-! Closed facts: 25: Errno, 48: a pointer to it, 50: At, 30: error, 97: the handle's type, 71: a Value. -/
theorem vOf48 (t : Addr) (w : World) : (callFunc 26 #[.iface 48 (.pointer (some t))]).run Tryz.prog w = .ok (.value (.agg #[.pointer (some ⟨9, 48, none⟩), .pointer (some ⟨w.heap.size, 0, none⟩), .int .u64 150])) (w.alloc (.cells #[.pointer (some t)] 48)) := by kernel_rfl
theorem vOf25 (n : Int) (w : World) : (callFunc 26 #[.iface 25 (.int .i64 n)]).run Tryz.prog w = .ok (.value (.agg #[.pointer (some ⟨9, 25, none⟩), .pointer (some ⟨w.heap.size, 0, none⟩), .int .u64 130])) (w.alloc (.cells #[.int .i64 n] 25)) := by kernel_rfl
theorem type48 (a : Addr) (w : World) : (callFunc 27 #[.agg #[.pointer (some ⟨9, 48, none⟩), .pointer (some a), .int .u64 150]]).run Tryz.prog w = .ok (.value (.iface 97 (.agg #[.pointer (some ⟨9, 48, none⟩)]))) w := by kernel_rfl
theorem mKind (h : Value) (w : World) : (Go.method 286 97 (.agg #[h]) "Kind").run Tryz.prog w = .ok (100, h) w := by kernel_rfl
theorem kind48 (w : World) : (callFunc 100 #[.pointer (some ⟨9, 48, none⟩)]).run Tryz.prog w = .ok (.value (.int .u8 22)) w := by kernel_rfl
theorem kind25 (w : World) : (callFunc 100 #[.pointer (some ⟨9, 25, none⟩)]).run Tryz.prog w = .ok (.value (.int .u8 2)) w := by kernel_rfl
theorem mElem (h : Value) (w : World) : (Go.method 286 97 (.agg #[h]) "Elem").run Tryz.prog w = .ok (113, .agg #[h]) w := by kernel_rfl
theorem elem48 (w : World) : (callFunc 113 #[.agg #[.pointer (some ⟨9, 48, none⟩)]]).run Tryz.prog w = .ok (.value (.iface 97 (.agg #[.pointer (some ⟨9, 25, none⟩)]))) w := by kernel_rfl
theorem mImpl (h : Value) (w : World) : (Go.method 286 97 (.agg #[h]) "Implements").run Tryz.prog w = .ok (114, .agg #[h]) w := by kernel_rfl
theorem impl25 (w : World) : (callFunc 114 #[.agg #[.pointer (some ⟨9, 25, none⟩)], .iface 97 (.agg #[.pointer (some ⟨9, 30, none⟩)])]).run Tryz.prog w = .ok (.value (.bool true)) w := by kernel_rfl
theorem tOf50 (v : Value) (w : World) : (callFunc 36 #[.iface 50 v]).run Tryz.prog w = .ok (.value (.iface 97 (.agg #[.pointer (some ⟨9, 50, none⟩)]))) w := by kernel_rfl
theorem tOf25 (v : Value) (w : World) : (callFunc 36 #[.iface 25 v]).run Tryz.prog w = .ok (.value (.iface 97 (.agg #[.pointer (some ⟨9, 25, none⟩)]))) w := by kernel_rfl
theorem mAssign (h : Value) (w : World) : (Go.method 286 97 (.agg #[h]) "AssignableTo").run Tryz.prog w = .ok (111, .agg #[h]) w := by kernel_rfl
theorem assign50 (w : World) : (callFunc 111 #[.agg #[.pointer (some ⟨9, 50, none⟩)], .iface 97 (.agg #[.pointer (some ⟨9, 25, none⟩)])]).run Tryz.prog w = .ok (.value (.bool false)) w := by kernel_rfl
theorem assign25 (w : World) : (callFunc 111 #[.agg #[.pointer (some ⟨9, 25, none⟩)], .iface 97 (.agg #[.pointer (some ⟨9, 25, none⟩)])]).run Tryz.prog w = .ok (.value (.bool true)) w := by kernel_rfl
/-! The entries that read or write memory. -/
theorem rl_m (z : Sem Value) (f : TypeId → Addr → Nat → Nat → Sem Value) (v : Value) {t : TypeId} {a : Addr} {fl : Nat} {W : World} (h : (ReflectliteValue.parts v).run Tryz.prog W = .ok (some (t, a, fl)) W) :
    (ReflectliteValue.method z f #[v]).run Tryz.prog W = (f t a fl (fl % 32)).run Tryz.prog W := by
  obtain ⟨F, hF, hs⟩ : ∃ F, ReflectliteValue.method z f #[v] = ReflectliteValue.parts v >>= F ∧ ∀ t a fl, F (some (t, a, fl)) = f t a fl (fl % 32) := ⟨_, rfl, fun _ _ _ => rfl⟩
  rw [hF, Sem.run_bind, h]
  show (F (some (t, a, fl))).run Tryz.prog W = _
  rw [hs]
theorem parts48 (a : Addr) (w : World) : (ReflectliteValue.parts (.agg #[.pointer (some ⟨9, 48, none⟩), .pointer (some a), .int .u64 150])).run Tryz.prog w = .ok (some (48, a, 150)) w := by kernel_rfl
theorem parts25 (a : Addr) (w : World) : (ReflectliteValue.parts (.agg #[.pointer (some ⟨9, 25, none⟩), .pointer (some a), .int .u64 130])).run Tryz.prog w = .ok (some (25, a, 130)) w := by kernel_rfl
theorem parts25a (a : Addr) (w : World) : (ReflectliteValue.parts (.agg #[.pointer (some ⟨9, 25, none⟩), .pointer (some a), .int .u64 386])).run Tryz.prog w = .ok (some (25, a, 386)) w := by kernel_rfl
theorem isNil48 (a p : Addr) (W : World) (ha : W.cell? a = some (.pointer (some p))) :
    (ReflectliteValue.method (ReflectliteValue.valueError "reflectlite.Value.IsNil" 0) ReflectliteValue.isNil #[.agg #[.pointer (some ⟨9, 48, none⟩), .pointer (some a), .int .u64 150]]).run Tryz.prog W = .ok (.bool false) W := by
  rw [rl_m _ _ _ (parts48 a W)]
  simp [ReflectliteValue.isNil, loadVar, isAgg, underlying, Tryz.underlying48, ha, Result.andThen]
theorem elemOf48 (w : World) : (Rtype.elem? 48).run Tryz.prog w = .ok (some 25) w := by kernel_rfl
theorem mk25 (p : Addr) (w : World) : (ReflectliteValue.mk 25 p ReflectliteValue.flagAddr).run Tryz.prog w = .ok (.agg #[.pointer (some ⟨9, 25, none⟩), .pointer (some p), .int .u64 386]) w := by kernel_rfl
theorem elemV48 (a p : Addr) (W : World) (ha : W.cell? a = some (.pointer (some p))) :
    (ReflectliteValue.method (ReflectliteValue.valueError "reflectlite.Value.Elem" 0) ReflectliteValue.elem #[.agg #[.pointer (some ⟨9, 48, none⟩), .pointer (some a), .int .u64 150]]).run Tryz.prog W
      = .ok (.agg #[.pointer (some ⟨9, 25, none⟩), .pointer (some p), .int .u64 386]) W := by
  rw [rl_m _ _ _ (parts48 a W)]
  simp [ReflectliteValue.elem, loadVar, isAgg, underlying, Tryz.underlying48, ha, Result.andThen, elemOf48, mk25]
theorem direct25 (w : World) : (Rtype.directlyAssignable 25 25).run Tryz.prog w = .ok true w := by kernel_rfl
theorem set_steps (v x : Value) (ta b : Addr) : ∃ (F : Option (TypeId × Addr × Nat) → Option (TypeId × Addr × Nat) → Sem Value) (G : Value → Sem Value) (H : Value → Bool → Sem Value),
    ReflectliteValue.set #[v, x] = (ReflectliteValue.parts v >>= fun p => ReflectliteValue.parts x >>= fun q => F p q) ∧ F (some (25, ta, 386)) (some (25, b, 130)) = (loadVar 25 b >>= G) ∧
    (∀ y, G y = (Rtype.directlyAssignable 25 25 >>= H y)) ∧ ∀ y, H y true = (storeVar 25 ta y >>= fun _ => pure (.tuple #[])) := ⟨_, _, _, rfl, rfl, fun _ => rfl, fun _ => rfl⟩
theorem set_at (ta b : Addr) (W : World) : (ReflectliteValue.set #[.agg #[.pointer (some ⟨9, 25, none⟩), .pointer (some ta), .int .u64 386], .agg #[.pointer (some ⟨9, 25, none⟩), .pointer (some b), .int .u64 130]]).run Tryz.prog W
    = ((loadVar 25 b).run Tryz.prog W).andThen fun x W' => ((storeVar 25 ta x).run Tryz.prog W').andThen fun _ W'' => .ok (.tuple #[]) W'' := by
  obtain ⟨F, G, H, h1, h2, h3, h4⟩ := set_steps (.agg #[.pointer (some ⟨9, 25, none⟩), .pointer (some ta), .int .u64 386]) (.agg #[.pointer (some ⟨9, 25, none⟩), .pointer (some b), .int .u64 130]) ta b
  rw [h1]
  simp only [Sem.run_bind, parts25a, parts25, Result.andThen_ok, h2, h3, direct25, h4, Sem.run_pure]
theorem set25 (ta b : Addr) (n : Int) (old : Value) (W : World) (hb : W.cell? b = some (.int .i64 n)) (ht : W.cell? ta = some old) (hf : W.frozen? ta = false) :
    (ReflectliteValue.set #[.agg #[.pointer (some ⟨9, 25, none⟩), .pointer (some ta), .int .u64 386], .agg #[.pointer (some ⟨9, 25, none⟩), .pointer (some b), .int .u64 130]]).run Tryz.prog W
      = .ok (.tuple #[]) (W.setCell ta (.int .i64 n)) := by
  rw [set_at]
  simp [loadVar, isAgg, underlying, Tryz.underlying25, hb, Result.andThen, direct25, storeVar, Value.cells, storeCells, Addr.add]
  rw [run_store Tryz.prog W ta _ _ (by rfl)]
  simp [ht, hf]
set_option maxHeartbeats 8000000 in
set_option maxRecDepth 100000 in
theorem as_c (n p : Int) (t : Addr) (old : Value) (w : World) (hg : w.cell? ⟨0, 0, none⟩ = some (.iface 97 (.agg #[.pointer (some ⟨9, 30, none⟩)]))) (ht0 : w.cell? t = some old) (hf0 : w.frozen? t = false) :
    Calls Tryz.prog 16 #[.iface 50 (.agg #[.int .i64 p, .iface 25 (.int .i64 n)]), .iface 48 (.pointer (some t))] w fun ev w' => ev = .returned (.bool true) ∧
      w' = (((((w.alloc (.cells #[.pointer (some t)] 48)).alloc (.cells #[.pointer (some ⟨9, 48, none⟩), .pointer (some ⟨w.heap.size, 0, none⟩), .int .u64 150] 71)).alloc (.cells #[.pointer (some ⟨9, 48, none⟩), .pointer (some ⟨w.heap.size, 0, none⟩), .int .u64 150] 71)).alloc (.cells #[.int .i64 p, .iface 25 (.int .i64 n)] 50)).alloc (.cells #[.int .i64 n] 25)).setCell t (.int .i64 n) := by
  have h28 := @run_callFunc_extern Tryz.prog 28 _ (ReflectliteValue.method (ReflectliteValue.valueError "reflectlite.Value.IsNil" 0) ReflectliteValue.isNil) Tryz.func28 (by kernel_rfl) (by kernel_rfl) (by kernel_rfl) (by kernel_rfl)
  have h41 := @run_callFunc_extern Tryz.prog 41 _ (ReflectliteValue.method (ReflectliteValue.valueError "reflectlite.Value.Elem" 0) ReflectliteValue.elem) Tryz.func41 (by kernel_rfl) (by kernel_rfl) (by kernel_rfl) (by kernel_rfl)
  have h42 := @run_callFunc_extern Tryz.prog 42 _ ReflectliteValue.set Tryz.func42 (by kernel_rfl) (by kernel_rfl) (by kernel_rfl) (by kernel_rfl)
  have f1 := vOf48
  have f2 := vOf25
  have f3 := type48
  have f4 := mKind
  have f5 := kind48
  have f6 := kind25
  have f7 := mElem
  have f8 := elem48
  have f9 := mImpl
  have g1 := impl25
  have g2 := tOf50
  have g3 := tOf25
  have g4 := mAssign
  have g5 := assign50
  have g6 := assign25
  have g7 := noAsA
  have g8 := unA
  have g9 := methodUnwrap
  have hlt : 0 < w.heap.size := by
    rcases Nat.eq_zero_or_pos w.heap.size with h0 | h
    · simp [World.cell?, h0] at hg
    · exact h
  have htl : t.block < w.heap.size := by
    rcases Nat.lt_or_ge t.block w.heap.size with h | h
    · exact h
    · simp [World.cell?, Array.getElem?_eq_none h] at ht0
  obtain ⟨w1, hw1⟩ : ∃ w1, w1 = w.alloc (.cells #[.pointer (some t)] 48) := ⟨_, rfl⟩
  obtain ⟨w2, hw2⟩ : ∃ w2, w2 = w1.alloc (.cells #[.pointer (some ⟨9, 48, none⟩), .pointer (some ⟨w.heap.size, 0, none⟩), .int .u64 150] 71) := ⟨_, rfl⟩
  obtain ⟨w3, hw3⟩ : ∃ w3, w3 = w2.alloc (.cells #[.pointer (some ⟨9, 48, none⟩), .pointer (some ⟨w.heap.size, 0, none⟩), .int .u64 150] 71) := ⟨_, rfl⟩
  obtain ⟨w4, hw4⟩ : ∃ w4, w4 = w3.alloc (.cells #[.int .i64 p, .iface 25 (.int .i64 n)] 50) := ⟨_, rfl⟩
  obtain ⟨w5, hw5⟩ : ∃ w5, w5 = w4.alloc (.cells #[.int .i64 n] 25) := ⟨_, rfl⟩
  have s1 : w1.heap.size = w.heap.size + 1 := by rw [hw1]; simp
  have s2 : w2.heap.size = w.heap.size + 2 := by rw [hw2]; simp [s1]
  have s3 : w3.heap.size = w.heap.size + 3 := by rw [hw3]; simp [s2]
  have s4 : w4.heap.size = w.heap.size + 4 := by rw [hw4]; simp [s3]
  have n8 := isNil48 ⟨w.heap.size, 0, none⟩ t w2 (by rw [hw2, World.cell?_alloc_lt _ _ _ (by rw [s1]; exact Nat.lt_succ_self _), hw1]; simp)
  have hg2 : w2.cell? ⟨0, 0, none⟩ = some (.iface 97 (.agg #[.pointer (some ⟨9, 30, none⟩)])) := by
    rw [hw2, World.cell?_alloc_lt _ _ ⟨0, 0, none⟩ (by rw [s1]; exact Nat.succ_pos _), hw1, World.cell?_alloc_lt _ _ ⟨0, 0, none⟩ hlt]; exact hg
  have c0 : ∀ W : World, W = w4 ∨ W = w3 → W.cell? ⟨w.heap.size, 0, none⟩ = some (.pointer (some t)) := fun W hW => by
    have k3 : w3.cell? ⟨w.heap.size, 0, none⟩ = some (.pointer (some t)) := by
      rw [hw3, World.cell?_alloc_lt _ _ _ (by rw [s2]; show w.heap.size < w.heap.size + 2; omega), hw2, World.cell?_alloc_lt _ _ _ (by rw [s1]; exact Nat.lt_succ_self _), hw1]; simp
    rcases hW with rfl | rfl
    · rw [hw4, World.cell?_alloc_lt _ _ _ (by rw [s3]; show w.heap.size < w.heap.size + 3; omega)]; exact k3
    · exact k3
  have el := elemV48 ⟨w.heap.size, 0, none⟩ t w4 (c0 w4 (.inl rfl))
  have st := set25 t ⟨w.heap.size + 1 + 1 + 1 + 1, 0, none⟩ n old w5 (by rw [show w.heap.size + 1 + 1 + 1 + 1 = w4.heap.size by omega, hw5]; simp)
    (by rw [hw5, World.cell?_alloc_lt _ _ t (by rw [s4]; omega), hw4, World.cell?_alloc_lt _ _ t (by rw [s3]; omega), hw3, World.cell?_alloc_lt _ _ t (by rw [s2]; omega), hw2, World.cell?_alloc_lt _ _ t (by rw [s1]; omega), hw1, World.cell?_alloc_lt _ _ t htl]; exact ht0)
    (by rw [hw5, World.frozen?_alloc_old _ _ t (by rw [s4]; omega), hw4, World.frozen?_alloc_old _ _ t (by rw [s3]; omega), hw3, World.frozen?_alloc_old _ _ t (by rw [s2]; omega), hw2, World.frozen?_alloc_old _ _ t (by rw [s1]; omega), hw1, World.frozen?_alloc_old _ _ t (Nat.ne_of_lt htl)]; exact hf0)
  subst hw5 hw4 hw3 hw2 hw1
  clear c0 s1 s2 s3 s4 ht0 hf0 hg
  go_enter Tryz.func16, Tryz.ntmps16
  go_wp2
  refine wp_loop_rounds 2 ?_
  rw [rounds_succ]
  go_wp2
  rw [rounds_succ]
  go_wp2
  go_ret
  exact ⟨rfl, rfl⟩
end Go.Proofs.YtimbefkiledbdaaGreatDoor.R
