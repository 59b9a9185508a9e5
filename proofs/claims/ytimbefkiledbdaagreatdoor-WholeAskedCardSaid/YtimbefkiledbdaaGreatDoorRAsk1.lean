/- ask.next, number, forms, read, Decode: walked by hand over Mem, at lines of the kind stat. Printed by wip/tools/gen_ask1.py. -/
import Derived.Test.YtimbefkiledbdaaGreatDoorRRows
namespace Go.Proofs.YtimbefkiledbdaaGreatDoor.R
open Go.RowKit Go.Proofs.YtimbefkiledbdaaGreatDoorW.PrintWords Go.Proofs.YtimbefkiledbdaaGreatDoorW.PrintLast Go.Proofs.YtimbefkiledbdaaGreatDoorW.PrintMore Go.Proofs.YtimbefkiledbdaaGreatDoor.Mem Go.Proofs.YtimbefkiledbdaaGreatDoor.Pure
set_option linter.unusedVariables false
set_option linter.unusedSimpArgs false

theorem size_mk (l : List UInt8) : (⟨l.toArray⟩ : ByteArray).size = l.length := by simp [ByteArray.size]
/-- What stands behind the word and the tenant: nothing, or a blank and a path. -/
def tailB (p : ByteArray) : List UInt8 := if p.data.toList = [] then [] else 32 :: p.data.toList
def restB (n : Nat) (p : ByteArray) : List UInt8 := Lib.decDigits n ++ tailB p
def lineB (n : Nat) (p : ByteArray) : List UInt8 := [115, 116, 97, 116, 32] ++ restB n p
theorem dd_no32 (n : Nat) : (32 : UInt8) ∉ Lib.decDigits n := fun h => by
  have := dd_bytes _ _ h
  revert this; decide
theorem tailB_len (p : ByteArray) : (tailB p).length ≤ p.size + 1 := by
  have h : p.data.toList.length = p.size := by simp
  unfold tailB
  split <;> simp
theorem dd7 {n : Nat} (h : n ≤ 1048576) : (Lib.decDigits n).length ≤ 7 := dd_len 6 n (by omega)
set_option maxRecDepth 100000 in
theorem next_at (s : ByteArray) (a r : List UInt8) (hs : s.data.toList = a ++ 32 :: r) (ha : (32 : UInt8) ∉ a) (hz : s.size ≤ 1000000) (w : World) :
    Calls Tryz.prog 13 #[.string s] w fun e w' => e = .returned (.tuple #[.string ⟨a.toArray⟩, .string ⟨r.toArray⟩]) ∧ Below w.heap.size w w' := by
  have hC := cut_c s 32 a r hs ha hz
  clear hs ha hz
  generalize (⟨a.toArray⟩ : ByteArray) = x at hC ⊢
  generalize (⟨r.toArray⟩ : ByteArray) = y at hC ⊢
  go_enter Tryz.func13, Tryz.ntmps13
  go_wp2_with (first | (go_at_call 23; refine (hC _).mono ?_; rintro e w' ⟨rfl, hb⟩))
  go_ret2
  exact ⟨rfl, hb⟩
set_option maxRecDepth 100000 in
theorem next_no (s : ByteArray) (hs : (32 : UInt8) ∉ s.data.toList) (w : World) :
    Calls Tryz.prog 13 #[.string s] w fun e w' => e = .returned (.tuple #[.string s, .string ⟨#[]⟩]) ∧ Below w.heap.size w w' := by
  have hC := cut_n s 32 hs
  clear hs
  go_enter Tryz.func13, Tryz.ntmps13
  go_wp2_with (first | (go_at_call 23; refine (hC _).mono ?_; rintro e w' ⟨rfl, hb⟩))
  go_ret2
  exact ⟨rfl, hb⟩
theorem ba_eq (p : ByteArray) : (⟨p.data.toList.toArray⟩ : ByteArray) = p := (ba_of rfl).symm
/-- The tenant's digits, and the path behind. -/
theorem next_rest (n : Nat) (p : ByteArray) (hn : n ≤ 1048576) (hp : p.size ≤ 100000) (w : World) :
    Calls Tryz.prog 13 #[.string ⟨(restB n p).toArray⟩] w fun e w' => e = .returned (.tuple #[.string ⟨(Lib.decDigits n).toArray⟩, .string p]) ∧ Below w.heap.size w w' := by
  have h7 := dd7 hn
  have ht := tailB_len p
  by_cases h : p.data.toList = []
  · have e1 : restB n p = Lib.decDigits n := by unfold restB tailB; rw [if_pos h]; simp
    have e2 : p = ⟨#[]⟩ := by rw [← ba_eq p, h]
    rw [e1]
    refine (next_no _ (by simpa using dd_no32 n) w).mono ?_
    rintro e w' ⟨rfl, hb⟩
    exact ⟨by rw [e2], hb⟩
  · have e1 : restB n p = Lib.decDigits n ++ 32 :: p.data.toList := by unfold restB tailB; rw [if_neg h]
    refine (next_at _ (Lib.decDigits n) p.data.toList (by simp [e1]) (dd_no32 n) (by rw [size_mk]; unfold restB; rw [List.length_append]; omega) w).mono ?_
    rintro e w' ⟨rfl, hb⟩
    exact ⟨by rw [ba_eq], hb⟩
set_option maxRecDepth 100000 in
theorem number_c (n : Nat) (hn : n ≤ 1048576) (w : World) (hG : GG w) :
    Calls Tryz.prog 24 #[.string ⟨(Lib.decDigits n).toArray⟩] w fun e w' => e = .returned (.tuple #[.int .i64 (n : Int), .int .i64 0]) ∧ Below w.heap.size w w' := by
  have HG := Aside0.mk hG
  have h7 := dd7 hn
  obtain ⟨s, hs⟩ : ∃ s : ByteArray, s = ⟨(Lib.decDigits n).toArray⟩ := ⟨_, rfl⟩
  have hA : ∀ W, Calls Tryz.prog 39 #[.string s] W fun e w' => e = .returned (.tuple #[.int .i64 (n : Int), .nilIface]) ∧ Below W.heap.size W w' := fun W =>
    atoi_c s (by rw [hs, size_mk]; omega) (n : Int) (by rw [hs]; exact atoi_dd (by omega)) W
  have hI : ∀ W, GG W → Calls Tryz.prog 17 #[.int .i64 (n : Int)] W fun e w' => e = .returned (.string s) ∧ Below W.heap.size W w' := fun W hG =>
    (itoa_c (n : Int) (by omega) (by omega) W hG).mono (by rintro e w' ⟨rfl, hb⟩; exact ⟨by rw [Lib.itoa_nonneg, hs], hb⟩)
  rw [← hs]
  have HI := Aside0.mk hI
  have z1 : decide ((n : Int) < 0) = false := decide_eq_false (by omega)
  have z2 : decide ((1048576 : Int) < (n : Int)) = false := decide_eq_false (by omega)
  clear hs hI hG h7 hn
  go_enter Tryz.func24, Tryz.ntmps24
  go_wp2_with (first | (go_at_call 39; refine (hA _).mono ?_; rintro e w' ⟨rfl, hb⟩; have HB := Aside0.mk hb; clear hb) | (go_at_call 17; refine (HI.out _ (HG.out.below HB.out)).mono ?_; rintro e w' ⟨rfl, hb⟩; have HB2 := Aside0.mk (HB.out.trans (hb.mono HB.out.size)); clear hb))
  go_ret2
  exact ⟨rfl, HB2.out⟩
/-- What may be asked: a word, its kind, what stands behind it. -/
def frm (i : Nat) : List Value := match i with
  | 0 => [.string ⟨#[111, 112, 101, 110]⟩, .int .i64 1, .bool true, .bool false, .bool false, .bool false, .bool false]
  | 1 => [.string ⟨#[115, 101, 110, 100]⟩, .int .i64 2, .bool true, .bool true, .bool false, .bool true, .bool false]
  | 2 => [.string ⟨#[99, 111, 109, 109, 105, 116]⟩, .int .i64 3, .bool true, .bool true, .bool false, .bool false, .bool false]
  | 3 => [.string ⟨#[97, 98, 111, 114, 116]⟩, .int .i64 4, .bool true, .bool true, .bool false, .bool false, .bool false]
  | 4 => [.string ⟨#[108, 105, 115, 116]⟩, .int .i64 5, .bool true, .bool false, .bool false, .bool false, .bool true]
  | 5 => [.string ⟨#[115, 116, 97, 116]⟩, .int .i64 6, .bool true, .bool false, .bool false, .bool false, .bool true]
  | 6 => [.string ⟨#[100, 101, 108, 101, 116, 101]⟩, .int .i64 7, .bool true, .bool false, .bool false, .bool false, .bool true]
  | 7 => [.string ⟨#[103, 101, 116]⟩, .int .i64 8, .bool true, .bool false, .bool false, .bool false, .bool true]
  | 8 => [.string ⟨#[112, 117, 108, 108]⟩, .int .i64 9, .bool true, .bool true, .bool true, .bool false, .bool false]
  | 9 => [.string ⟨#[99, 108, 111, 115, 101]⟩, .int .i64 10, .bool true, .bool true, .bool false, .bool false, .bool false]
  | 10 => [.string ⟨#[116, 105, 99, 107]⟩, .int .i64 11, .bool false, .bool false, .bool true, .bool false, .bool false]
  | _ => []
def formsL : List Value := [.string ⟨#[111, 112, 101, 110]⟩, .int .i64 1, .bool true, .bool false, .bool false, .bool false, .bool false] ++ [.string ⟨#[115, 101, 110, 100]⟩, .int .i64 2, .bool true, .bool true, .bool false, .bool true, .bool false] ++ [.string ⟨#[99, 111, 109, 109, 105, 116]⟩, .int .i64 3, .bool true, .bool true, .bool false, .bool false, .bool false] ++ [.string ⟨#[97, 98, 111, 114, 116]⟩, .int .i64 4, .bool true, .bool true, .bool false, .bool false, .bool false] ++ [.string ⟨#[108, 105, 115, 116]⟩, .int .i64 5, .bool true, .bool false, .bool false, .bool false, .bool true] ++ [.string ⟨#[115, 116, 97, 116]⟩, .int .i64 6, .bool true, .bool false, .bool false, .bool false, .bool true] ++ [.string ⟨#[100, 101, 108, 101, 116, 101]⟩, .int .i64 7, .bool true, .bool false, .bool false, .bool false, .bool true] ++ [.string ⟨#[103, 101, 116]⟩, .int .i64 8, .bool true, .bool false, .bool false, .bool false, .bool true] ++ [.string ⟨#[112, 117, 108, 108]⟩, .int .i64 9, .bool true, .bool true, .bool true, .bool false, .bool false] ++ [.string ⟨#[99, 108, 111, 115, 101]⟩, .int .i64 10, .bool true, .bool true, .bool false, .bool false, .bool false] ++ [.string ⟨#[116, 105, 99, 107]⟩, .int .i64 11, .bool false, .bool false, .bool true, .bool false, .bool false]
set_option maxHeartbeats 2000000 in
set_option maxRecDepth 100000 in
theorem forms_c (w : World) : Calls Tryz.prog 14 #[] w fun e w' => e = .returned (.slice (some ⟨w.heap.size, 0, none⟩) 11 11) ∧ w' = w.alloc (.cells formsL.toArray 46) := by
  go_enter Tryz.func14, Tryz.ntmps14
  go_wp2
  go_ret
  exact ⟨rfl, rfl⟩
end Go.Proofs.YtimbefkiledbdaaGreatDoor.R
