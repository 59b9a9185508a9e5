/- Errors with places: fault.New, Wrap, Depth, Is, errors.Unwrap, errors.Is. -/
import Derived.Test.YtimbefkiledbdaaGreatDoorRRows
import Derived.LaidEql
import Derived.Stop.Asserts
import Derived.RowKitTokens
namespace Go.Proofs.YtimbefkiledbdaaGreatDoor.R
open Go.RowKit Go.Extern.Stop Go.Stop Go.Extern Go.Proofs.YtimbefkiledbdaaGreatDoorW.PrintWords Go.Proofs.YtimbefkiledbdaaGreatDoorW.PrintLast Go.Proofs.YtimbefkiledbdaaGreatDoorW.PrintMore Go.Proofs.YtimbefkiledbdaaGreatDoor.Mem Go.Proofs.YtimbefkiledbdaaGreatDoor.Pure
set_option linter.unusedVariables false
set_option linter.unusedSimpArgs false

/-- An error's number in places, the outermost first. -/
def errV (f : Int) : List Int → Value
  | [] => .iface 25 (.int .i64 f)
  | p :: r => .iface 50 (.agg #[.int .i64 p, errV f r])
theorem new_no (p : Int) (w : World) : Calls Tryz.prog 6 #[.int .i64 0, .int .i64 p] w fun e w' => e = .returned .nilIface ∧ Below w.heap.size w w' := by
  go_enter Tryz.func6, Tryz.ntmps6
  go_wp2
  go_ret
  exact ⟨rfl, Below.refl _ _⟩
theorem new_c (f p : Int) (hf : f ≠ 0) (w : World) : Calls Tryz.prog 6 #[.int .i64 f, .int .i64 p] w fun e w' => e = .returned (errV f [p]) ∧ Below w.heap.size w w' := by
  have h0 : (f == 0) = false := beq_eq_false_iff_ne.2 hf
  clear hf
  go_enter Tryz.func6, Tryz.ntmps6
  go_wp2
  go_ret
  exact ⟨rfl, Below.refl _ _⟩
theorem wrap_no (p : Int) (w : World) : Calls Tryz.prog 9 #[.nilIface, .int .i64 p] w fun e w' => e = .returned .nilIface ∧ Below w.heap.size w w' := by
  go_enter Tryz.func9, Tryz.ntmps9
  go_wp2
  go_ret
  exact ⟨rfl, Below.refl _ _⟩
theorem wrap_c (f p q : Int) (r : List Int) (w : World) : Calls Tryz.prog 9 #[errV f (q :: r), .int .i64 p] w fun e w' => e = .returned (errV f (p :: q :: r)) ∧ Below w.heap.size w w' := by
  show Calls Tryz.prog 9 #[.iface 50 (.agg #[.int .i64 q, errV f r]), .int .i64 p] w _
  have he : errV f (p :: q :: r) = .iface 50 (.agg #[.int .i64 p, .iface 50 (.agg #[.int .i64 q, errV f r])]) := rfl
  rw [he]
  generalize errV f r = v
  go_enter Tryz.func9, Tryz.ntmps9
  go_wp2
  go_ret
  exact ⟨rfl, Below.refl _ _⟩
/-! What the assertions find. -/
theorem unA (v : Value) (xT : TypeId) (w : World) : (Instr.typeAssert (.iface 50 v) xT 92 true).run Tryz.prog w = .ok (.tuple #[.iface 50 v, .bool true]) w := run_typeAssert_hasB Tryz.underlying92 (by kernel_rfl) v xT w
theorem unE (v : Value) (xT : TypeId) (w : World) : (Instr.typeAssert (.iface 25 v) xT 92 true).run Tryz.prog w = .ok (.tuple #[.nilIface, .bool false]) w := run_typeAssert_lacksB Tryz.underlying92 (by kernel_rfl) (by kernel_rfl) v xT w
theorem noIsA (v : Value) (xT : TypeId) (w : World) : (Instr.typeAssert (.iface 50 v) xT 116 true).run Tryz.prog w = .ok (.tuple #[.nilIface, .bool false]) w := run_typeAssert_lacksB Tryz.underlying116 (by kernel_rfl) (by kernel_rfl) v xT w
theorem noAsA (v : Value) (xT : TypeId) (w : World) : (Instr.typeAssert (.iface 50 v) xT 101 true).run Tryz.prog w = .ok (.tuple #[.nilIface, .bool false]) w := run_typeAssert_lacksB Tryz.underlying101 (by kernel_rfl) (by kernel_rfl) v xT w
theorem methodUnwrap (v : Value) (w : World) : (Go.method 286 50 v "Unwrap").run Tryz.prog w = .ok (105, v) w := by kernel_rfl
set_option maxRecDepth 100000 in
theorem unwrap_m (q : Int) (v : Value) (w : World) : Calls Tryz.prog 105 #[.agg #[.int .i64 q, v]] w fun e w' => e = .returned v ∧ Below w.heap.size w w' := by
  go_enter Tryz.func105, Tryz.ntmps105
  go_wp2
  go_ret
  exact ⟨rfl, below_alloc (Below.refl _ _) _⟩
set_option maxRecDepth 100000 in
theorem unwrap_no (f : Int) (w : World) : Calls Tryz.prog 22 #[.iface 25 (.int .i64 f)] w fun e w' => e = .returned .nilIface ∧ Below w.heap.size w w' := by
  have h1 := unE
  go_enter Tryz.func22, Tryz.ntmps22
  go_wp2
  go_ret
  exact ⟨rfl, Below.refl _ _⟩
set_option maxRecDepth 100000 in
theorem unwrap_c (q : Int) (v : Value) (w : World) : Calls Tryz.prog 22 #[.iface 50 (.agg #[.int .i64 q, v])] w fun e w' => e = .returned v ∧ Below w.heap.size w w' := by
  have h1 := unA
  have h2 := methodUnwrap
  go_enter Tryz.func22, Tryz.ntmps22
  go_wp2
  go_ret
  exact ⟨rfl, below_alloc (Below.refl _ _) _⟩
theorem errV_is (f : Int) (r : List Int) : ∃ t v, errV f r = .iface t v := by
  cases r with
  | nil => exact ⟨_, _, rfl⟩
  | cons p r => exact ⟨_, _, rfl⟩
/-- How many places. -/
def orNil : Option (Value) → Value
  | some v => v
  | none => .nilIface
theorem zero50 (w : World) : (zeroValue 50).run Tryz.prog w = .ok (.agg #[.int .i64 0, .nilIface]) w := by kernel_rfl
theorem isAt (v : Value) (xT : TypeId) (w : World) : (Instr.typeAssert (.iface 50 v) xT 50 true).run Tryz.prog w = .ok (.tuple #[v, .bool true]) w := by kernel_rfl
theorem notAt (v : Value) (xT : TypeId) (w : World) : (Instr.typeAssert (.iface 25 v) xT 50 true).run Tryz.prog w = .ok (.tuple #[.agg #[.int .i64 0, .nilIface], .bool false]) w := by kernel_rfl
set_option maxHeartbeats 2000000 in
set_option maxRecDepth 100000 in
theorem depth_c (f : Int) (ps : List Int) (hl : ps.length ≤ 1000) (w : World) : Calls Tryz.prog 11 #[errV f ps] w fun e w' => e = .returned (.int .i64 ps.length) ∧ Below w.heap.size w w' := by
  have HM : Aside0 (Mem w (fun k => k < w.heap.size) w [] (fun _ => True)) := ⟨Mem.start (fun _ _ => trivial)⟩
  have h1 := isAt
  have h2 := notAt
  generalize hn : ps.length = n at hl ⊢
  have hnb : (n : Int) ≤ 1000 := by omega
  have HN := Aside0.mk hn
  obtain ⟨v, hv⟩ : ∃ v, v = errV f ps := ⟨_, rfl⟩
  rw [← hv]
  have HV := Aside0.mk hv
  clear hn hv hl
  go_enter Tryz.func11, Tryz.ntmps11
  go_wp2
  go_loopg [0, 3] (n + 2) (fun kx v0 v3 wr => ∃ (m : Nat), v3 = .int .i64 m ∧ Aside0 ((∃ r : List Int, v0 = errV f r ∧ m + r.length = n ∧ r.length + 1 ≤ kx) ∨ (v0 = .nilIface ∧ m = n)) ∧ Aside0 (Mem w (fun k => k < w.heap.size) wr [] (fun _ => True)))
  case atStart => exact ⟨0, rfl, ⟨.inl ⟨ps, HV.out, by have := HN.out; omega, by have := HN.out; omega⟩⟩, HM⟩
  case round =>
    clear HM HV
    obtain ⟨m, rfl, HC, HM⟩ := hrel
    rcases HC.out with ⟨r, hv0, hm, hk⟩ | ⟨hv0, hm⟩
    · cases gk with
      | zero => omega
      | succ gq =>
        have hmb : (m : Int) ≤ 1000 := by omega
        have HMM := Aside0.mk (And.intro hm hk)
        clear hm hk HC
        cases r with
        | nil =>
          subst hv0
          unfold errV
          go_wp2_with (first | go_skip | ((with_reducible refine' bz HM ?qw rfl ?qa ?qc ?_);(case qw|qa|qc=>rfl);clear HM;intro _ _ HM) | ((with_reducible refine' pa HM ?qw rfl ?qx _ ?qy ?qm ?qa ?_);(case qw|qx|qy=>rfl);(case qm=>repeat constructor);(case qa=>rfl);clear HM;intro _ HM) | (go_at_call 22; refine (unwrap_no f _).mono ?_; rintro e _ ⟨rfl, hb⟩; have hM := HM.out.call hb; clear hb; clear HM; have HM := Aside0.mk hM; clear hM))
          go_roundg gq
          case measure => omega
          case rel => exact ⟨m, rfl, ⟨.inr ⟨rfl, by have := HMM.out; simp at this; omega⟩⟩, ⟨HM.out.drop⟩⟩
        | cons q r =>
          subst hv0
          obtain ⟨tt, vv, he⟩ := errV_is f r
          have HE := Aside0.mk he
          have hq : errV f (q :: r) = .iface 50 (.agg #[.int .i64 q, .iface tt vv]) := by rw [← he]; rfl
          rw [hq]
          clear hq he
          go_wp2_with (first | go_skip | ((with_reducible refine' bz HM ?qw rfl ?qa ?qc ?_);(case qw|qa|qc=>rfl);clear HM;intro _ _ HM) | ((with_reducible refine' pa HM ?qw rfl ?qx _ ?qy ?qm ?qa ?_);(case qw|qx|qy=>rfl);(case qm=>repeat constructor);(case qa=>rfl);clear HM;intro _ HM) | (go_at_call 22; refine (unwrap_c q (.iface tt vv) _).mono ?_; rintro e _ ⟨rfl, hb⟩; have hM := HM.out.call hb; clear hb; clear HM; have HM := Aside0.mk hM; clear hM))
          go_roundg gq
          case measure => omega
          case rel =>
            have h := HMM.out
            rw [List.length_cons] at h
            exact ⟨m + 1, by go_num, ⟨.inl ⟨r, HE.out.symm, by omega, by omega⟩⟩, ⟨HM.out.drop⟩⟩
    · subst hv0
      obtain rfl := hm
      clear HC
      go_wp2
      go_ret
      exact ⟨rfl, HM.out.below⟩
/-- Two numbers as errors are compared. -/
theorem eq_errno (f : Int) (w : World) : (binOp .eql 30 (.iface 25 (.int .i64 f)) (.iface 25 (.int .i64 f))).run Tryz.prog w = .ok (.bool true) w := by
  have hc : (Tryz.prog.info? 25).map (·.comparable) = some true := by kernel_rfl
  obtain ⟨i, hi, hcm⟩ := Option.map_eq_some_iff.1 hc
  have hd : ∀ d : Nat, (Op.equalIn (d + 2) 30 (.iface 25 (.int .i64 f)) (.iface 25 (.int .i64 f))).run Tryz.prog w = .ok true w := fun d => by
    simp [Op.equalIn, run_underlying Tryz.underlying30, run_underlying Tryz.underlying25, typeInfo, hi, hcm]
  simp only [binOp]
  simp [Op.equal, Op.maxDepth, hd 9998]
theorem ne_errno (f : Int) (v : Value) (w : World) : (binOp .eql 30 (.iface 50 v) (.iface 25 (.int .i64 f))).run Tryz.prog w = .ok (.bool false) w := run_eql_iface_types 50 25 v (.int .i64 f) Tryz.underlying30 (by decide) w
theorem typeOf25 (v : Value) (w : World) : (Extern.ReflectliteType.typeOf #[.iface 25 v]).run Tryz.prog w = .ok (.iface 97 (.agg #[.pointer (some ⟨9, 25, none⟩)])) w := by kernel_rfl
theorem comparable25 (w : World) : (callFunc 112 #[.agg #[.pointer (some ⟨9, 25, none⟩)]]).run Tryz.prog w = .ok (.value (.bool true)) w := by kernel_rfl
theorem methodComparable (v : Value) (w : World) : (Go.method 286 97 v "Comparable").run Tryz.prog w = .ok (112, v) w := by kernel_rfl
set_option maxHeartbeats 4000000 in
set_option maxRecDepth 100000 in
theorem is_loop (f : Int) (ps : List Int) (w : World) : Calls Tryz.prog 37 #[errV f ps, .iface 25 (.int .i64 f), .bool true] w fun e w' => e = .returned (.bool true) ∧ Below w.heap.size w w' := by
  have h1 := eq_errno f
  have h2 := ne_errno f
  have h3 := noIsA
  have h4 := unA
  have h5 := methodUnwrap
  obtain ⟨v, hv⟩ : ∃ v, v = errV f ps := ⟨_, rfl⟩
  rw [← hv]
  have HV := Aside0.mk hv
  clear hv
  go_enter Tryz.func37, Tryz.ntmps37
  go_wp2
  go_loopg [0] (ps.length + 1) (fun kx v0 wr => Aside0 (∃ r : List Int, v0 = errV f r ∧ r.length + 1 ≤ kx) ∧ Aside0 (Below w.heap.size w wr))
  case atStart => exact ⟨⟨ps, HV.out, Nat.le_refl _⟩, ⟨Below.refl _ _⟩⟩
  case round =>
    clear HV
    obtain ⟨HC, HB⟩ := hrel
    obtain ⟨r, hv0, hk⟩ := HC.out
    cases gk with
    | zero => omega
    | succ gq =>
      have HK := Aside0.mk hk
      clear hk HC
      cases r with
      | nil =>
        subst hv0
        unfold errV
        go_wp2
        go_ret
        exact ⟨rfl, HB.out⟩
      | cons q r =>
        subst hv0
        obtain ⟨tt, vv, he⟩ := errV_is f r
        have HE := Aside0.mk he
        have hq : errV f (q :: r) = .iface 50 (.agg #[.int .i64 q, .iface tt vv]) := by rw [← he]; rfl
        rw [hq]
        clear hq he
        go_wp2
        go_roundg gq
        case measure => omega
        case rel =>
          have h := HK.out
          rw [List.length_cons] at h
          exact ⟨⟨r, HE.out.symm, by omega⟩, ⟨below_alloc HB.out _⟩⟩
set_option maxHeartbeats 2000000 in
set_option maxRecDepth 100000 in
theorem eis_c (f : Int) (ps : List Int) (w : World) : Calls Tryz.prog 21 #[errV f ps, .iface 25 (.int .i64 f)] w fun e w' => e = .returned (.bool true) ∧ Below w.heap.size w w' := by
  have h36 := @run_callFunc_extern Tryz.prog 36 _ Extern.ReflectliteType.typeOf Tryz.func36 (by kernel_rfl) (by kernel_rfl) (by kernel_rfl) (by kernel_rfl)
  have tT := typeOf25
  have cT := comparable25
  have mR := methodComparable
  have hI := is_loop f ps
  obtain ⟨tt, vv, he⟩ := errV_is f ps
  rw [he] at hI ⊢
  go_enter Tryz.func21, Tryz.ntmps21
  go_wp2_with (first | (go_at_call 37; refine (hI _).mono ?_; rintro e w' ⟨rfl, hb⟩))
  go_ret
  exact ⟨rfl, hb⟩
set_option maxRecDepth 100000 in
theorem is_c (f : Int) (ps : List Int) (hf : f ≠ 0) (w : World) : Calls Tryz.prog 10 #[errV f ps, .int .i64 f] w fun e w' => e = .returned (.bool true) ∧ Below w.heap.size w w' := by
  have hI := eis_c f ps
  have hz : (f != 0) = true := bne_iff_ne.2 hf
  generalize errV f ps = v at hI ⊢
  clear hf
  go_enter Tryz.func10, Tryz.ntmps10
  go_wp2_with (first | go_skip | (go_at_call 21; refine (hI _).mono ?_; rintro e w' ⟨rfl, hb⟩))
  go_ret
  exact ⟨rfl, hb⟩
end Go.Proofs.YtimbefkiledbdaaGreatDoor.R
