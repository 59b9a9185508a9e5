/- TargetUps: so many steps up from a directory are the directory so much higher; one more than it is deep lies outside. Conditions: the library's two tables of UTF-8 as its text lays them (the card ties them). -/
import Derived.Test.YtcfhijegmmdpkaaDoorUBack
import Derived.Test.YtcfhijegmmdpkaaDoorXA17
namespace Go.Proofs.YtcfhijegmmdpkaaDoor.Pure
open Go.RowKit Go.Proofs.YtcfhijegmmdpkaaDoor.XA Go.Proofs.YtcfhijegmmdpkaaDoorW.PrintWords Go.Proofs.YtcfhijegmmdpkaaDoorW.PrintLast Go.Proofs.YtcfhijegmmdpkaaDoorW.PrintMore
set_option linter.unusedSimpArgs false
set_option linter.unusedVariables false

theorem ups_text (n : Nat) : joinS (List.replicate (n + 1) [46, 46]) ++ [47, 46, 46] = joinS (List.replicate (n + 2) [46, 46]) := by
  rw [List.replicate_succ' (n := n + 1), join_append (by simp) (by simp)]
  rfl
theorem ups_len (n : Nat) : (joinS (List.replicate n [46, 46])).length ≤ 3 * n := by
  have h : ∀ n : Nat, weight (List.replicate n [46, 46]) = 3 * n := by
    intro n
    induction n with
    | zero => rfl
    | succ n ih => rw [List.replicate_succ, weight_cons, ih]; simp; omega
  have := (weight_join (List.replicate n ([46, 46] : List UInt8))).1
  rw [h] at this
  exact this
theorem ups_step {n : Nat} : ∀ p ∈ List.replicate n ([46, 46] : List UInt8), Step p := fun p hp => .inl (List.eq_of_mem_replicate hp)
theorem ups_end {d : List (List UInt8)} (hd : Dir d) {n : Nat} (h0 : 1 ≤ n) (h1 : n ≤ 50) {a b : Int} (hab : ¬ b < a) :
    Ev (fun k => pannierlaw11_TargetUps.l0 k (n : Int) (mkS (joinS d)) (mkS (joinS (List.replicate n [46, 46]))) a b) true := by
  have hl := hd.len
  have hw := hd.weight
  have hdl := weight_len d
  have hu := ups_len n
  have hne : List.replicate n ([46, 46] : List UInt8) ≠ [] := by intro e; have := congrArg List.length e; simp at this; omega
  have hs := steps_sound (ups_step (n := n)) hne (by omega)
  have hn := steps_names (ups_step (n := n)) hne
  refine Ev.step (fun k => by rw [pannierlaw11_TargetUps.l0]) ?_
  simp only [hab, if_false]
  rw [resolve_f hd.good (by omega), res_of hs, hn, parts_f (s := mkS (joinS d)) (by rw [mk_size]; omega), mkS_data, parts_join hd.good]
  simp only [Option.bind_some, List.length_map]
  by_cases hgt : d.length < n
  · have e := steps_out n (d := d) (r := []) hgt
    rw [List.append_nil] at e
    simp only [show (n : Int) > (d.length : Int) by omega, if_true, e, mk_toList, show joinS [] = [] from rfl, beq_self_eq_true]
    exact ev_some _
  · have e : steps d (List.replicate n [46, 46]) = (d.take (d.length - n), 0) := by
      have := steps_up n (c := d.take (d.length - n)) (a := d.drop (d.length - n)) (r := []) (by rw [List.length_drop]; omega)
      rw [List.take_append_drop, List.append_nil] at this
      rw [this]; rfl
    have hw2 : wrap64 ((d.length : Int) - (n : Int)) = ((d.length - n : Nat) : Int) := by rw [w64 (by omega) (by omega)]; omega
    simp only [show ¬ ((n : Int) > (d.length : Int)) by omega, if_false, e, if_true, hw2, show (0 : Int) ≤ ((d.length - n : Nat) : Int) by omega, show ((d.length - n : Nat) : Int) ≤ (d.length : Int) by omega, Int.toNat_natCast, ← List.map_take]
    have hjw := (weight_join (d.take (d.length - n))).1
    have hwt : weight (d.take (d.length - n)) ≤ weight d := by
      conv => rhs; rw [← List.take_append_drop (d.length - n) d, weight_append]
      omega
    rw [join_f (ps := d.take (d.length - n)) (by rw [List.length_take]; omega) (by omega)]
    simp only [Option.bind_some, mk_toList, beq_self_eq_true]
    exact ev_some _
theorem ups_l0 {d : List (List UInt8)} (hd : Dir d) {n : Nat} (h0 : 1 ≤ n) (h1 : n ≤ 50) : ∀ (m i : Nat), i + m + 1 = n →
    Ev (fun k => pannierlaw11_TargetUps.l0 k (n : Int) (mkS (joinS d)) (mkS (joinS (List.replicate (i + 1) [46, 46]))) ((n - 1 : Nat) : Int) (i : Int)) true
  | 0, i, h => by
    obtain rfl : n = i + 1 := by omega
    exact ups_end hd h0 h1 (by omega)
  | m + 1, i, h => by
    have hu := ups_len (i + 1)
    refine Ev.step (fun k => by rw [pannierlaw11_TargetUps.l0]) ?_
    simp only [show (i : Int) < ((n - 1 : Nat) : Int) by omega, if_true, mk_size, show (joinS (List.replicate (i + 1) ([46, 46] : List UInt8))).length + 3 ≤ 9223372036854775807 by omega, mk_lit #[47, 46, 46], mk_append, show (#[47, 46, 46] : Array UInt8).toList = [47, 46, 46] from rfl, ups_text, wnext (i := i) (by omega)]
    exact ups_l0 hd h0 h1 m (i + 1) (by omega)
theorem TargetUps : pannierlaw11_TargetUps.Pure := by
  intro s n hs hn
  refine Ev.rounds (r := true) ?_
  unfold pannierlaw11_TargetUps.f
  refine ev_bind points_ev ?_
  simp only [if_true]
  refine ev_bind (lclean_ev s) ?_
  have away : ∀ L : ByteArray, Ev (fun k => pannierlaw11_TargetUps.j0 k n L true) true := by
    intro L
    refine Ev.step (fun k => by rw [pannierlaw11_TargetUps.j0]) ?_
    simp only [if_true]
    exact ev_some _
  by_cases hc : (cleanS s.data.toList).2 = 0 ∧ s.size ≤ 1000
  · have hd := lclean_dir hc
    simp only [hc, and_self, decide_true, if_true]
    generalize (cleanS s.data.toList).1 = d at hd
    by_cases h1 : n < 1
    · simp only [h1, if_true]
      exact away _
    simp only [h1, if_false]
    by_cases h2 : n > 50
    · simp only [h2, decide_true]
      exact away _
    simp only [h2, decide_false]
    obtain ⟨m, rfl⟩ := Int.eq_ofNat_of_zero_le (show 0 ≤ n by omega)
    refine Ev.step (fun k => by rw [pannierlaw11_TargetUps.j0]) ?_
    simp only [Bool.false_eq_true, if_false]
    rw [show wrap64 ((m : Int) - 1) = ((m - 1 : Nat) : Int) by rw [w64 (by omega) (by omega)]; omega, show (⟨#[46, 46]⟩ : ByteArray) = mkS (joinS (List.replicate (0 + 1) [46, 46])) from rfl]
    exact ups_l0 hd (by omega) (by omega) (m - 1) 0 (by omega)
  · simp only [hc, decide_false, Bool.false_eq_true, if_false]
    exact away _
end Go.Proofs.YtcfhijegmmdpkaaDoor.Pure
