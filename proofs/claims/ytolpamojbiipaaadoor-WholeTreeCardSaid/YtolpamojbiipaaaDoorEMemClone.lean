/- A row of rows of the call's own (a clone) among own boxes: read, written, handed on. -/
import Derived.Test.YtolpamojbiipaaaDoorEMemTree
import Derived.Test.YtolpamojbiipaaaDoorEMemRow
namespace Go.Proofs.YtolpamojbiipaaaDoor.XA
open Go.RowKit Go.Proofs.YtolpamojbiipaaaDoorW.PrintWords Go.Proofs.YtolpamojbiipaaaDoorW.PrintLast Go.Proofs.YtolpamojbiipaaaDoorW.PrintMore Go.Proofs.YtolpamojbiipaaaDoor.Mem Go.Proofs.YtolpamojbiipaaaDoor.Pure
set_option linter.unusedVariables false
set_option linter.unusedSimpArgs false

variable {w0 W w' : World} {P : Nat → Prop} {B X : List Bx} {S : World → Prop} {A : Option Addr} {c g : Nat} {l : List S44} {sp : List Value} {v : Value}
theorem cells_rowL (r : S44) : (rowC r).toList = rowL r := rfl
/-- A cell of a row of rows. -/
theorem cell_at (l : List S44) (sp : List Value) (i j : Nat) (hi : i < l.length) (hj : j < 13) : (cellsL l ++ sp)[i * 13 + j]? = (rowL l[i])[j]? := by
  have h1 := cellsL_mid l i hi
  have hlen := cellsL_len l
  rw [List.getElem?_append_left (by omega)]
  have h2 : (((cellsL l).drop (i * 13)).take 13)[j]? = (cellsL l)[i * 13 + j]? := by
    rw [List.getElem?_take, if_pos hj, List.getElem?_drop]
  rw [← h2, h1]
  rfl
/-- A row whose cells from j on are turned. -/
theorem cells_put (l : List S44) (sp vs : List Value) (i j : Nat) (r' : S44) (hi : i < l.length) (hj : j + vs.length ≤ 13) (hr : (rowL l[i]).take j ++ vs ++ (rowL l[i]).drop (j + vs.length) = rowL r') :
    (cellsL l ++ sp).take (i * 13 + j) ++ vs ++ (cellsL l ++ sp).drop (i * 13 + j + vs.length) = cellsL (l.set i r') ++ sp := by
  have hlen := cellsL_len l
  have hrl : (rowL l[i]).length = 13 := rfl
  have hm := cellsL_mid l i hi
  have e : cellsL l = (cellsL l).take (i * 13) ++ (rowL l[i] ++ (cellsL l).drop (i * 13 + 13)) := by
    have h1 : (cellsL l).drop (i * 13) = ((cellsL l).drop (i * 13)).take 13 ++ ((cellsL l).drop (i * 13)).drop 13 := (List.take_append_drop 13 _).symm
    rw [hm, List.drop_drop] at h1
    conv => lhs; rw [← List.take_append_drop (i * 13) (cellsL l), h1]
    rfl
  have ht : ((cellsL l).take (i * 13)).length = i * 13 := by rw [List.length_take]; omega
  rw [cellsL_set l i r' hi, cells_rowL]
  generalize (cellsL l).take (i * 13) = a at e ht ⊢
  generalize (cellsL l).drop (i * 13 + 13) = b at e ⊢
  rw [e, ← hr]
  generalize rowL l[i] = m at hrl
  simp only [List.append_assoc]
  have t1 : (a ++ (m ++ (b ++ sp))).take (i * 13 + j) = a ++ m.take j := by
    rw [List.take_append, List.take_of_length_le (by omega), ht, show i * 13 + j - i * 13 = j by omega, List.take_append, show j - m.length = 0 by omega]
    simp
  have t2 : (a ++ (m ++ (b ++ sp))).drop (i * 13 + j + vs.length) = m.drop (j + vs.length) ++ (b ++ sp) := by
    rw [List.drop_append, List.drop_of_length_le (by omega), ht, show i * 13 + j + vs.length - i * 13 = j + vs.length by omega, List.drop_append, show j + vs.length - m.length = 0 by omega]
    simp
  rw [t1, t2]
  simp only [List.append_assoc]
theorem own_of_box {base : Nat} (hO : OwnB 44 13 v l.length (cellsL l) X) (hb : ∀ x ∈ X, W.heap[x.1]? = some (.cells x.2.1.toArray x.2.2 (0, 0)) ∧ base ≤ x.1) : W.ownsRow base 44 13 v l.length (cellsL l) := by
  rcases hO with ⟨rfl, h0, hc, _⟩ | ⟨g, cap, sp, rfl, rfl, h1, h2, h3, h4⟩
  · rw [h0, hc]; exact World.ownsRow_nil _ _ _ _
  · have := hb _ (List.mem_singleton.2 rfl)
    exact ⟨h1, .inr ⟨g, cap, _, rfl, this.2, this.1, h3, h4, by simpa using h2, by rw [← h1]; simp⟩⟩
/-- The own row, read as rows. -/
theorem own_tr (hO : OwnB 44 13 v l.length (cellsL l) X) (hb : ∀ x ∈ X, W.heap[x.1]? = some (.cells x.2.1.toArray x.2.2 (0, 0))) : ∃ A c, v = .slice A l.length c ∧ l.length ≤ c ∧ Tr A l W := by
  have hR := own_reads (own_of_box (W := W) (base := 0) hO (fun x hx => ⟨hb x hx, Nat.zero_le _⟩))
  obtain ⟨A, c, rfl⟩ := Kd.R_slice hR
  have := Kd.R_reads' hR
  exact ⟨A, c, rfl, this.2.1, this.2.2⟩
/-- The own row, handed on: nobody writes it any more. -/
theorem hand (HM : Mem w0 P W (B ++ X) S) (hO : OwnB 44 13 v l.length (cellsL l) X) : ∃ A c, v = .slice A l.length c ∧ l.length ≤ c ∧ Mem w0 P W B (fun w => S w ∧ Tr A l w) := by
  have hb := fun x (hx : x ∈ X) => HM.box x (List.mem_append_right _ hx)
  obtain ⟨A, c, rfl, hc, _⟩ := own_tr hO (fun x hx => (hb x hx).1)
  have hap := HM.apart
  rw [List.map_append, List.nodup_append] at hap
  refine ⟨A, c, rfl, hc, HM.below, fun x hx => HM.box x (List.mem_append_left _ hx), hap.1, fun W' hW => ⟨HM.keep W' (fun k hk hn hp => hW k hk (fun h => hn (by rw [List.map_append]; exact List.mem_append_left _ h)) hp), ?_⟩⟩
  obtain ⟨A2, c2, e, _, h2⟩ := own_tr (W := W') hO (fun x hx => (hW x.1 (blk_lt (hb x hx).1) (fun h => hap.2.2 _ h _ (List.mem_map.2 ⟨x, hx, rfl⟩) rfl) (.inr (hb x hx).2)).trans (hb x hx).1)
  injection e with e1 e2 e3
  subst e1
  exact h2
theorem clone_M (HM : Mem w0 P W B S) (hS : ∀ w, S w → Tr A l w) (hl : l.length ≤ 1000000) :
    Calls Tryd.prog 50 #[.slice A l.length c] W fun e w' => ∃ v X, e = .returned v ∧ OwnB 44 13 v l.length (cellsL l) X ∧ Mem w0 P w' (B ++ X) S := by
  refine (clone_calls A c l W (hS _ HM.now) hl).mono ?_
  rintro e w' ⟨v, rfl, ⟨h1, h2⟩, hb⟩
  have hg : W.grownBy w' none := ⟨hb.os, hb.tape, hb.output, hb.size, fun k hk _ => hb.block k hk⟩
  rcases h2 with ⟨rfl, h0⟩ | ⟨g, cap, cur, rfl, hge, hh, hn, hc, hcs, ht⟩
  · have : cellsL l = [] := List.eq_nil_of_length_eq_zero (by rw [h1, h0])
    exact ⟨_, [], rfl, .inl ⟨rfl, h0, this, rfl⟩, by rw [List.append_nil]; exact HM.call hb⟩
  · have e1 : cur.toList = cellsL l ++ cur.toList.drop (l.length * 13) := by rw [← ht]; exact (List.take_append_drop _ _).symm
    have e2 : cur = (cellsL l ++ cur.toList.drop (l.length * 13)).toArray := by rw [← e1]
    refine ⟨_, [(g, cellsL l ++ cur.toList.drop (l.length * 13), 44)], rfl, .inr ⟨g, cap, _, rfl, rfl, h1, ?_, hn, hc⟩, ?_⟩
    · rw [← e1]; simpa using hcs
    · have HM' : Mem w0 P W (B ++ []) S := by rw [List.append_nil]; exact HM
      exact HM'.tail hg (fun k hk => by cases hk) (hh.trans (congrArg (fun q => some (Obj.cells q 44 (0, 0))) e2)) (.inr hge)
end Go.Proofs.YtolpamojbiipaaaDoor.XA
