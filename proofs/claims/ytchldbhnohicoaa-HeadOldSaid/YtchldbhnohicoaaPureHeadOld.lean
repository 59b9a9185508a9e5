/- HeadOld: a header without the magic is read as an old one, with GNU's magic as GNU's: without prefix; all else the same. No conditions. -/
import Derived.Test.YtchldbhnohicoaaUCodes
import Derived.Test.YtchldbhnohicoaaEHeadOld
namespace Go.Proofs.Ytchldbhnohicoaa.Pure
open Go.RowKit Go.Proofs.Ytchldbhnohicoaa.XA Go.Proofs.YtchldbhnohicoaaW.PrintWords Go.Proofs.YtchldbhnohicoaaW.PrintLast Go.Proofs.YtchldbhnohicoaaW.PrintMore
set_option linter.unusedSimpArgs false
set_option linter.unusedVariables false

theorem HeadOld (a0 : Int) (a1 a2 a3 a4 a5 : ByteArray) (a6 a7 a8 a9 a10 a11 : Int) (gnu : Bool) (w : World)
    (w6 : (Lit.int .u8 a6).wf = true) (w7 : (Lit.int .i64 a7).wf = true) (w8 : (Lit.int .i64 a8).wf = true) (w9 : (Lit.int .i64 a9).wf = true) (w10 : (Lit.int .i64 a10).wf = true) (w11 : (Lit.int .i64 a11).wf = true) :
    Calls Try.prog 6 #[.agg #[.int .i64 a0, .string a1, .string a2, .string a3, .string a4, .string a5, .int .u8 a6, .int .i64 a7, .int .i64 a8, .int .i64 a9, .int .i64 a10, .int .i64 a11], .bool gnu] w fun e w' => e = .returned (.bool true) ∧ Below w.heap.size w w' := by
  have h6 := u8_wf w6
  have h7 := i64_wf w7
  have h8 := i64_wf w8
  have h9 := i64_wf w9
  have h10 := i64_wf w10
  have h11 := i64_wf w11
  obtain ⟨K1, e1⟩ := reads_ev
  obtain ⟨K2, e2⟩ := encode_ev (a0 := a0) (a1 := a1) (a2 := a2) (a3 := a3) (a4 := a4) (a5 := a5) h6 h7 h8 h9 h10 h11
  by_cases ht : textsFit a1 a2 a3 a4 a5 = true
  · by_cases hn : numsFit a7 a8 a9 a10 a11 = true
    · rw [encoded_yes ht hn] at e2
      have hs := textsFit_sizes ht
      have hh := bare_holds (a6 := a6) (a7 := a7) (a8 := a8) (a9 := a9) (a10 := a10) (a11 := a11) hs.1 hs.2.1 hs.2.2.1 hs.2.2.2.1 hs.2.2.2.2 h6
      have hS := hh.sealed
      have g := fun (m : List Int) (hm : m.length = 8) (hb : Bytes m) => hS.lay257 (m' := m) hm hb
      cases gnu with
      | true =>
        have hm : Bytes [117, 115, 116, 97, 114, 32, 32, 0] := by intro c hc; simp at hc; omega
        have hY := g _ rfl hm
        have hZ := hY.sealed
        have hD := dec_holds hZ (sealed_right hY.bytes hY.len) ht hn h7.2 h8.2 h9.2 h10.2 h11.2
        obtain ⟨K3, e3⟩ := decode_ev hZ.bytes (by rw [hZ.len]; omega)
        rw [hD] at e3
        refine HeadOld.walkT (max K1 (max K2 K3)) a0 a1 a2 a3 a4 a5 a6 a7 a8 a9 a10 a11 _ _ _ w (e1 _ (by omega)) (e2 _ (by omega)) hS.len rfl (seal_f hY.bytes hY.len) ?_
        exact e3 _ (by omega)
      | false =>
        have hm : Bytes [0, 0, 0, 0, 0, 0, 0, 0] := by intro c hc; simp at hc; omega
        have hY := g _ rfl hm
        have hZ := hY.sealed
        have hD := dec_holds hZ (sealed_right hY.bytes hY.len) ht hn h7.2 h8.2 h9.2 h10.2 h11.2
        obtain ⟨K3, e3⟩ := decode_ev hZ.bytes (by rw [hZ.len]; omega)
        rw [hD] at e3
        refine HeadOld.walkF (max K1 (max K2 K3)) a0 a1 a2 a3 a4 a5 a6 a7 a8 a9 a10 a11 _ _ _ w (e1 _ (by omega)) (e2 _ (by omega)) hS.len rfl (seal_f hY.bytes hY.len) ?_
        exact e3 _ (by omega)
    · rw [encoded, if_pos ht, if_neg hn] at e2
      exact HeadOld.walkE (max K1 K2) a0 a1 a2 a3 a4 a5 a6 a7 a8 a9 a10 a11 _ 20 w (e1 _ (by omega)) (e2 _ (by omega)) (by omega) gnu
  · rw [encoded, if_neg ht] at e2
    exact HeadOld.walkE (max K1 K2) a0 a1 a2 a3 a4 a5 a6 a7 a8 a9 a10 a11 _ 2 w (e1 _ (by omega)) (e2 _ (by omega)) (by omega) gnu
end Go.Proofs.Ytchldbhnohicoaa.Pure
