-- Written by a program of this session (wip/tools/xprint.py) out of the translation's print. Lean checks it.
import Derived.Test.YtolpamojbiipaaaDoorXA0
import Derived.Test.YtolpamojbiipaaaDoorXA6
namespace Go.Proofs.YtolpamojbiipaaaDoor.XA
open Go.RowKit Go.Proofs.YtolpamojbiipaaaDoorW.PrintWords Go.Proofs.YtolpamojbiipaaaDoorW.PrintLast Go.Proofs.YtolpamojbiipaaaDoorW.PrintMore
attribute [local go_sem] max2_int min2_int max_two min_two max_three min_three max_four min_four   -- for this text's walks alone
set_option linter.unusedVariables false
set_option linter.unusedSimpArgs false

/-! ### pannierlaw14_UsageFits: function 4 -/
mutual
def pannierlaw14_UsageFits.j0 : Nat → Bool → Int → Int → Int → Int → Int → Int → Int → Int → Int → Int → Int → Int → Int → Int → Int → Option (Bool)
 | 0, _, _, _, _, _, _, _, _, _, _, _, _, _, _, _, _ => none
 | k + 1, x48, x218000, x218001, x218002, x218003, x219000, x219001, x219002, x219003, x220000, x220001, x220002, x220003, x220004, x220005, x220006 => if x48 = true then (some true) else ((usage_Usage_Plus.f x218000 x218001 x218002 x218003 x219000 x219001 x219002 x219003).bind fun bt221 => (if bt221.1 = (wrap64 (x218000 + x219000)) then (if bt221.2.1 = (wrap64 (x218001 + x219001)) then (if bt221.2.2.1 < x218002 then (pannierlaw14_UsageFits.j1 k true x218000 x218001 x218002 x218003 x219000 x219001 x219002 x219003 x220000 x220001 x220002 x220003 x220004 x220005 x220006 bt221.1 bt221.2.1 bt221.2.2.1 bt221.2.2.2) else (if bt221.2.2.1 < x219002 then (pannierlaw14_UsageFits.j1 k true x218000 x218001 x218002 x218003 x219000 x219001 x219002 x219003 x220000 x220001 x220002 x220003 x220004 x220005 x220006 bt221.1 bt221.2.1 bt221.2.2.1 bt221.2.2.2) else (if bt221.2.2.1 = x218002 then (pannierlaw14_UsageFits.j1 k (bt221.2.2.2 != (mx x218003 x219003)) x218000 x218001 x218002 x218003 x219000 x219001 x219002 x219003 x220000 x220001 x220002 x220003 x220004 x220005 x220006 bt221.1 bt221.2.1 bt221.2.2.1 bt221.2.2.2) else (if bt221.2.2.1 = x219002 then (pannierlaw14_UsageFits.j1 k (bt221.2.2.2 != (mx x218003 x219003)) x218000 x218001 x218002 x218003 x219000 x219001 x219002 x219003 x220000 x220001 x220002 x220003 x220004 x220005 x220006 bt221.1 bt221.2.1 bt221.2.2.1 bt221.2.2.2) else (pannierlaw14_UsageFits.j1 k true x218000 x218001 x218002 x218003 x219000 x219001 x219002 x219003 x220000 x220001 x220002 x220003 x220004 x220005 x220006 bt221.1 bt221.2.1 bt221.2.2.1 bt221.2.2.2))))) else (pannierlaw14_UsageFits.j1 k true x218000 x218001 x218002 x218003 x219000 x219001 x219002 x219003 x220000 x220001 x220002 x220003 x220004 x220005 x220006 bt221.1 bt221.2.1 bt221.2.2.1 bt221.2.2.2)) else (pannierlaw14_UsageFits.j1 k true x218000 x218001 x218002 x218003 x219000 x219001 x219002 x219003 x220000 x220001 x220002 x220003 x220004 x220005 x220006 bt221.1 bt221.2.1 bt221.2.2.1 bt221.2.2.2)))
def pannierlaw14_UsageFits.j1 : Nat → Bool → Int → Int → Int → Int → Int → Int → Int → Int → Int → Int → Int → Int → Int → Int → Int → Int → Int → Int → Int → Option (Bool)
 | 0, _, _, _, _, _, _, _, _, _, _, _, _, _, _, _, _, _, _, _, _ => none
 | k + 1, x107, x218000, x218001, x218002, x218003, x219000, x219001, x219002, x219003, x220000, x220001, x220002, x220003, x220004, x220005, x220006, x226000, x226001, x226002, x226003 => if x107 = true then (some false) else (if x218000 ≤ x220000 then (if x218001 ≤ x220001 then (if x218002 ≤ x220002 then (pannierlaw14_UsageFits.j2 k (decide (x218003 ≤ x220003)) x218000 x218001 x218002 x218003 x219000 x219001 x219002 x219003 x220000 x220001 x220002 x220003 x220004 x220005 x220006 x226000 x226001 x226002 x226003) else (pannierlaw14_UsageFits.j2 k false x218000 x218001 x218002 x218003 x219000 x219001 x219002 x219003 x220000 x220001 x220002 x220003 x220004 x220005 x220006 x226000 x226001 x226002 x226003)) else (pannierlaw14_UsageFits.j2 k false x218000 x218001 x218002 x218003 x219000 x219001 x219002 x219003 x220000 x220001 x220002 x220003 x220004 x220005 x220006 x226000 x226001 x226002 x226003)) else (pannierlaw14_UsageFits.j2 k false x218000 x218001 x218002 x218003 x219000 x219001 x219002 x219003 x220000 x220001 x220002 x220003 x220004 x220005 x220006 x226000 x226001 x226002 x226003))
def pannierlaw14_UsageFits.j2 : Nat → Bool → Int → Int → Int → Int → Int → Int → Int → Int → Int → Int → Int → Int → Int → Int → Int → Int → Int → Int → Int → Option (Bool)
 | 0, _, _, _, _, _, _, _, _, _, _, _, _, _, _, _, _, _, _, _, _ => none
 | k + 1, x8, x218000, x218001, x218002, x218003, x219000, x219001, x219002, x219003, x220000, x220001, x220002, x220003, x220004, x220005, x220006, x226000, x226001, x226002, x226003 => (usage_Usage_Fits.f x218000 x218001 x218002 x218003 x220000 x220001 x220002 x220003 x220004 x220005 x220006).bind fun t226 => (if (t226 == x8) = true then ((usage_Usage_Fits.f x226000 x226001 x226002 x226003 x220000 x220001 x220002 x220003 x220004 x220005 x220006).bind fun t227 => (if t227 = true then ((usage_Usage_Fits.f x218000 x218001 x218002 x218003 x220000 x220001 x220002 x220003 x220004 x220005 x220006).bind fun t228 => (if t228 = true then ((usage_Usage_Fits.f x219000 x219001 x219002 x219003 x220000 x220001 x220002 x220003 x220004 x220005 x220006).bind fun t229 => (some t229)) else (some false))) else (some true))) else (some false))
end
def pannierlaw14_UsageFits.f (k : Nat) (a0_0 : Int) (a0_1 : Int) (a0_2 : Int) (a0_3 : Int) (a1_0 : Int) (a1_1 : Int) (a1_2 : Int) (a1_3 : Int) (a2_0 : Int) (a2_1 : Int) (a2_2 : Int) (a2_3 : Int) (a2_4 : Int) (a2_5 : Int) (a2_6 : Int) : Option (Bool) := (pannierlaw14_measures.f k).bind fun t220 => (if t220 = true then (if a0_0 < 0 then (pannierlaw14_UsageFits.j0 k true a0_0 a0_1 a0_2 a0_3 a1_0 a1_1 a1_2 a1_3 a2_0 a2_1 a2_2 a2_3 a2_4 a2_5 a2_6) else (if a1_0 < 0 then (pannierlaw14_UsageFits.j0 k true a0_0 a0_1 a0_2 a0_3 a1_0 a1_1 a1_2 a1_3 a2_0 a2_1 a2_2 a2_3 a2_4 a2_5 a2_6) else (if a0_0 > 1152921504606846976 then (pannierlaw14_UsageFits.j0 k true a0_0 a0_1 a0_2 a0_3 a1_0 a1_1 a1_2 a1_3 a2_0 a2_1 a2_2 a2_3 a2_4 a2_5 a2_6) else (if a1_0 > 1152921504606846976 then (pannierlaw14_UsageFits.j0 k true a0_0 a0_1 a0_2 a0_3 a1_0 a1_1 a1_2 a1_3 a2_0 a2_1 a2_2 a2_3 a2_4 a2_5 a2_6) else (if a0_1 < 0 then (pannierlaw14_UsageFits.j0 k true a0_0 a0_1 a0_2 a0_3 a1_0 a1_1 a1_2 a1_3 a2_0 a2_1 a2_2 a2_3 a2_4 a2_5 a2_6) else (if a1_1 < 0 then (pannierlaw14_UsageFits.j0 k true a0_0 a0_1 a0_2 a0_3 a1_0 a1_1 a1_2 a1_3 a2_0 a2_1 a2_2 a2_3 a2_4 a2_5 a2_6) else (if a0_1 > 1099511627776 then (pannierlaw14_UsageFits.j0 k true a0_0 a0_1 a0_2 a0_3 a1_0 a1_1 a1_2 a1_3 a2_0 a2_1 a2_2 a2_3 a2_4 a2_5 a2_6) else (pannierlaw14_UsageFits.j0 k (decide (a1_1 > 1099511627776)) a0_0 a0_1 a0_2 a0_3 a1_0 a1_1 a1_2 a1_3 a2_0 a2_1 a2_2 a2_3 a2_4 a2_5 a2_6)))))))) else (some false))
theorem pannierlaw14_UsageFits.mono_l : ∀ k, (∀ y0 y1 y2 y3 y4 y5 y6 y7 y8 y9 y10 y11 y12 y13 y14 y15, LeO (pannierlaw14_UsageFits.j0 k y0 y1 y2 y3 y4 y5 y6 y7 y8 y9 y10 y11 y12 y13 y14 y15) (pannierlaw14_UsageFits.j0 (k + 1) y0 y1 y2 y3 y4 y5 y6 y7 y8 y9 y10 y11 y12 y13 y14 y15)) ∧ (∀ y0 y1 y2 y3 y4 y5 y6 y7 y8 y9 y10 y11 y12 y13 y14 y15 y16 y17 y18 y19, LeO (pannierlaw14_UsageFits.j1 k y0 y1 y2 y3 y4 y5 y6 y7 y8 y9 y10 y11 y12 y13 y14 y15 y16 y17 y18 y19) (pannierlaw14_UsageFits.j1 (k + 1) y0 y1 y2 y3 y4 y5 y6 y7 y8 y9 y10 y11 y12 y13 y14 y15 y16 y17 y18 y19)) ∧ (∀ y0 y1 y2 y3 y4 y5 y6 y7 y8 y9 y10 y11 y12 y13 y14 y15 y16 y17 y18 y19, LeO (pannierlaw14_UsageFits.j2 k y0 y1 y2 y3 y4 y5 y6 y7 y8 y9 y10 y11 y12 y13 y14 y15 y16 y17 y18 y19) (pannierlaw14_UsageFits.j2 (k + 1) y0 y1 y2 y3 y4 y5 y6 y7 y8 y9 y10 y11 y12 y13 y14 y15 y16 y17 y18 y19))
 | 0 => ⟨fun _ _ _ _ _ _ _ _ _ _ _ _ _ _ _ _ r h => by simp [pannierlaw14_UsageFits.j0] at h, fun _ _ _ _ _ _ _ _ _ _ _ _ _ _ _ _ _ _ _ _ r h => by simp [pannierlaw14_UsageFits.j1] at h, fun _ _ _ _ _ _ _ _ _ _ _ _ _ _ _ _ _ _ _ _ r h => by simp [pannierlaw14_UsageFits.j2] at h⟩
 | k + 1 => by
  obtain ⟨ih0, ih1, ih2⟩ := pannierlaw14_UsageFits.mono_l k
  refine ⟨?_, ?_, ?_⟩
  ·intro y0 y1 y2 y3 y4 y5 y6 y7 y8 y9 y10 y11 y12 y13 y14 y15
   unfold pannierlaw14_UsageFits.j0
   repeat' first
   | (with_reducible exact ih0 _ _ _ _ _ _ _ _ _ _ _ _ _ _ _ _)
   | (with_reducible exact ih1 _ _ _ _ _ _ _ _ _ _ _ _ _ _ _ _ _ _ _ _)
   | (with_reducible exact ih2 _ _ _ _ _ _ _ _ _ _ _ _ _ _ _ _ _ _ _ _)
   | (with_reducible exact pannierlaw14_measures.mono _)
   | (with_reducible exact LeO.refl _)
   | (with_reducible exact LeO.none _)
   | (with_reducible refine LeO.ite ?_ ?_)
   | (with_reducible refine LeO.bind ?_ (fun _ => ?_))
   | exact ih0 _ _ _ _ _ _ _ _ _ _ _ _ _ _ _ _
   | exact ih1 _ _ _ _ _ _ _ _ _ _ _ _ _ _ _ _ _ _ _ _
   | exact ih2 _ _ _ _ _ _ _ _ _ _ _ _ _ _ _ _ _ _ _ _
   | exact pannierlaw14_measures.mono _
   | exact LeO.none _
   | refine LeO.ite ?_ ?_
   | refine LeO.bind ?_ (fun _ => ?_)
  ·intro y0 y1 y2 y3 y4 y5 y6 y7 y8 y9 y10 y11 y12 y13 y14 y15 y16 y17 y18 y19
   unfold pannierlaw14_UsageFits.j1
   repeat' first
   | (with_reducible exact ih0 _ _ _ _ _ _ _ _ _ _ _ _ _ _ _ _)
   | (with_reducible exact ih1 _ _ _ _ _ _ _ _ _ _ _ _ _ _ _ _ _ _ _ _)
   | (with_reducible exact ih2 _ _ _ _ _ _ _ _ _ _ _ _ _ _ _ _ _ _ _ _)
   | (with_reducible exact pannierlaw14_measures.mono _)
   | (with_reducible exact LeO.refl _)
   | (with_reducible exact LeO.none _)
   | (with_reducible refine LeO.ite ?_ ?_)
   | (with_reducible refine LeO.bind ?_ (fun _ => ?_))
   | exact ih0 _ _ _ _ _ _ _ _ _ _ _ _ _ _ _ _
   | exact ih1 _ _ _ _ _ _ _ _ _ _ _ _ _ _ _ _ _ _ _ _
   | exact ih2 _ _ _ _ _ _ _ _ _ _ _ _ _ _ _ _ _ _ _ _
   | exact pannierlaw14_measures.mono _
   | exact LeO.none _
   | refine LeO.ite ?_ ?_
   | refine LeO.bind ?_ (fun _ => ?_)
  ·intro y0 y1 y2 y3 y4 y5 y6 y7 y8 y9 y10 y11 y12 y13 y14 y15 y16 y17 y18 y19
   unfold pannierlaw14_UsageFits.j2
   repeat' first
   | (with_reducible exact ih0 _ _ _ _ _ _ _ _ _ _ _ _ _ _ _ _)
   | (with_reducible exact ih1 _ _ _ _ _ _ _ _ _ _ _ _ _ _ _ _ _ _ _ _)
   | (with_reducible exact ih2 _ _ _ _ _ _ _ _ _ _ _ _ _ _ _ _ _ _ _ _)
   | (with_reducible exact pannierlaw14_measures.mono _)
   | (with_reducible exact LeO.refl _)
   | (with_reducible exact LeO.none _)
   | (with_reducible refine LeO.ite ?_ ?_)
   | (with_reducible refine LeO.bind ?_ (fun _ => ?_))
   | exact ih0 _ _ _ _ _ _ _ _ _ _ _ _ _ _ _ _
   | exact ih1 _ _ _ _ _ _ _ _ _ _ _ _ _ _ _ _ _ _ _ _
   | exact ih2 _ _ _ _ _ _ _ _ _ _ _ _ _ _ _ _ _ _ _ _
   | exact pannierlaw14_measures.mono _
   | exact LeO.none _
   | refine LeO.ite ?_ ?_
   | refine LeO.bind ?_ (fun _ => ?_)
theorem pannierlaw14_UsageFits.mono : ∀ a0 a1 a2 a3 a4 a5 a6 a7 a8 a9 a10 a11 a12 a13 a14 k, LeO (pannierlaw14_UsageFits.f k a0 a1 a2 a3 a4 a5 a6 a7 a8 a9 a10 a11 a12 a13 a14) (pannierlaw14_UsageFits.f (k + 1) a0 a1 a2 a3 a4 a5 a6 a7 a8 a9 a10 a11 a12 a13 a14) := by
 intro a0 a1 a2 a3 a4 a5 a6 a7 a8 a9 a10 a11 a12 a13 a14 k
 obtain ⟨ih0, ih1, ih2⟩ := pannierlaw14_UsageFits.mono_l k
 unfold pannierlaw14_UsageFits.f
 repeat' first
   | (with_reducible exact ih0 _ _ _ _ _ _ _ _ _ _ _ _ _ _ _ _)
   | (with_reducible exact ih1 _ _ _ _ _ _ _ _ _ _ _ _ _ _ _ _ _ _ _ _)
   | (with_reducible exact ih2 _ _ _ _ _ _ _ _ _ _ _ _ _ _ _ _ _ _ _ _)
   | (with_reducible exact pannierlaw14_measures.mono _)
   | (with_reducible exact LeO.refl _)
   | (with_reducible exact LeO.none _)
   | (with_reducible refine LeO.ite ?_ ?_)
   | (with_reducible refine LeO.bind ?_ (fun _ => ?_))
   | exact ih0 _ _ _ _ _ _ _ _ _ _ _ _ _ _ _ _
   | exact ih1 _ _ _ _ _ _ _ _ _ _ _ _ _ _ _ _ _ _ _ _
   | exact ih2 _ _ _ _ _ _ _ _ _ _ _ _ _ _ _ _ _ _ _ _
   | exact pannierlaw14_measures.mono _
   | exact LeO.none _
   | refine LeO.ite ?_ ?_
   | refine LeO.bind ?_ (fun _ => ?_)
set_option maxHeartbeats 8000000 in
set_option maxRecDepth 100000 in
theorem pannierlaw14_UsageFits.calls (k : Nat) (a0_0 : Int) (a0_1 : Int) (a0_2 : Int) (a0_3 : Int) (a1_0 : Int) (a1_1 : Int) (a1_2 : Int) (a1_3 : Int) (a2_0 : Int) (a2_1 : Int) (a2_2 : Int) (a2_3 : Int) (a2_4 : Int) (a2_5 : Int) (a2_6 : Int) (r : Bool) (w : World) (h : pannierlaw14_UsageFits.f k a0_0 a0_1 a0_2 a0_3 a1_0 a1_1 a1_2 a1_3 a2_0 a2_1 a2_2 a2_3 a2_4 a2_5 a2_6 = some r) :
  Calls Tryd.prog 4 #[.agg #[.int .i64 a0_0, .int .i64 a0_1, .int .i64 a0_2, .int .i64 a0_3], .agg #[.int .i64 a1_0, .int .i64 a1_1, .int .i64 a1_2, .int .i64 a1_3], .agg #[.int .i64 a2_0, .int .i64 a2_1, .int .i64 a2_2, .int .i64 a2_3, .int .i64 a2_4, .int .i64 a2_5, .int .i64 a2_6]] w fun e w' => e = .returned (.bool r) ∧ Below w.heap.size w w' := by
 have hu23 := Tryd.underlying23
 have hu29 := Tryd.underlying29
 have HB := Aside0.mk (Below.refl w.heap.size w)
 have H : ((pannierlaw14_measures.f k).bind fun t220 => (if t220 = true then (if a0_0 < 0 then (pannierlaw14_UsageFits.j0 k true a0_0 a0_1 a0_2 a0_3 a1_0 a1_1 a1_2 a1_3 a2_0 a2_1 a2_2 a2_3 a2_4 a2_5 a2_6) else (if a1_0 < 0 then (pannierlaw14_UsageFits.j0 k true a0_0 a0_1 a0_2 a0_3 a1_0 a1_1 a1_2 a1_3 a2_0 a2_1 a2_2 a2_3 a2_4 a2_5 a2_6) else (if a0_0 > 1152921504606846976 then (pannierlaw14_UsageFits.j0 k true a0_0 a0_1 a0_2 a0_3 a1_0 a1_1 a1_2 a1_3 a2_0 a2_1 a2_2 a2_3 a2_4 a2_5 a2_6) else (if a1_0 > 1152921504606846976 then (pannierlaw14_UsageFits.j0 k true a0_0 a0_1 a0_2 a0_3 a1_0 a1_1 a1_2 a1_3 a2_0 a2_1 a2_2 a2_3 a2_4 a2_5 a2_6) else (if a0_1 < 0 then (pannierlaw14_UsageFits.j0 k true a0_0 a0_1 a0_2 a0_3 a1_0 a1_1 a1_2 a1_3 a2_0 a2_1 a2_2 a2_3 a2_4 a2_5 a2_6) else (if a1_1 < 0 then (pannierlaw14_UsageFits.j0 k true a0_0 a0_1 a0_2 a0_3 a1_0 a1_1 a1_2 a1_3 a2_0 a2_1 a2_2 a2_3 a2_4 a2_5 a2_6) else (if a0_1 > 1099511627776 then (pannierlaw14_UsageFits.j0 k true a0_0 a0_1 a0_2 a0_3 a1_0 a1_1 a1_2 a1_3 a2_0 a2_1 a2_2 a2_3 a2_4 a2_5 a2_6) else (pannierlaw14_UsageFits.j0 k (decide (a1_1 > 1099511627776)) a0_0 a0_1 a0_2 a0_3 a1_0 a1_1 a1_2 a1_3 a2_0 a2_1 a2_2 a2_3 a2_4 a2_5 a2_6)))))))) else (some false))) = some r := h
 clear h
 replace H := Option.bind_eq_some_iff.mp H
 obtain ⟨t220, A40, H⟩ := H
 replace H : (if t220 = true then (if a0_0 < 0 then (pannierlaw14_UsageFits.j0 k true a0_0 a0_1 a0_2 a0_3 a1_0 a1_1 a1_2 a1_3 a2_0 a2_1 a2_2 a2_3 a2_4 a2_5 a2_6) else (if a1_0 < 0 then (pannierlaw14_UsageFits.j0 k true a0_0 a0_1 a0_2 a0_3 a1_0 a1_1 a1_2 a1_3 a2_0 a2_1 a2_2 a2_3 a2_4 a2_5 a2_6) else (if a0_0 > 1152921504606846976 then (pannierlaw14_UsageFits.j0 k true a0_0 a0_1 a0_2 a0_3 a1_0 a1_1 a1_2 a1_3 a2_0 a2_1 a2_2 a2_3 a2_4 a2_5 a2_6) else (if a1_0 > 1152921504606846976 then (pannierlaw14_UsageFits.j0 k true a0_0 a0_1 a0_2 a0_3 a1_0 a1_1 a1_2 a1_3 a2_0 a2_1 a2_2 a2_3 a2_4 a2_5 a2_6) else (if a0_1 < 0 then (pannierlaw14_UsageFits.j0 k true a0_0 a0_1 a0_2 a0_3 a1_0 a1_1 a1_2 a1_3 a2_0 a2_1 a2_2 a2_3 a2_4 a2_5 a2_6) else (if a1_1 < 0 then (pannierlaw14_UsageFits.j0 k true a0_0 a0_1 a0_2 a0_3 a1_0 a1_1 a1_2 a1_3 a2_0 a2_1 a2_2 a2_3 a2_4 a2_5 a2_6) else (if a0_1 > 1099511627776 then (pannierlaw14_UsageFits.j0 k true a0_0 a0_1 a0_2 a0_3 a1_0 a1_1 a1_2 a1_3 a2_0 a2_1 a2_2 a2_3 a2_4 a2_5 a2_6) else (pannierlaw14_UsageFits.j0 k (decide (a1_1 > 1099511627776)) a0_0 a0_1 a0_2 a0_3 a1_0 a1_1 a1_2 a1_3 a2_0 a2_1 a2_2 a2_3 a2_4 a2_5 a2_6)))))))) else (some false)) = some r := H
 have A4 := Aside0.mk A40
 clear A40
 by_cases c5 : t220 = true
 ·subst c5
  have H1 : (if a0_0 < 0 then (pannierlaw14_UsageFits.j0 k true a0_0 a0_1 a0_2 a0_3 a1_0 a1_1 a1_2 a1_3 a2_0 a2_1 a2_2 a2_3 a2_4 a2_5 a2_6) else (if a1_0 < 0 then (pannierlaw14_UsageFits.j0 k true a0_0 a0_1 a0_2 a0_3 a1_0 a1_1 a1_2 a1_3 a2_0 a2_1 a2_2 a2_3 a2_4 a2_5 a2_6) else (if a0_0 > 1152921504606846976 then (pannierlaw14_UsageFits.j0 k true a0_0 a0_1 a0_2 a0_3 a1_0 a1_1 a1_2 a1_3 a2_0 a2_1 a2_2 a2_3 a2_4 a2_5 a2_6) else (if a1_0 > 1152921504606846976 then (pannierlaw14_UsageFits.j0 k true a0_0 a0_1 a0_2 a0_3 a1_0 a1_1 a1_2 a1_3 a2_0 a2_1 a2_2 a2_3 a2_4 a2_5 a2_6) else (if a0_1 < 0 then (pannierlaw14_UsageFits.j0 k true a0_0 a0_1 a0_2 a0_3 a1_0 a1_1 a1_2 a1_3 a2_0 a2_1 a2_2 a2_3 a2_4 a2_5 a2_6) else (if a1_1 < 0 then (pannierlaw14_UsageFits.j0 k true a0_0 a0_1 a0_2 a0_3 a1_0 a1_1 a1_2 a1_3 a2_0 a2_1 a2_2 a2_3 a2_4 a2_5 a2_6) else (if a0_1 > 1099511627776 then (pannierlaw14_UsageFits.j0 k true a0_0 a0_1 a0_2 a0_3 a1_0 a1_1 a1_2 a1_3 a2_0 a2_1 a2_2 a2_3 a2_4 a2_5 a2_6) else (pannierlaw14_UsageFits.j0 k (decide (a1_1 > 1099511627776)) a0_0 a0_1 a0_2 a0_3 a1_0 a1_1 a1_2 a1_3 a2_0 a2_1 a2_2 a2_3 a2_4 a2_5 a2_6)))))))) = some r := by rw [if_pos rfl] at H; exact H
  clear H
  have H := H1
  clear H1
  have HC6 := Aside0.mk H
  clear H
  go_enter Tryd.func4, Tryd.ntmps4
  go_upto_region 3 with (first | ((with_reducible refine gate_dst (N := 3) rfl ?_); (try (refine gate_guard (by rfl) ?_; dsimp only)); refine box_event ?hg (N := 3) ?hd (cs := #[.int .i64 a0_0, .int .i64 a0_1, .int .i64 a0_2, .int .i64 a0_3]) (t := 23) ?hr ?_; (case hd => rfl); (case hg => rfl); (case hr => first | (go_simp; done) | (go_simp; rfl)); intro gb217 hg w7 hbox hb; have n0_ := Aside0.mk (below_step (by repeat (first | (with_reducible first | exact HB.out | apply below_alloc | apply pw_below_drewN | apply below_drew1) | exact HB.out)) hb); have n1_ := Aside0.mk (hbox); have n2_ := Aside0.mk ((by rw [hg]; exact (below_size (by repeat (first | (with_reducible first | exact HB.out | apply below_alloc | apply pw_below_drewN | apply below_drew1) | exact HB.out))) : w.heap.size ≤ gb217)); have n3_ := Aside0.mk ((by rw [hg]; exact (below_size (by repeat (first | (with_reducible first | exact HB.out | apply below_alloc | apply pw_below_drewN | apply below_drew1) | exact HB.out))) : w.heap.size ≤ gb217)); clear HB; have HB := n0_; have BK217 := n1_; have GW217 := n2_; have GE217 := n3_; clear n0_ n1_ n2_ n3_; clear hb hbox hg) | ((with_reducible refine gate_dst (N := 4) rfl ?_); (try (refine gate_guard (by rfl) ?_; dsimp only)); refine box_event ?hg (N := 4) ?hd (cs := #[.int .i64 a1_0, .int .i64 a1_1, .int .i64 a1_2, .int .i64 a1_3]) (t := 23) ?hr ?_; (case hd => rfl); (case hg => rfl); (case hr => first | (go_simp; done) | (go_simp; rfl)); intro gb218 hg w8 hbox hb; have n0_ := Aside0.mk (blk_below (g := gb217) (o := .cells #[.int .i64 a0_0, .int .i64 a0_1, .int .i64 a0_2, .int .i64 a0_3] 23 (0, 0)) (by (with_reducible repeat (first | refine blk_drewN ?_ _ | refine blk_drew ?_ | refine blk_alloc ?_ _)); exact BK217.out) hb); have n1_ := Aside0.mk (below_step (by repeat (first | (with_reducible first | exact HB.out | apply below_alloc | apply pw_below_drewN | apply below_drew1 | refine below_set ?_ GE217.out) | exact HB.out)) hb); have n2_ := Aside0.mk (hbox); have n3_ := Aside0.mk ((by rw [hg]; exact (below_size (by repeat (first | (with_reducible first | exact HB.out | apply below_alloc | apply pw_below_drewN | apply below_drew1 | refine below_set ?_ GE217.out) | exact HB.out))) : w.heap.size ≤ gb218)); have n4_ := Aside0.mk ((by rw [hg]; exact (below_size (by repeat (first | (with_reducible first | exact HB.out | apply below_alloc | apply pw_below_drewN | apply below_drew1 | refine below_set ?_ GE217.out) | exact HB.out))) : w.heap.size ≤ gb218)); have n5_ := Aside0.mk ((by rw [hg]; exact Nat.ne_of_lt (blk_lt (g := gb217) (o := .cells #[.int .i64 a0_0, .int .i64 a0_1, .int .i64 a0_2, .int .i64 a0_3] 23 (0, 0)) (by (with_reducible repeat (first | refine blk_drewN ?_ _ | refine blk_drew ?_ | refine blk_alloc ?_ _)); exact BK217.out)) : gb217 ≠ gb218)); have n6_ := Aside0.mk ((by rw [hg]; exact Nat.ne_of_gt (blk_lt (g := gb217) (o := .cells #[.int .i64 a0_0, .int .i64 a0_1, .int .i64 a0_2, .int .i64 a0_3] 23 (0, 0)) (by (with_reducible repeat (first | refine blk_drewN ?_ _ | refine blk_drew ?_ | refine blk_alloc ?_ _)); exact BK217.out)) : gb218 ≠ gb217)); clear BK217; clear HB; have BK217 := n0_; have HB := n1_; have BK218 := n2_; have GW218 := n3_; have GE218 := n4_; have NB217_218 := n5_; have NB218_217 := n6_; clear n0_ n1_ n2_ n3_ n4_ n5_ n6_; clear hb hbox hg) | ((with_reducible refine gate_dst (N := 5) rfl ?_); (try (refine gate_guard (by rfl) ?_; dsimp only)); refine box_event ?hg (N := 5) ?hd (cs := #[.int .i64 a2_0, .int .i64 a2_1, .int .i64 a2_2, .int .i64 a2_3, .int .i64 a2_4, .int .i64 a2_5, .int .i64 a2_6]) (t := 29) ?hr ?_; (case hd => rfl); (case hg => rfl); (case hr => first | (go_simp; done) | (go_simp; rfl)); intro gb219 hg w9 hbox hb; have n0_ := Aside0.mk (blk_below (g := gb217) (o := .cells #[.int .i64 a0_0, .int .i64 a0_1, .int .i64 a0_2, .int .i64 a0_3] 23 (0, 0)) (by (with_reducible repeat (first | refine blk_drewN ?_ _ | refine blk_drew ?_ | refine blk_alloc ?_ _)); exact BK217.out) hb); have n1_ := Aside0.mk (blk_below (g := gb218) (o := .cells #[.int .i64 a1_0, .int .i64 a1_1, .int .i64 a1_2, .int .i64 a1_3] 23 (0, 0)) (by (with_reducible repeat (first | refine blk_drewN ?_ _ | refine blk_drew ?_ | refine blk_alloc ?_ _)); exact BK218.out) hb); have n2_ := Aside0.mk (below_step (by repeat (first | (with_reducible first | exact HB.out | apply below_alloc | apply pw_below_drewN | apply below_drew1 | refine below_set ?_ GE217.out | refine below_set ?_ GE218.out) | exact HB.out)) hb); have n3_ := Aside0.mk (hbox); have n4_ := Aside0.mk ((by rw [hg]; exact (below_size (by repeat (first | (with_reducible first | exact HB.out | apply below_alloc | apply pw_below_drewN | apply below_drew1 | refine below_set ?_ GE217.out | refine below_set ?_ GE218.out) | exact HB.out))) : w.heap.size ≤ gb219)); have n5_ := Aside0.mk ((by rw [hg]; exact (below_size (by repeat (first | (with_reducible first | exact HB.out | apply below_alloc | apply pw_below_drewN | apply below_drew1 | refine below_set ?_ GE217.out | refine below_set ?_ GE218.out) | exact HB.out))) : w.heap.size ≤ gb219)); have n6_ := Aside0.mk ((by rw [hg]; exact Nat.ne_of_lt (blk_lt (g := gb217) (o := .cells #[.int .i64 a0_0, .int .i64 a0_1, .int .i64 a0_2, .int .i64 a0_3] 23 (0, 0)) (by (with_reducible repeat (first | refine blk_drewN ?_ _ | refine blk_drew ?_ | refine blk_alloc ?_ _)); exact BK217.out)) : gb217 ≠ gb219)); have n7_ := Aside0.mk ((by rw [hg]; exact Nat.ne_of_gt (blk_lt (g := gb217) (o := .cells #[.int .i64 a0_0, .int .i64 a0_1, .int .i64 a0_2, .int .i64 a0_3] 23 (0, 0)) (by (with_reducible repeat (first | refine blk_drewN ?_ _ | refine blk_drew ?_ | refine blk_alloc ?_ _)); exact BK217.out)) : gb219 ≠ gb217)); have n8_ := Aside0.mk ((by rw [hg]; exact Nat.ne_of_lt (blk_lt (g := gb218) (o := .cells #[.int .i64 a1_0, .int .i64 a1_1, .int .i64 a1_2, .int .i64 a1_3] 23 (0, 0)) (by (with_reducible repeat (first | refine blk_drewN ?_ _ | refine blk_drew ?_ | refine blk_alloc ?_ _)); exact BK218.out)) : gb218 ≠ gb219)); have n9_ := Aside0.mk ((by rw [hg]; exact Nat.ne_of_gt (blk_lt (g := gb218) (o := .cells #[.int .i64 a1_0, .int .i64 a1_1, .int .i64 a1_2, .int .i64 a1_3] 23 (0, 0)) (by (with_reducible repeat (first | refine blk_drewN ?_ _ | refine blk_drew ?_ | refine blk_alloc ?_ _)); exact BK218.out)) : gb219 ≠ gb218)); clear BK217; clear BK218; clear HB; have BK217 := n0_; have BK218 := n1_; have HB := n2_; have BK219 := n3_; have GW219 := n4_; have GE219 := n5_; have NB217_219 := n6_; have NB219_217 := n7_; have NB218_219 := n8_; have NB219_218 := n9_; clear n0_ n1_ n2_ n3_ n4_ n5_ n6_ n7_ n8_ n9_; clear hb hbox hg) | ((with_reducible refine gate_callee (f := 16) rfl ?_); refine goesL_ (some 9) rfl rfl Tryd.func16 (by kernel_rfl) rfl #[] rfl (by (try simp only [List.map_toArray, List.map_cons, List.map_nil]); first | done | rfl | (simp only [List.length_drop, List.length_take]; rfl)) ?_; (with_reducible refine (pannierlaw14_measures.calls k  true _ A4.out).mono ?_); rintro e w10 ⟨rfl, hb⟩; refine ⟨_, rfl, ?_⟩; have n0_ := Aside0.mk (blk_below (g := gb217) (o := .cells #[.int .i64 a0_0, .int .i64 a0_1, .int .i64 a0_2, .int .i64 a0_3] 23 (0, 0)) (by (with_reducible repeat (first | refine blk_drewN ?_ _ | refine blk_drew ?_ | refine blk_alloc ?_ _)); exact BK217.out) hb); have n1_ := Aside0.mk (blk_below (g := gb218) (o := .cells #[.int .i64 a1_0, .int .i64 a1_1, .int .i64 a1_2, .int .i64 a1_3] 23 (0, 0)) (by (with_reducible repeat (first | refine blk_drewN ?_ _ | refine blk_drew ?_ | refine blk_alloc ?_ _)); exact BK218.out) hb); have n2_ := Aside0.mk (blk_below (g := gb219) (o := .cells #[.int .i64 a2_0, .int .i64 a2_1, .int .i64 a2_2, .int .i64 a2_3, .int .i64 a2_4, .int .i64 a2_5, .int .i64 a2_6] 29 (0, 0)) (by (with_reducible repeat (first | refine blk_drewN ?_ _ | refine blk_drew ?_ | refine blk_alloc ?_ _)); exact BK219.out) hb); have n3_ := Aside0.mk (below_step (by repeat (first | (with_reducible first | exact HB.out | apply below_alloc | apply pw_below_drewN | apply below_drew1 | refine below_set ?_ GE217.out | refine below_set ?_ GE218.out | refine below_set ?_ GE219.out) | exact HB.out)) hb); clear BK217; clear BK218; clear BK219; clear HB; have BK217 := n0_; have BK218 := n1_; have BK219 := n2_; have HB := n3_; clear n0_ n1_ n2_ n3_; (try clear hb); (try clear hb2); (try clear hk); (try clear hi)))
  (try simp only [Act.put, List.setIfInBounds_toArray, List.set_cons_zero, List.set_cons_succ])
  go_cut [48] (fun v48 wc => ∃ (kq : Nat) (x48_5 : Bool), v48 = .bool x48_5 ∧ Aside0 (pannierlaw14_UsageFits.j0 kq x48_5 a0_0 a0_1 a0_2 a0_3 a1_0 a1_1 a1_2 a1_3 a2_0 a2_1 a2_2 a2_3 a2_4 a2_5 a2_6 = some r) ∧ Aside0 (kq ≤ k) ∧ Aside0 (wc.heap[gb217]? = some (.cells #[.int .i64 a0_0, .int .i64 a0_1, .int .i64 a0_2, .int .i64 a0_3] 23 (0, 0))) ∧ Aside0 (wc.heap[gb218]? = some (.cells #[.int .i64 a1_0, .int .i64 a1_1, .int .i64 a1_2, .int .i64 a1_3] 23 (0, 0))) ∧ Aside0 (wc.heap[gb219]? = some (.cells #[.int .i64 a2_0, .int .i64 a2_1, .int .i64 a2_2, .int .i64 a2_3, .int .i64 a2_4, .int .i64 a2_5, .int .i64 a2_6] 29 (0, 0))) ∧ Aside0 (Below w.heap.size w wc))
  case first =>
   have H := HC6.out
   clear HC6
   by_cases c11 : a0_0 < 0
   ·rw [if_pos c11] at H
    have c11b0 : decide (a0_0 < 0) = true := decide_eq_true c11
    clear c11
    (first | rw [c11b0] | (simp only [i64_w, i32_w]; rw [c11b0]) | skip)
    have H' := Aside0.mk H
    clear H
    have hnb12 := NB217_218.out
    have hnc12 := NB218_217.out
    have hnb13 := NB217_219.out
    have hnc13 := NB219_217.out
    have hcz14_0 : w10.cell? ⟨gb217, 0, none⟩ = some (.int .i64 a0_0) := (blk_cell BK217.out 0).trans rfl
    have hcz14_1 : w10.cell? ⟨gb217, 1, none⟩ = some (.int .i64 a0_1) := (blk_cell BK217.out 1).trans rfl
    have hcz14_2 : w10.cell? ⟨gb217, 2, none⟩ = some (.int .i64 a0_2) := (blk_cell BK217.out 2).trans rfl
    have hcz14_3 : w10.cell? ⟨gb217, 3, none⟩ = some (.int .i64 a0_3) := (blk_cell BK217.out 3).trans rfl
    have hfz14_0 := blk_frozen BK217.out 0
    have hfz14_1 := blk_frozen BK217.out 1
    have hfz14_2 := blk_frozen BK217.out 2
    have hfz14_3 := blk_frozen BK217.out 3
    go_wp2
    go_meet
    case rel => exact ⟨_, (true), (by first | rfl | (simp; done) | (simp [*]; done)), H', ⟨by first | omega | exact Nat.le_refl _⟩, ⟨by (with_reducible repeat (first | refine blk_drewN ?_ _ | refine blk_drew ?_ | refine blk_alloc ?_ _)); exact BK217.out⟩, ⟨by (with_reducible repeat (first | refine blk_drewN ?_ _ | refine blk_drew ?_ | refine blk_alloc ?_ _)); exact BK218.out⟩, ⟨by (with_reducible repeat (first | refine blk_drewN ?_ _ | refine blk_drew ?_ | refine blk_alloc ?_ _)); exact BK219.out⟩, ⟨by repeat (first | (with_reducible first | exact HB.out | apply below_alloc | apply pw_below_drewN | apply below_drew1 | refine below_set ?_ GE217.out | refine below_set ?_ GE218.out | refine below_set ?_ GE219.out) | exact HB.out)⟩⟩
   ·rw [if_neg c11] at H
    have c11b0 : decide (a0_0 < 0) = false := decide_eq_false c11
    clear c11
    (first | rw [c11b0] | (simp only [i64_w, i32_w]; rw [c11b0]) | skip)
    by_cases c15 : a1_0 < 0
    ·rw [if_pos c15] at H
     have c15b0 : decide (a1_0 < 0) = true := decide_eq_true c15
     clear c15
     have H' := Aside0.mk H
     clear H
     have hnb16 := NB217_218.out
     have hnc16 := NB218_217.out
     have hnb17 := NB217_219.out
     have hnc17 := NB219_217.out
     have hcz18_0 : w10.cell? ⟨gb217, 0, none⟩ = some (.int .i64 a0_0) := (blk_cell BK217.out 0).trans rfl
     have hcz18_1 : w10.cell? ⟨gb217, 1, none⟩ = some (.int .i64 a0_1) := (blk_cell BK217.out 1).trans rfl
     have hcz18_2 : w10.cell? ⟨gb217, 2, none⟩ = some (.int .i64 a0_2) := (blk_cell BK217.out 2).trans rfl
     have hcz18_3 : w10.cell? ⟨gb217, 3, none⟩ = some (.int .i64 a0_3) := (blk_cell BK217.out 3).trans rfl
     have hfz18_0 := blk_frozen BK217.out 0
     have hfz18_1 := blk_frozen BK217.out 1
     have hfz18_2 := blk_frozen BK217.out 2
     have hfz18_3 := blk_frozen BK217.out 3
     have hnb19 := NB218_219.out
     have hnc19 := NB219_218.out
     have hcz20_0 : w10.cell? ⟨gb218, 0, none⟩ = some (.int .i64 a1_0) := (blk_cell BK218.out 0).trans rfl
     have hcz20_1 : w10.cell? ⟨gb218, 1, none⟩ = some (.int .i64 a1_1) := (blk_cell BK218.out 1).trans rfl
     have hcz20_2 : w10.cell? ⟨gb218, 2, none⟩ = some (.int .i64 a1_2) := (blk_cell BK218.out 2).trans rfl
     have hcz20_3 : w10.cell? ⟨gb218, 3, none⟩ = some (.int .i64 a1_3) := (blk_cell BK218.out 3).trans rfl
     have hfz20_0 := blk_frozen BK218.out 0
     have hfz20_1 := blk_frozen BK218.out 1
     have hfz20_2 := blk_frozen BK218.out 2
     have hfz20_3 := blk_frozen BK218.out 3
     go_wp2
     go_meet
     case rel => exact ⟨_, (true), (by first | rfl | (simp; done) | (simp [*]; done)), H', ⟨by first | omega | exact Nat.le_refl _⟩, ⟨by (with_reducible repeat (first | refine blk_drewN ?_ _ | refine blk_drew ?_ | refine blk_alloc ?_ _)); exact BK217.out⟩, ⟨by (with_reducible repeat (first | refine blk_drewN ?_ _ | refine blk_drew ?_ | refine blk_alloc ?_ _)); exact BK218.out⟩, ⟨by (with_reducible repeat (first | refine blk_drewN ?_ _ | refine blk_drew ?_ | refine blk_alloc ?_ _)); exact BK219.out⟩, ⟨by repeat (first | (with_reducible first | exact HB.out | apply below_alloc | apply pw_below_drewN | apply below_drew1 | refine below_set ?_ GE217.out | refine below_set ?_ GE218.out | refine below_set ?_ GE219.out) | exact HB.out)⟩⟩
    ·rw [if_neg c15] at H
     have c15b0 : decide (a1_0 < 0) = false := decide_eq_false c15
     clear c15
     by_cases c21 : a0_0 > 1152921504606846976
     ·rw [if_pos c21] at H
      have c21b0 : decide (1152921504606846976 < a0_0) = true := decide_eq_true c21
      clear c21
      have H' := Aside0.mk H
      clear H
      have hnb22 := NB217_218.out
      have hnc22 := NB218_217.out
      have hnb23 := NB217_219.out
      have hnc23 := NB219_217.out
      have hcz24_0 : w10.cell? ⟨gb217, 0, none⟩ = some (.int .i64 a0_0) := (blk_cell BK217.out 0).trans rfl
      have hcz24_1 : w10.cell? ⟨gb217, 1, none⟩ = some (.int .i64 a0_1) := (blk_cell BK217.out 1).trans rfl
      have hcz24_2 : w10.cell? ⟨gb217, 2, none⟩ = some (.int .i64 a0_2) := (blk_cell BK217.out 2).trans rfl
      have hcz24_3 : w10.cell? ⟨gb217, 3, none⟩ = some (.int .i64 a0_3) := (blk_cell BK217.out 3).trans rfl
      have hfz24_0 := blk_frozen BK217.out 0
      have hfz24_1 := blk_frozen BK217.out 1
      have hfz24_2 := blk_frozen BK217.out 2
      have hfz24_3 := blk_frozen BK217.out 3
      have hnb25 := NB218_219.out
      have hnc25 := NB219_218.out
      have hcz26_0 : w10.cell? ⟨gb218, 0, none⟩ = some (.int .i64 a1_0) := (blk_cell BK218.out 0).trans rfl
      have hcz26_1 : w10.cell? ⟨gb218, 1, none⟩ = some (.int .i64 a1_1) := (blk_cell BK218.out 1).trans rfl
      have hcz26_2 : w10.cell? ⟨gb218, 2, none⟩ = some (.int .i64 a1_2) := (blk_cell BK218.out 2).trans rfl
      have hcz26_3 : w10.cell? ⟨gb218, 3, none⟩ = some (.int .i64 a1_3) := (blk_cell BK218.out 3).trans rfl
      have hfz26_0 := blk_frozen BK218.out 0
      have hfz26_1 := blk_frozen BK218.out 1
      have hfz26_2 := blk_frozen BK218.out 2
      have hfz26_3 := blk_frozen BK218.out 3
      go_wp2
      go_meet
      case rel => exact ⟨_, (true), (by first | rfl | (simp; done) | (simp [*]; done)), H', ⟨by first | omega | exact Nat.le_refl _⟩, ⟨by (with_reducible repeat (first | refine blk_drewN ?_ _ | refine blk_drew ?_ | refine blk_alloc ?_ _)); exact BK217.out⟩, ⟨by (with_reducible repeat (first | refine blk_drewN ?_ _ | refine blk_drew ?_ | refine blk_alloc ?_ _)); exact BK218.out⟩, ⟨by (with_reducible repeat (first | refine blk_drewN ?_ _ | refine blk_drew ?_ | refine blk_alloc ?_ _)); exact BK219.out⟩, ⟨by repeat (first | (with_reducible first | exact HB.out | apply below_alloc | apply pw_below_drewN | apply below_drew1 | refine below_set ?_ GE217.out | refine below_set ?_ GE218.out | refine below_set ?_ GE219.out) | exact HB.out)⟩⟩
     ·rw [if_neg c21] at H
      have c21b0 : decide (1152921504606846976 < a0_0) = false := decide_eq_false c21
      clear c21
      by_cases c27 : a1_0 > 1152921504606846976
      ·rw [if_pos c27] at H
       have c27b0 : decide (1152921504606846976 < a1_0) = true := decide_eq_true c27
       clear c27
       have H' := Aside0.mk H
       clear H
       have hnb28 := NB217_218.out
       have hnc28 := NB218_217.out
       have hnb29 := NB217_219.out
       have hnc29 := NB219_217.out
       have hcz30_0 : w10.cell? ⟨gb217, 0, none⟩ = some (.int .i64 a0_0) := (blk_cell BK217.out 0).trans rfl
       have hcz30_1 : w10.cell? ⟨gb217, 1, none⟩ = some (.int .i64 a0_1) := (blk_cell BK217.out 1).trans rfl
       have hcz30_2 : w10.cell? ⟨gb217, 2, none⟩ = some (.int .i64 a0_2) := (blk_cell BK217.out 2).trans rfl
       have hcz30_3 : w10.cell? ⟨gb217, 3, none⟩ = some (.int .i64 a0_3) := (blk_cell BK217.out 3).trans rfl
       have hfz30_0 := blk_frozen BK217.out 0
       have hfz30_1 := blk_frozen BK217.out 1
       have hfz30_2 := blk_frozen BK217.out 2
       have hfz30_3 := blk_frozen BK217.out 3
       have hnb31 := NB218_219.out
       have hnc31 := NB219_218.out
       have hcz32_0 : w10.cell? ⟨gb218, 0, none⟩ = some (.int .i64 a1_0) := (blk_cell BK218.out 0).trans rfl
       have hcz32_1 : w10.cell? ⟨gb218, 1, none⟩ = some (.int .i64 a1_1) := (blk_cell BK218.out 1).trans rfl
       have hcz32_2 : w10.cell? ⟨gb218, 2, none⟩ = some (.int .i64 a1_2) := (blk_cell BK218.out 2).trans rfl
       have hcz32_3 : w10.cell? ⟨gb218, 3, none⟩ = some (.int .i64 a1_3) := (blk_cell BK218.out 3).trans rfl
       have hfz32_0 := blk_frozen BK218.out 0
       have hfz32_1 := blk_frozen BK218.out 1
       have hfz32_2 := blk_frozen BK218.out 2
       have hfz32_3 := blk_frozen BK218.out 3
       go_wp2
       go_meet
       case rel => exact ⟨_, (true), (by first | rfl | (simp; done) | (simp [*]; done)), H', ⟨by first | omega | exact Nat.le_refl _⟩, ⟨by (with_reducible repeat (first | refine blk_drewN ?_ _ | refine blk_drew ?_ | refine blk_alloc ?_ _)); exact BK217.out⟩, ⟨by (with_reducible repeat (first | refine blk_drewN ?_ _ | refine blk_drew ?_ | refine blk_alloc ?_ _)); exact BK218.out⟩, ⟨by (with_reducible repeat (first | refine blk_drewN ?_ _ | refine blk_drew ?_ | refine blk_alloc ?_ _)); exact BK219.out⟩, ⟨by repeat (first | (with_reducible first | exact HB.out | apply below_alloc | apply pw_below_drewN | apply below_drew1 | refine below_set ?_ GE217.out | refine below_set ?_ GE218.out | refine below_set ?_ GE219.out) | exact HB.out)⟩⟩
      ·rw [if_neg c27] at H
       have c27b0 : decide (1152921504606846976 < a1_0) = false := decide_eq_false c27
       clear c27
       by_cases c33 : a0_1 < 0
       ·rw [if_pos c33] at H
        have c33b0 : decide (a0_1 < 0) = true := decide_eq_true c33
        clear c33
        have H' := Aside0.mk H
        clear H
        have hnb34 := NB217_218.out
        have hnc34 := NB218_217.out
        have hnb35 := NB217_219.out
        have hnc35 := NB219_217.out
        have hcz36_0 : w10.cell? ⟨gb217, 0, none⟩ = some (.int .i64 a0_0) := (blk_cell BK217.out 0).trans rfl
        have hcz36_1 : w10.cell? ⟨gb217, 1, none⟩ = some (.int .i64 a0_1) := (blk_cell BK217.out 1).trans rfl
        have hcz36_2 : w10.cell? ⟨gb217, 2, none⟩ = some (.int .i64 a0_2) := (blk_cell BK217.out 2).trans rfl
        have hcz36_3 : w10.cell? ⟨gb217, 3, none⟩ = some (.int .i64 a0_3) := (blk_cell BK217.out 3).trans rfl
        have hfz36_0 := blk_frozen BK217.out 0
        have hfz36_1 := blk_frozen BK217.out 1
        have hfz36_2 := blk_frozen BK217.out 2
        have hfz36_3 := blk_frozen BK217.out 3
        have hnb37 := NB218_219.out
        have hnc37 := NB219_218.out
        have hcz38_0 : w10.cell? ⟨gb218, 0, none⟩ = some (.int .i64 a1_0) := (blk_cell BK218.out 0).trans rfl
        have hcz38_1 : w10.cell? ⟨gb218, 1, none⟩ = some (.int .i64 a1_1) := (blk_cell BK218.out 1).trans rfl
        have hcz38_2 : w10.cell? ⟨gb218, 2, none⟩ = some (.int .i64 a1_2) := (blk_cell BK218.out 2).trans rfl
        have hcz38_3 : w10.cell? ⟨gb218, 3, none⟩ = some (.int .i64 a1_3) := (blk_cell BK218.out 3).trans rfl
        have hfz38_0 := blk_frozen BK218.out 0
        have hfz38_1 := blk_frozen BK218.out 1
        have hfz38_2 := blk_frozen BK218.out 2
        have hfz38_3 := blk_frozen BK218.out 3
        go_wp2
        go_meet
        case rel => exact ⟨_, (true), (by first | rfl | (simp; done) | (simp [*]; done)), H', ⟨by first | omega | exact Nat.le_refl _⟩, ⟨by (with_reducible repeat (first | refine blk_drewN ?_ _ | refine blk_drew ?_ | refine blk_alloc ?_ _)); exact BK217.out⟩, ⟨by (with_reducible repeat (first | refine blk_drewN ?_ _ | refine blk_drew ?_ | refine blk_alloc ?_ _)); exact BK218.out⟩, ⟨by (with_reducible repeat (first | refine blk_drewN ?_ _ | refine blk_drew ?_ | refine blk_alloc ?_ _)); exact BK219.out⟩, ⟨by repeat (first | (with_reducible first | exact HB.out | apply below_alloc | apply pw_below_drewN | apply below_drew1 | refine below_set ?_ GE217.out | refine below_set ?_ GE218.out | refine below_set ?_ GE219.out) | exact HB.out)⟩⟩
       ·rw [if_neg c33] at H
        have c33b0 : decide (a0_1 < 0) = false := decide_eq_false c33
        clear c33
        by_cases c39 : a1_1 < 0
        ·rw [if_pos c39] at H
         have c39b0 : decide (a1_1 < 0) = true := decide_eq_true c39
         clear c39
         have H' := Aside0.mk H
         clear H
         have hnb40 := NB217_218.out
         have hnc40 := NB218_217.out
         have hnb41 := NB217_219.out
         have hnc41 := NB219_217.out
         have hcz42_0 : w10.cell? ⟨gb217, 0, none⟩ = some (.int .i64 a0_0) := (blk_cell BK217.out 0).trans rfl
         have hcz42_1 : w10.cell? ⟨gb217, 1, none⟩ = some (.int .i64 a0_1) := (blk_cell BK217.out 1).trans rfl
         have hcz42_2 : w10.cell? ⟨gb217, 2, none⟩ = some (.int .i64 a0_2) := (blk_cell BK217.out 2).trans rfl
         have hcz42_3 : w10.cell? ⟨gb217, 3, none⟩ = some (.int .i64 a0_3) := (blk_cell BK217.out 3).trans rfl
         have hfz42_0 := blk_frozen BK217.out 0
         have hfz42_1 := blk_frozen BK217.out 1
         have hfz42_2 := blk_frozen BK217.out 2
         have hfz42_3 := blk_frozen BK217.out 3
         have hnb43 := NB218_219.out
         have hnc43 := NB219_218.out
         have hcz44_0 : w10.cell? ⟨gb218, 0, none⟩ = some (.int .i64 a1_0) := (blk_cell BK218.out 0).trans rfl
         have hcz44_1 : w10.cell? ⟨gb218, 1, none⟩ = some (.int .i64 a1_1) := (blk_cell BK218.out 1).trans rfl
         have hcz44_2 : w10.cell? ⟨gb218, 2, none⟩ = some (.int .i64 a1_2) := (blk_cell BK218.out 2).trans rfl
         have hcz44_3 : w10.cell? ⟨gb218, 3, none⟩ = some (.int .i64 a1_3) := (blk_cell BK218.out 3).trans rfl
         have hfz44_0 := blk_frozen BK218.out 0
         have hfz44_1 := blk_frozen BK218.out 1
         have hfz44_2 := blk_frozen BK218.out 2
         have hfz44_3 := blk_frozen BK218.out 3
         go_wp2
         go_meet
         case rel => exact ⟨_, (true), (by first | rfl | (simp; done) | (simp [*]; done)), H', ⟨by first | omega | exact Nat.le_refl _⟩, ⟨by (with_reducible repeat (first | refine blk_drewN ?_ _ | refine blk_drew ?_ | refine blk_alloc ?_ _)); exact BK217.out⟩, ⟨by (with_reducible repeat (first | refine blk_drewN ?_ _ | refine blk_drew ?_ | refine blk_alloc ?_ _)); exact BK218.out⟩, ⟨by (with_reducible repeat (first | refine blk_drewN ?_ _ | refine blk_drew ?_ | refine blk_alloc ?_ _)); exact BK219.out⟩, ⟨by repeat (first | (with_reducible first | exact HB.out | apply below_alloc | apply pw_below_drewN | apply below_drew1 | refine below_set ?_ GE217.out | refine below_set ?_ GE218.out | refine below_set ?_ GE219.out) | exact HB.out)⟩⟩
        ·rw [if_neg c39] at H
         have c39b0 : decide (a1_1 < 0) = false := decide_eq_false c39
         clear c39
         by_cases c45 : a0_1 > 1099511627776
         ·rw [if_pos c45] at H
          have c45b0 : decide (1099511627776 < a0_1) = true := decide_eq_true c45
          clear c45
          have H' := Aside0.mk H
          clear H
          have hnb46 := NB217_218.out
          have hnc46 := NB218_217.out
          have hnb47 := NB217_219.out
          have hnc47 := NB219_217.out
          have hcz48_0 : w10.cell? ⟨gb217, 0, none⟩ = some (.int .i64 a0_0) := (blk_cell BK217.out 0).trans rfl
          have hcz48_1 : w10.cell? ⟨gb217, 1, none⟩ = some (.int .i64 a0_1) := (blk_cell BK217.out 1).trans rfl
          have hcz48_2 : w10.cell? ⟨gb217, 2, none⟩ = some (.int .i64 a0_2) := (blk_cell BK217.out 2).trans rfl
          have hcz48_3 : w10.cell? ⟨gb217, 3, none⟩ = some (.int .i64 a0_3) := (blk_cell BK217.out 3).trans rfl
          have hfz48_0 := blk_frozen BK217.out 0
          have hfz48_1 := blk_frozen BK217.out 1
          have hfz48_2 := blk_frozen BK217.out 2
          have hfz48_3 := blk_frozen BK217.out 3
          have hnb49 := NB218_219.out
          have hnc49 := NB219_218.out
          have hcz50_0 : w10.cell? ⟨gb218, 0, none⟩ = some (.int .i64 a1_0) := (blk_cell BK218.out 0).trans rfl
          have hcz50_1 : w10.cell? ⟨gb218, 1, none⟩ = some (.int .i64 a1_1) := (blk_cell BK218.out 1).trans rfl
          have hcz50_2 : w10.cell? ⟨gb218, 2, none⟩ = some (.int .i64 a1_2) := (blk_cell BK218.out 2).trans rfl
          have hcz50_3 : w10.cell? ⟨gb218, 3, none⟩ = some (.int .i64 a1_3) := (blk_cell BK218.out 3).trans rfl
          have hfz50_0 := blk_frozen BK218.out 0
          have hfz50_1 := blk_frozen BK218.out 1
          have hfz50_2 := blk_frozen BK218.out 2
          have hfz50_3 := blk_frozen BK218.out 3
          go_wp2
          go_meet
          case rel => exact ⟨_, (true), (by first | rfl | (simp; done) | (simp [*]; done)), H', ⟨by first | omega | exact Nat.le_refl _⟩, ⟨by (with_reducible repeat (first | refine blk_drewN ?_ _ | refine blk_drew ?_ | refine blk_alloc ?_ _)); exact BK217.out⟩, ⟨by (with_reducible repeat (first | refine blk_drewN ?_ _ | refine blk_drew ?_ | refine blk_alloc ?_ _)); exact BK218.out⟩, ⟨by (with_reducible repeat (first | refine blk_drewN ?_ _ | refine blk_drew ?_ | refine blk_alloc ?_ _)); exact BK219.out⟩, ⟨by repeat (first | (with_reducible first | exact HB.out | apply below_alloc | apply pw_below_drewN | apply below_drew1 | refine below_set ?_ GE217.out | refine below_set ?_ GE218.out | refine below_set ?_ GE219.out) | exact HB.out)⟩⟩
         ·rw [if_neg c45] at H
          have c45b0 : decide (1099511627776 < a0_1) = false := decide_eq_false c45
          clear c45
          have H' := Aside0.mk H
          clear H
          have hnb51 := NB217_218.out
          have hnc51 := NB218_217.out
          have hnb52 := NB217_219.out
          have hnc52 := NB219_217.out
          have hcz53_0 : w10.cell? ⟨gb217, 0, none⟩ = some (.int .i64 a0_0) := (blk_cell BK217.out 0).trans rfl
          have hcz53_1 : w10.cell? ⟨gb217, 1, none⟩ = some (.int .i64 a0_1) := (blk_cell BK217.out 1).trans rfl
          have hcz53_2 : w10.cell? ⟨gb217, 2, none⟩ = some (.int .i64 a0_2) := (blk_cell BK217.out 2).trans rfl
          have hcz53_3 : w10.cell? ⟨gb217, 3, none⟩ = some (.int .i64 a0_3) := (blk_cell BK217.out 3).trans rfl
          have hfz53_0 := blk_frozen BK217.out 0
          have hfz53_1 := blk_frozen BK217.out 1
          have hfz53_2 := blk_frozen BK217.out 2
          have hfz53_3 := blk_frozen BK217.out 3
          have hnb54 := NB218_219.out
          have hnc54 := NB219_218.out
          have hcz55_0 : w10.cell? ⟨gb218, 0, none⟩ = some (.int .i64 a1_0) := (blk_cell BK218.out 0).trans rfl
          have hcz55_1 : w10.cell? ⟨gb218, 1, none⟩ = some (.int .i64 a1_1) := (blk_cell BK218.out 1).trans rfl
          have hcz55_2 : w10.cell? ⟨gb218, 2, none⟩ = some (.int .i64 a1_2) := (blk_cell BK218.out 2).trans rfl
          have hcz55_3 : w10.cell? ⟨gb218, 3, none⟩ = some (.int .i64 a1_3) := (blk_cell BK218.out 3).trans rfl
          have hfz55_0 := blk_frozen BK218.out 0
          have hfz55_1 := blk_frozen BK218.out 1
          have hfz55_2 := blk_frozen BK218.out 2
          have hfz55_3 := blk_frozen BK218.out 3
          go_wp2
          go_meet
          case rel => exact ⟨_, (decide (a1_1 > 1099511627776)), (by first | rfl | (simp; done) | (simp [*]; done)), H', ⟨by first | omega | exact Nat.le_refl _⟩, ⟨by (with_reducible repeat (first | refine blk_drewN ?_ _ | refine blk_drew ?_ | refine blk_alloc ?_ _)); exact BK217.out⟩, ⟨by (with_reducible repeat (first | refine blk_drewN ?_ _ | refine blk_drew ?_ | refine blk_alloc ?_ _)); exact BK218.out⟩, ⟨by (with_reducible repeat (first | refine blk_drewN ?_ _ | refine blk_drew ?_ | refine blk_alloc ?_ _)); exact BK219.out⟩, ⟨by repeat (first | (with_reducible first | exact HB.out | apply below_alloc | apply pw_below_drewN | apply below_drew1 | refine below_set ?_ GE217.out | refine below_set ?_ GE218.out | refine below_set ?_ GE219.out) | exact HB.out)⟩⟩
  case rest =>
   clear HC6
   try clear c1
   try clear c2
   try clear p2
   try clear c3
   try clear c4
   try clear c5
   try clear c11
   try clear c11b0
   try clear c12
   try clear c13
   try clear c15
   try clear c15b0
   try clear c16
   try clear c17
   try clear c19
   try clear c21
   try clear c21b0
   try clear c22
   try clear c23
   try clear c25
   try clear c27
   try clear c27b0
   try clear c28
   try clear c29
   try clear c31
   try clear c33
   try clear c33b0
   try clear c34
   try clear c35
   try clear c37
   try clear c39
   try clear c39b0
   try clear c40
   try clear c41
   try clear c43
   try clear c45
   try clear c45b0
   try clear c46
   try clear c47
   try clear c49
   try clear c51
   try clear c52
   try clear c54
   try clear hcz14_0
   try clear hcz14_1
   try clear hcz14_2
   try clear hcz14_3
   try clear hcz18_0
   try clear hcz18_1
   try clear hcz18_2
   try clear hcz18_3
   try clear hcz20_0
   try clear hcz20_1
   try clear hcz20_2
   try clear hcz20_3
   try clear hcz24_0
   try clear hcz24_1
   try clear hcz24_2
   try clear hcz24_3
   try clear hcz26_0
   try clear hcz26_1
   try clear hcz26_2
   try clear hcz26_3
   try clear hcz30_0
   try clear hcz30_1
   try clear hcz30_2
   try clear hcz30_3
   try clear hcz32_0
   try clear hcz32_1
   try clear hcz32_2
   try clear hcz32_3
   try clear hcz36_0
   try clear hcz36_1
   try clear hcz36_2
   try clear hcz36_3
   try clear hcz38_0
   try clear hcz38_1
   try clear hcz38_2
   try clear hcz38_3
   try clear hcz42_0
   try clear hcz42_1
   try clear hcz42_2
   try clear hcz42_3
   try clear hcz44_0
   try clear hcz44_1
   try clear hcz44_2
   try clear hcz44_3
   try clear hcz48_0
   try clear hcz48_1
   try clear hcz48_2
   try clear hcz48_3
   try clear hcz50_0
   try clear hcz50_1
   try clear hcz50_2
   try clear hcz50_3
   try clear hcz53_0
   try clear hcz53_1
   try clear hcz53_2
   try clear hcz53_3
   try clear hcz55_0
   try clear hcz55_1
   try clear hcz55_2
   try clear hcz55_3
   try clear hfz14_0
   try clear hfz14_1
   try clear hfz14_2
   try clear hfz14_3
   try clear hfz18_0
   try clear hfz18_1
   try clear hfz18_2
   try clear hfz18_3
   try clear hfz20_0
   try clear hfz20_1
   try clear hfz20_2
   try clear hfz20_3
   try clear hfz24_0
   try clear hfz24_1
   try clear hfz24_2
   try clear hfz24_3
   try clear hfz26_0
   try clear hfz26_1
   try clear hfz26_2
   try clear hfz26_3
   try clear hfz30_0
   try clear hfz30_1
   try clear hfz30_2
   try clear hfz30_3
   try clear hfz32_0
   try clear hfz32_1
   try clear hfz32_2
   try clear hfz32_3
   try clear hfz36_0
   try clear hfz36_1
   try clear hfz36_2
   try clear hfz36_3
   try clear hfz38_0
   try clear hfz38_1
   try clear hfz38_2
   try clear hfz38_3
   try clear hfz42_0
   try clear hfz42_1
   try clear hfz42_2
   try clear hfz42_3
   try clear hfz44_0
   try clear hfz44_1
   try clear hfz44_2
   try clear hfz44_3
   try clear hfz48_0
   try clear hfz48_1
   try clear hfz48_2
   try clear hfz48_3
   try clear hfz50_0
   try clear hfz50_1
   try clear hfz50_2
   try clear hfz50_3
   try clear hfz53_0
   try clear hfz53_1
   try clear hfz53_2
   try clear hfz53_3
   try clear hfz55_0
   try clear hfz55_1
   try clear hfz55_2
   try clear hfz55_3
   obtain ⟨kq, x48_5, rfl, HA, HJ5, BK217, BK218, BK219, HB⟩ := hcut
   cases kq with
   | zero => exact absurd HA.out (by simp [pannierlaw14_UsageFits.j0])
   | succ kj5 =>
    have H := HA.out
    clear HA
    simp only [pannierlaw14_UsageFits.j0] at H
    by_cases c56 : x48_5 = true
    ·subst c56
     have H1 : (some true) = some r := by rw [if_pos rfl] at H; exact H
     clear H
     have H := H1
     clear H1
     obtain rfl := Option.some.inj H
     go_wp2
     all_goals (go_ret; exact ⟨by first | rfl | (simp [errW_none, errW_some] <;> rfl) | (simp [*, errW_none, errW_some] <;> rfl), by repeat (first | (with_reducible first | exact HB.out | apply below_alloc | apply pw_below_drewN | apply below_drew1 | refine below_set ?_ GE217.out | refine below_set ?_ GE218.out | refine below_set ?_ GE219.out) | exact HB.out)⟩)
    ·replace c56 := Bool.eq_false_iff.mpr c56
     subst c56
     have H1 : ((usage_Usage_Plus.f a0_0 a0_1 a0_2 a0_3 a1_0 a1_1 a1_2 a1_3).bind fun bt221 => (if bt221.1 = (wrap64 (a0_0 + a1_0)) then (if bt221.2.1 = (wrap64 (a0_1 + a1_1)) then (if bt221.2.2.1 < a0_2 then (pannierlaw14_UsageFits.j1 kj5 true a0_0 a0_1 a0_2 a0_3 a1_0 a1_1 a1_2 a1_3 a2_0 a2_1 a2_2 a2_3 a2_4 a2_5 a2_6 bt221.1 bt221.2.1 bt221.2.2.1 bt221.2.2.2) else (if bt221.2.2.1 < a1_2 then (pannierlaw14_UsageFits.j1 kj5 true a0_0 a0_1 a0_2 a0_3 a1_0 a1_1 a1_2 a1_3 a2_0 a2_1 a2_2 a2_3 a2_4 a2_5 a2_6 bt221.1 bt221.2.1 bt221.2.2.1 bt221.2.2.2) else (if bt221.2.2.1 = a0_2 then (pannierlaw14_UsageFits.j1 kj5 (bt221.2.2.2 != (mx a0_3 a1_3)) a0_0 a0_1 a0_2 a0_3 a1_0 a1_1 a1_2 a1_3 a2_0 a2_1 a2_2 a2_3 a2_4 a2_5 a2_6 bt221.1 bt221.2.1 bt221.2.2.1 bt221.2.2.2) else (if bt221.2.2.1 = a1_2 then (pannierlaw14_UsageFits.j1 kj5 (bt221.2.2.2 != (mx a0_3 a1_3)) a0_0 a0_1 a0_2 a0_3 a1_0 a1_1 a1_2 a1_3 a2_0 a2_1 a2_2 a2_3 a2_4 a2_5 a2_6 bt221.1 bt221.2.1 bt221.2.2.1 bt221.2.2.2) else (pannierlaw14_UsageFits.j1 kj5 true a0_0 a0_1 a0_2 a0_3 a1_0 a1_1 a1_2 a1_3 a2_0 a2_1 a2_2 a2_3 a2_4 a2_5 a2_6 bt221.1 bt221.2.1 bt221.2.2.1 bt221.2.2.2))))) else (pannierlaw14_UsageFits.j1 kj5 true a0_0 a0_1 a0_2 a0_3 a1_0 a1_1 a1_2 a1_3 a2_0 a2_1 a2_2 a2_3 a2_4 a2_5 a2_6 bt221.1 bt221.2.1 bt221.2.2.1 bt221.2.2.2)) else (pannierlaw14_UsageFits.j1 kj5 true a0_0 a0_1 a0_2 a0_3 a1_0 a1_1 a1_2 a1_3 a2_0 a2_1 a2_2 a2_3 a2_4 a2_5 a2_6 bt221.1 bt221.2.1 bt221.2.2.1 bt221.2.2.2))) = some r := by rw [if_neg (show ¬ (false = true) by decide)] at H; exact H
     clear H
     have H := H1
     clear H1
     replace H := Option.bind_eq_some_iff.mp H
     obtain ⟨⟨t221, t222, t223, t224⟩, A570, H⟩ := H
     replace H : (if t221 = (wrap64 (a0_0 + a1_0)) then (if t222 = (wrap64 (a0_1 + a1_1)) then (if t223 < a0_2 then (pannierlaw14_UsageFits.j1 kj5 true a0_0 a0_1 a0_2 a0_3 a1_0 a1_1 a1_2 a1_3 a2_0 a2_1 a2_2 a2_3 a2_4 a2_5 a2_6 t221 t222 t223 t224) else (if t223 < a1_2 then (pannierlaw14_UsageFits.j1 kj5 true a0_0 a0_1 a0_2 a0_3 a1_0 a1_1 a1_2 a1_3 a2_0 a2_1 a2_2 a2_3 a2_4 a2_5 a2_6 t221 t222 t223 t224) else (if t223 = a0_2 then (pannierlaw14_UsageFits.j1 kj5 (t224 != (mx a0_3 a1_3)) a0_0 a0_1 a0_2 a0_3 a1_0 a1_1 a1_2 a1_3 a2_0 a2_1 a2_2 a2_3 a2_4 a2_5 a2_6 t221 t222 t223 t224) else (if t223 = a1_2 then (pannierlaw14_UsageFits.j1 kj5 (t224 != (mx a0_3 a1_3)) a0_0 a0_1 a0_2 a0_3 a1_0 a1_1 a1_2 a1_3 a2_0 a2_1 a2_2 a2_3 a2_4 a2_5 a2_6 t221 t222 t223 t224) else (pannierlaw14_UsageFits.j1 kj5 true a0_0 a0_1 a0_2 a0_3 a1_0 a1_1 a1_2 a1_3 a2_0 a2_1 a2_2 a2_3 a2_4 a2_5 a2_6 t221 t222 t223 t224))))) else (pannierlaw14_UsageFits.j1 kj5 true a0_0 a0_1 a0_2 a0_3 a1_0 a1_1 a1_2 a1_3 a2_0 a2_1 a2_2 a2_3 a2_4 a2_5 a2_6 t221 t222 t223 t224)) else (pannierlaw14_UsageFits.j1 kj5 true a0_0 a0_1 a0_2 a0_3 a1_0 a1_1 a1_2 a1_3 a2_0 a2_1 a2_2 a2_3 a2_4 a2_5 a2_6 t221 t222 t223 t224)) = some r := H
     have A57 := Aside0.mk A570
     clear A570
     have HC58 := Aside0.mk H
     clear H
     have hnb59 := NB217_218.out
     have hnc59 := NB218_217.out
     have hnb60 := NB217_219.out
     have hnc60 := NB219_217.out
     have hcz61_0 : wc.cell? ⟨gb217, 0, none⟩ = some (.int .i64 a0_0) := (blk_cell BK217.out 0).trans rfl
     have hcz61_1 : wc.cell? ⟨gb217, 1, none⟩ = some (.int .i64 a0_1) := (blk_cell BK217.out 1).trans rfl
     have hcz61_2 : wc.cell? ⟨gb217, 2, none⟩ = some (.int .i64 a0_2) := (blk_cell BK217.out 2).trans rfl
     have hcz61_3 : wc.cell? ⟨gb217, 3, none⟩ = some (.int .i64 a0_3) := (blk_cell BK217.out 3).trans rfl
     have hfz61_0 := blk_frozen BK217.out 0
     have hfz61_1 := blk_frozen BK217.out 1
     have hfz61_2 := blk_frozen BK217.out 2
     have hfz61_3 := blk_frozen BK217.out 3
     have hnb62 := NB218_219.out
     have hnc62 := NB219_218.out
     have hcz63_0 : wc.cell? ⟨gb218, 0, none⟩ = some (.int .i64 a1_0) := (blk_cell BK218.out 0).trans rfl
     have hcz63_1 : wc.cell? ⟨gb218, 1, none⟩ = some (.int .i64 a1_1) := (blk_cell BK218.out 1).trans rfl
     have hcz63_2 : wc.cell? ⟨gb218, 2, none⟩ = some (.int .i64 a1_2) := (blk_cell BK218.out 2).trans rfl
     have hcz63_3 : wc.cell? ⟨gb218, 3, none⟩ = some (.int .i64 a1_3) := (blk_cell BK218.out 3).trans rfl
     have hfz63_0 := blk_frozen BK218.out 0
     have hfz63_1 := blk_frozen BK218.out 1
     have hfz63_2 := blk_frozen BK218.out 2
     have hfz63_3 := blk_frozen BK218.out 3
     go_upto_region 6 with (first | ((with_reducible refine gate_callee (f := 17) rfl ?_); refine goesL_ (some 51) rfl rfl Tryd.func17 (by kernel_rfl) rfl #[.agg #[.int .i64 a0_0, .int .i64 a0_1, .int .i64 a0_2, .int .i64 a0_3], .agg #[.int .i64 a1_0, .int .i64 a1_1, .int .i64 a1_2, .int .i64 a1_3]] rfl (by (try simp only [List.map_toArray, List.map_cons, List.map_nil]); first | done | rfl | (simp only [List.length_drop, List.length_take]; rfl)) ?_; (with_reducible refine (usage_Usage_Plus.calls a0_0 a0_1 a0_2 a0_3 a1_0 a1_1 a1_2 a1_3 t221 t222 t223 t224 _ A57.out).mono ?_); rintro e w64 ⟨rfl, hb⟩; refine ⟨_, rfl, ?_⟩; have n0_ := Aside0.mk (blk_below (g := gb217) (o := .cells #[.int .i64 a0_0, .int .i64 a0_1, .int .i64 a0_2, .int .i64 a0_3] 23 (0, 0)) (by (with_reducible repeat (first | refine blk_drewN ?_ _ | refine blk_drew ?_ | refine blk_alloc ?_ _)); exact BK217.out) hb); have n1_ := Aside0.mk (blk_below (g := gb218) (o := .cells #[.int .i64 a1_0, .int .i64 a1_1, .int .i64 a1_2, .int .i64 a1_3] 23 (0, 0)) (by (with_reducible repeat (first | refine blk_drewN ?_ _ | refine blk_drew ?_ | refine blk_alloc ?_ _)); exact BK218.out) hb); have n2_ := Aside0.mk (blk_below (g := gb219) (o := .cells #[.int .i64 a2_0, .int .i64 a2_1, .int .i64 a2_2, .int .i64 a2_3, .int .i64 a2_4, .int .i64 a2_5, .int .i64 a2_6] 29 (0, 0)) (by (with_reducible repeat (first | refine blk_drewN ?_ _ | refine blk_drew ?_ | refine blk_alloc ?_ _)); exact BK219.out) hb); have n3_ := Aside0.mk (below_step (by repeat (first | (with_reducible first | exact HB.out | apply below_alloc | apply pw_below_drewN | apply below_drew1 | refine below_set ?_ GE217.out | refine below_set ?_ GE218.out | refine below_set ?_ GE219.out) | exact HB.out)) hb); clear BK217; clear BK218; clear BK219; clear HB; have BK217 := n0_; have BK218 := n1_; have BK219 := n2_; have HB := n3_; clear n0_ n1_ n2_ n3_; (try clear hb); (try clear hb2); (try clear hk); (try clear hi)) | ((with_reducible refine gate_dst (N := 7) rfl ?_); (try (refine gate_guard (by rfl) ?_; dsimp only)); refine box_event ?hg (N := 7) ?hd (cs := #[.int .i64 0, .int .i64 0, .int .i64 0, .int .i64 0]) (t := 23) ?hr ?_; (case hd => rfl); (case hg => rfl); (case hr => first | (go_simp; done) | (go_simp; rfl)); intro gb225 hg w65 hbox hb; have n0_ := Aside0.mk (blk_below (g := gb217) (o := .cells #[.int .i64 a0_0, .int .i64 a0_1, .int .i64 a0_2, .int .i64 a0_3] 23 (0, 0)) (by (with_reducible repeat (first | refine blk_drewN ?_ _ | refine blk_drew ?_ | refine blk_alloc ?_ _)); exact BK217.out) hb); have n1_ := Aside0.mk (blk_below (g := gb218) (o := .cells #[.int .i64 a1_0, .int .i64 a1_1, .int .i64 a1_2, .int .i64 a1_3] 23 (0, 0)) (by (with_reducible repeat (first | refine blk_drewN ?_ _ | refine blk_drew ?_ | refine blk_alloc ?_ _)); exact BK218.out) hb); have n2_ := Aside0.mk (blk_below (g := gb219) (o := .cells #[.int .i64 a2_0, .int .i64 a2_1, .int .i64 a2_2, .int .i64 a2_3, .int .i64 a2_4, .int .i64 a2_5, .int .i64 a2_6] 29 (0, 0)) (by (with_reducible repeat (first | refine blk_drewN ?_ _ | refine blk_drew ?_ | refine blk_alloc ?_ _)); exact BK219.out) hb); have n3_ := Aside0.mk (below_step (by repeat (first | (with_reducible first | exact HB.out | apply below_alloc | apply pw_below_drewN | apply below_drew1 | refine below_set ?_ GE217.out | refine below_set ?_ GE218.out | refine below_set ?_ GE219.out) | exact HB.out)) hb); have n4_ := Aside0.mk (hbox); have n5_ := Aside0.mk ((by rw [hg]; exact (below_size (by repeat (first | (with_reducible first | exact HB.out | apply below_alloc | apply pw_below_drewN | apply below_drew1 | refine below_set ?_ GE217.out | refine below_set ?_ GE218.out | refine below_set ?_ GE219.out) | exact HB.out))) : w.heap.size ≤ gb225)); have n6_ := Aside0.mk ((by rw [hg]; exact (below_size (by repeat (first | (with_reducible first | exact HB.out | apply below_alloc | apply pw_below_drewN | apply below_drew1 | refine below_set ?_ GE217.out | refine below_set ?_ GE218.out | refine below_set ?_ GE219.out) | exact HB.out))) : w.heap.size ≤ gb225)); have n7_ := Aside0.mk ((by rw [hg]; exact Nat.ne_of_lt (blk_lt (g := gb217) (o := .cells #[.int .i64 a0_0, .int .i64 a0_1, .int .i64 a0_2, .int .i64 a0_3] 23 (0, 0)) (by (with_reducible repeat (first | refine blk_drewN ?_ _ | refine blk_drew ?_ | refine blk_alloc ?_ _)); exact BK217.out)) : gb217 ≠ gb225)); have n8_ := Aside0.mk ((by rw [hg]; exact Nat.ne_of_gt (blk_lt (g := gb217) (o := .cells #[.int .i64 a0_0, .int .i64 a0_1, .int .i64 a0_2, .int .i64 a0_3] 23 (0, 0)) (by (with_reducible repeat (first | refine blk_drewN ?_ _ | refine blk_drew ?_ | refine blk_alloc ?_ _)); exact BK217.out)) : gb225 ≠ gb217)); have n9_ := Aside0.mk ((by rw [hg]; exact Nat.ne_of_lt (blk_lt (g := gb218) (o := .cells #[.int .i64 a1_0, .int .i64 a1_1, .int .i64 a1_2, .int .i64 a1_3] 23 (0, 0)) (by (with_reducible repeat (first | refine blk_drewN ?_ _ | refine blk_drew ?_ | refine blk_alloc ?_ _)); exact BK218.out)) : gb218 ≠ gb225)); have n10_ := Aside0.mk ((by rw [hg]; exact Nat.ne_of_gt (blk_lt (g := gb218) (o := .cells #[.int .i64 a1_0, .int .i64 a1_1, .int .i64 a1_2, .int .i64 a1_3] 23 (0, 0)) (by (with_reducible repeat (first | refine blk_drewN ?_ _ | refine blk_drew ?_ | refine blk_alloc ?_ _)); exact BK218.out)) : gb225 ≠ gb218)); have n11_ := Aside0.mk ((by rw [hg]; exact Nat.ne_of_lt (blk_lt (g := gb219) (o := .cells #[.int .i64 a2_0, .int .i64 a2_1, .int .i64 a2_2, .int .i64 a2_3, .int .i64 a2_4, .int .i64 a2_5, .int .i64 a2_6] 29 (0, 0)) (by (with_reducible repeat (first | refine blk_drewN ?_ _ | refine blk_drew ?_ | refine blk_alloc ?_ _)); exact BK219.out)) : gb219 ≠ gb225)); have n12_ := Aside0.mk ((by rw [hg]; exact Nat.ne_of_gt (blk_lt (g := gb219) (o := .cells #[.int .i64 a2_0, .int .i64 a2_1, .int .i64 a2_2, .int .i64 a2_3, .int .i64 a2_4, .int .i64 a2_5, .int .i64 a2_6] 29 (0, 0)) (by (with_reducible repeat (first | refine blk_drewN ?_ _ | refine blk_drew ?_ | refine blk_alloc ?_ _)); exact BK219.out)) : gb225 ≠ gb219)); clear BK217; clear BK218; clear BK219; clear HB; have BK217 := n0_; have BK218 := n1_; have BK219 := n2_; have HB := n3_; have BK225 := n4_; have GW225 := n5_; have GE225 := n6_; have NB217_225 := n7_; have NB225_217 := n8_; have NB218_225 := n9_; have NB225_218 := n10_; have NB219_225 := n11_; have NB225_219 := n12_; clear n0_ n1_ n2_ n3_ n4_ n5_ n6_ n7_ n8_ n9_ n10_ n11_ n12_; clear hb hbox hg; have hnb66 := NB225_217.out; have hnc66 := NB217_225.out; have hnb67 := NB225_218.out; have hnc67 := NB218_225.out; have hnb68 := NB225_219.out; have hnc68 := NB219_225.out; have hcz69_0 : w65.cell? ⟨gb225, 0, none⟩ = some (.int .i64 0) := (blk_cell BK225.out 0).trans rfl; have hcz69_1 : w65.cell? ⟨gb225, 1, none⟩ = some (.int .i64 0) := (blk_cell BK225.out 1).trans rfl; have hcz69_2 : w65.cell? ⟨gb225, 2, none⟩ = some (.int .i64 0) := (blk_cell BK225.out 2).trans rfl; have hcz69_3 : w65.cell? ⟨gb225, 3, none⟩ = some (.int .i64 0) := (blk_cell BK225.out 3).trans rfl; have hfz69_0 := blk_frozen BK225.out 0; have hfz69_1 := blk_frozen BK225.out 1; have hfz69_2 := blk_frozen BK225.out 2; have hfz69_3 := blk_frozen BK225.out 3))
     (try simp only [Act.put, List.setIfInBounds_toArray, List.set_cons_zero, List.set_cons_succ])
     go_cut [107] (fun v107 wc => ∃ (kq : Nat) (x107_57 : Bool), v107 = .bool x107_57 ∧ Aside0 (pannierlaw14_UsageFits.j1 kq x107_57 a0_0 a0_1 a0_2 a0_3 a1_0 a1_1 a1_2 a1_3 a2_0 a2_1 a2_2 a2_3 a2_4 a2_5 a2_6 t221 t222 t223 t224 = some r) ∧ Aside0 (kq ≤ kj5) ∧ Aside0 (wc.heap[gb217]? = some (.cells #[.int .i64 a0_0, .int .i64 a0_1, .int .i64 a0_2, .int .i64 a0_3] 23 (0, 0))) ∧ Aside0 (wc.heap[gb218]? = some (.cells #[.int .i64 a1_0, .int .i64 a1_1, .int .i64 a1_2, .int .i64 a1_3] 23 (0, 0))) ∧ Aside0 (wc.heap[gb219]? = some (.cells #[.int .i64 a2_0, .int .i64 a2_1, .int .i64 a2_2, .int .i64 a2_3, .int .i64 a2_4, .int .i64 a2_5, .int .i64 a2_6] 29 (0, 0))) ∧ Aside0 (wc.heap[gb225]? = some (.cells #[.int .i64 t221, .int .i64 t222, .int .i64 t223, .int .i64 t224] 23 (0, 0))) ∧ Aside0 (Below w.heap.size w wc))
     case first =>
      have H := HC58.out
      clear HC58
      by_cases c70 : t221 = (wrap64 (a0_0 + a1_0))
      ·rw [if_pos c70] at H
       have c70b0 : (t221 == (wrap64 (a0_0 + a1_0))) = true := beq_iff_eq.mpr c70
       have c70b1 : (t221 != (wrap64 (a0_0 + a1_0))) = false := bne_eq_false_iff_eq.mpr c70
       clear c70
       (first | rw [c70b0] | (simp only [i64_w, i32_w]; rw [c70b0]) | skip)
       by_cases c71 : t222 = (wrap64 (a0_1 + a1_1))
       ·rw [if_pos c71] at H
        have c71b0 : (t222 == (wrap64 (a0_1 + a1_1))) = true := beq_iff_eq.mpr c71
        have c71b1 : (t222 != (wrap64 (a0_1 + a1_1))) = false := bne_eq_false_iff_eq.mpr c71
        clear c71
        by_cases c72 : t223 < a0_2
        ·rw [if_pos c72] at H
         have c72b0 : decide (t223 < a0_2) = true := decide_eq_true c72
         clear c72
         have H' := Aside0.mk H
         clear H
         have hnb73 := NB225_217.out
         have hnc73 := NB217_225.out
         have hnb74 := NB225_218.out
         have hnc74 := NB218_225.out
         have hnb75 := NB225_219.out
         have hnc75 := NB219_225.out
         have hcz76_0 : w65.cell? ⟨gb225, 0, none⟩ = some (.int .i64 0) := (blk_cell BK225.out 0).trans rfl
         have hcz76_1 : w65.cell? ⟨gb225, 1, none⟩ = some (.int .i64 0) := (blk_cell BK225.out 1).trans rfl
         have hcz76_2 : w65.cell? ⟨gb225, 2, none⟩ = some (.int .i64 0) := (blk_cell BK225.out 2).trans rfl
         have hcz76_3 : w65.cell? ⟨gb225, 3, none⟩ = some (.int .i64 0) := (blk_cell BK225.out 3).trans rfl
         have hfz76_0 := blk_frozen BK225.out 0
         have hfz76_1 := blk_frozen BK225.out 1
         have hfz76_2 := blk_frozen BK225.out 2
         have hfz76_3 := blk_frozen BK225.out 3
         have hnb77 := NB217_218.out
         have hnc77 := NB218_217.out
         have hnb78 := NB217_219.out
         have hnc78 := NB219_217.out
         have hcz79_0 : w65.cell? ⟨gb217, 0, none⟩ = some (.int .i64 a0_0) := (blk_cell BK217.out 0).trans rfl
         have hcz79_1 : w65.cell? ⟨gb217, 1, none⟩ = some (.int .i64 a0_1) := (blk_cell BK217.out 1).trans rfl
         have hcz79_2 : w65.cell? ⟨gb217, 2, none⟩ = some (.int .i64 a0_2) := (blk_cell BK217.out 2).trans rfl
         have hcz79_3 : w65.cell? ⟨gb217, 3, none⟩ = some (.int .i64 a0_3) := (blk_cell BK217.out 3).trans rfl
         have hfz79_0 := blk_frozen BK217.out 0
         have hfz79_1 := blk_frozen BK217.out 1
         have hfz79_2 := blk_frozen BK217.out 2
         have hfz79_3 := blk_frozen BK217.out 3
         have hnb80 := NB218_219.out
         have hnc80 := NB219_218.out
         have hcz81_0 : w65.cell? ⟨gb218, 0, none⟩ = some (.int .i64 a1_0) := (blk_cell BK218.out 0).trans rfl
         have hcz81_1 : w65.cell? ⟨gb218, 1, none⟩ = some (.int .i64 a1_1) := (blk_cell BK218.out 1).trans rfl
         have hcz81_2 : w65.cell? ⟨gb218, 2, none⟩ = some (.int .i64 a1_2) := (blk_cell BK218.out 2).trans rfl
         have hcz81_3 : w65.cell? ⟨gb218, 3, none⟩ = some (.int .i64 a1_3) := (blk_cell BK218.out 3).trans rfl
         have hfz81_0 := blk_frozen BK218.out 0
         have hfz81_1 := blk_frozen BK218.out 1
         have hfz81_2 := blk_frozen BK218.out 2
         have hfz81_3 := blk_frozen BK218.out 3
         go_wp2
         go_meet
         case rel => exact ⟨_, (true), (by first | rfl | (simp; done) | (simp [*]; done)), H', ⟨by have := HJ5.out; first | omega | exact Nat.le_refl _⟩, ⟨by (with_reducible repeat (first | refine blk_drewN ?_ _ | refine blk_drew ?_ | refine blk_alloc ?_ _)); refine blk_far ?_ NB217_225.out _; (with_reducible repeat (first | refine blk_drewN ?_ _ | refine blk_drew ?_ | refine blk_alloc ?_ _)); refine blk_far ?_ NB217_225.out _; (with_reducible repeat (first | refine blk_drewN ?_ _ | refine blk_drew ?_ | refine blk_alloc ?_ _)); refine blk_far ?_ NB217_225.out _; (with_reducible repeat (first | refine blk_drewN ?_ _ | refine blk_drew ?_ | refine blk_alloc ?_ _)); refine blk_far ?_ NB217_225.out _; (with_reducible repeat (first | refine blk_drewN ?_ _ | refine blk_drew ?_ | refine blk_alloc ?_ _)); exact BK217.out⟩, ⟨by (with_reducible repeat (first | refine blk_drewN ?_ _ | refine blk_drew ?_ | refine blk_alloc ?_ _)); refine blk_far ?_ NB218_225.out _; (with_reducible repeat (first | refine blk_drewN ?_ _ | refine blk_drew ?_ | refine blk_alloc ?_ _)); refine blk_far ?_ NB218_225.out _; (with_reducible repeat (first | refine blk_drewN ?_ _ | refine blk_drew ?_ | refine blk_alloc ?_ _)); refine blk_far ?_ NB218_225.out _; (with_reducible repeat (first | refine blk_drewN ?_ _ | refine blk_drew ?_ | refine blk_alloc ?_ _)); refine blk_far ?_ NB218_225.out _; (with_reducible repeat (first | refine blk_drewN ?_ _ | refine blk_drew ?_ | refine blk_alloc ?_ _)); exact BK218.out⟩, ⟨by (with_reducible repeat (first | refine blk_drewN ?_ _ | refine blk_drew ?_ | refine blk_alloc ?_ _)); refine blk_far ?_ NB219_225.out _; (with_reducible repeat (first | refine blk_drewN ?_ _ | refine blk_drew ?_ | refine blk_alloc ?_ _)); refine blk_far ?_ NB219_225.out _; (with_reducible repeat (first | refine blk_drewN ?_ _ | refine blk_drew ?_ | refine blk_alloc ?_ _)); refine blk_far ?_ NB219_225.out _; (with_reducible repeat (first | refine blk_drewN ?_ _ | refine blk_drew ?_ | refine blk_alloc ?_ _)); refine blk_far ?_ NB219_225.out _; (with_reducible repeat (first | refine blk_drewN ?_ _ | refine blk_drew ?_ | refine blk_alloc ?_ _)); exact BK219.out⟩, ⟨by (with_reducible repeat (first | refine blk_drewN ?_ _ | refine blk_drew ?_ | refine blk_alloc ?_ _)); refine blk_put (cs := #[.int .i64 t221, .int .i64 t222, .int .i64 t223, .int .i64 0]) ?_ 3 _ rfl; (with_reducible repeat (first | refine blk_drewN ?_ _ | refine blk_drew ?_ | refine blk_alloc ?_ _)); refine blk_put (cs := #[.int .i64 t221, .int .i64 t222, .int .i64 0, .int .i64 0]) ?_ 2 _ rfl; (with_reducible repeat (first | refine blk_drewN ?_ _ | refine blk_drew ?_ | refine blk_alloc ?_ _)); refine blk_put (cs := #[.int .i64 t221, .int .i64 0, .int .i64 0, .int .i64 0]) ?_ 1 _ rfl; (with_reducible repeat (first | refine blk_drewN ?_ _ | refine blk_drew ?_ | refine blk_alloc ?_ _)); refine blk_put (cs := #[.int .i64 0, .int .i64 0, .int .i64 0, .int .i64 0]) ?_ 0 _ rfl; (with_reducible repeat (first | refine blk_drewN ?_ _ | refine blk_drew ?_ | refine blk_alloc ?_ _)); exact BK225.out⟩, ⟨by repeat (first | (with_reducible first | exact HB.out | apply below_alloc | apply pw_below_drewN | apply below_drew1 | refine below_set ?_ GE217.out | refine below_set ?_ GE218.out | refine below_set ?_ GE219.out | refine below_set ?_ GE225.out) | exact HB.out)⟩⟩
        ·rw [if_neg c72] at H
         have c72b0 : decide (t223 < a0_2) = false := decide_eq_false c72
         clear c72
         by_cases c82 : t223 < a1_2
         ·rw [if_pos c82] at H
          have c82b0 : decide (t223 < a1_2) = true := decide_eq_true c82
          clear c82
          have H' := Aside0.mk H
          clear H
          have hnb83 := NB225_217.out
          have hnc83 := NB217_225.out
          have hnb84 := NB225_218.out
          have hnc84 := NB218_225.out
          have hnb85 := NB225_219.out
          have hnc85 := NB219_225.out
          have hcz86_0 : w65.cell? ⟨gb225, 0, none⟩ = some (.int .i64 0) := (blk_cell BK225.out 0).trans rfl
          have hcz86_1 : w65.cell? ⟨gb225, 1, none⟩ = some (.int .i64 0) := (blk_cell BK225.out 1).trans rfl
          have hcz86_2 : w65.cell? ⟨gb225, 2, none⟩ = some (.int .i64 0) := (blk_cell BK225.out 2).trans rfl
          have hcz86_3 : w65.cell? ⟨gb225, 3, none⟩ = some (.int .i64 0) := (blk_cell BK225.out 3).trans rfl
          have hfz86_0 := blk_frozen BK225.out 0
          have hfz86_1 := blk_frozen BK225.out 1
          have hfz86_2 := blk_frozen BK225.out 2
          have hfz86_3 := blk_frozen BK225.out 3
          have hnb87 := NB217_218.out
          have hnc87 := NB218_217.out
          have hnb88 := NB217_219.out
          have hnc88 := NB219_217.out
          have hcz89_0 : w65.cell? ⟨gb217, 0, none⟩ = some (.int .i64 a0_0) := (blk_cell BK217.out 0).trans rfl
          have hcz89_1 : w65.cell? ⟨gb217, 1, none⟩ = some (.int .i64 a0_1) := (blk_cell BK217.out 1).trans rfl
          have hcz89_2 : w65.cell? ⟨gb217, 2, none⟩ = some (.int .i64 a0_2) := (blk_cell BK217.out 2).trans rfl
          have hcz89_3 : w65.cell? ⟨gb217, 3, none⟩ = some (.int .i64 a0_3) := (blk_cell BK217.out 3).trans rfl
          have hfz89_0 := blk_frozen BK217.out 0
          have hfz89_1 := blk_frozen BK217.out 1
          have hfz89_2 := blk_frozen BK217.out 2
          have hfz89_3 := blk_frozen BK217.out 3
          have hnb90 := NB218_219.out
          have hnc90 := NB219_218.out
          have hcz91_0 : w65.cell? ⟨gb218, 0, none⟩ = some (.int .i64 a1_0) := (blk_cell BK218.out 0).trans rfl
          have hcz91_1 : w65.cell? ⟨gb218, 1, none⟩ = some (.int .i64 a1_1) := (blk_cell BK218.out 1).trans rfl
          have hcz91_2 : w65.cell? ⟨gb218, 2, none⟩ = some (.int .i64 a1_2) := (blk_cell BK218.out 2).trans rfl
          have hcz91_3 : w65.cell? ⟨gb218, 3, none⟩ = some (.int .i64 a1_3) := (blk_cell BK218.out 3).trans rfl
          have hfz91_0 := blk_frozen BK218.out 0
          have hfz91_1 := blk_frozen BK218.out 1
          have hfz91_2 := blk_frozen BK218.out 2
          have hfz91_3 := blk_frozen BK218.out 3
          go_wp2
          go_meet
          case rel => exact ⟨_, (true), (by first | rfl | (simp; done) | (simp [*]; done)), H', ⟨by have := HJ5.out; first | omega | exact Nat.le_refl _⟩, ⟨by (with_reducible repeat (first | refine blk_drewN ?_ _ | refine blk_drew ?_ | refine blk_alloc ?_ _)); refine blk_far ?_ NB217_225.out _; (with_reducible repeat (first | refine blk_drewN ?_ _ | refine blk_drew ?_ | refine blk_alloc ?_ _)); refine blk_far ?_ NB217_225.out _; (with_reducible repeat (first | refine blk_drewN ?_ _ | refine blk_drew ?_ | refine blk_alloc ?_ _)); refine blk_far ?_ NB217_225.out _; (with_reducible repeat (first | refine blk_drewN ?_ _ | refine blk_drew ?_ | refine blk_alloc ?_ _)); refine blk_far ?_ NB217_225.out _; (with_reducible repeat (first | refine blk_drewN ?_ _ | refine blk_drew ?_ | refine blk_alloc ?_ _)); exact BK217.out⟩, ⟨by (with_reducible repeat (first | refine blk_drewN ?_ _ | refine blk_drew ?_ | refine blk_alloc ?_ _)); refine blk_far ?_ NB218_225.out _; (with_reducible repeat (first | refine blk_drewN ?_ _ | refine blk_drew ?_ | refine blk_alloc ?_ _)); refine blk_far ?_ NB218_225.out _; (with_reducible repeat (first | refine blk_drewN ?_ _ | refine blk_drew ?_ | refine blk_alloc ?_ _)); refine blk_far ?_ NB218_225.out _; (with_reducible repeat (first | refine blk_drewN ?_ _ | refine blk_drew ?_ | refine blk_alloc ?_ _)); refine blk_far ?_ NB218_225.out _; (with_reducible repeat (first | refine blk_drewN ?_ _ | refine blk_drew ?_ | refine blk_alloc ?_ _)); exact BK218.out⟩, ⟨by (with_reducible repeat (first | refine blk_drewN ?_ _ | refine blk_drew ?_ | refine blk_alloc ?_ _)); refine blk_far ?_ NB219_225.out _; (with_reducible repeat (first | refine blk_drewN ?_ _ | refine blk_drew ?_ | refine blk_alloc ?_ _)); refine blk_far ?_ NB219_225.out _; (with_reducible repeat (first | refine blk_drewN ?_ _ | refine blk_drew ?_ | refine blk_alloc ?_ _)); refine blk_far ?_ NB219_225.out _; (with_reducible repeat (first | refine blk_drewN ?_ _ | refine blk_drew ?_ | refine blk_alloc ?_ _)); refine blk_far ?_ NB219_225.out _; (with_reducible repeat (first | refine blk_drewN ?_ _ | refine blk_drew ?_ | refine blk_alloc ?_ _)); exact BK219.out⟩, ⟨by (with_reducible repeat (first | refine blk_drewN ?_ _ | refine blk_drew ?_ | refine blk_alloc ?_ _)); refine blk_put (cs := #[.int .i64 t221, .int .i64 t222, .int .i64 t223, .int .i64 0]) ?_ 3 _ rfl; (with_reducible repeat (first | refine blk_drewN ?_ _ | refine blk_drew ?_ | refine blk_alloc ?_ _)); refine blk_put (cs := #[.int .i64 t221, .int .i64 t222, .int .i64 0, .int .i64 0]) ?_ 2 _ rfl; (with_reducible repeat (first | refine blk_drewN ?_ _ | refine blk_drew ?_ | refine blk_alloc ?_ _)); refine blk_put (cs := #[.int .i64 t221, .int .i64 0, .int .i64 0, .int .i64 0]) ?_ 1 _ rfl; (with_reducible repeat (first | refine blk_drewN ?_ _ | refine blk_drew ?_ | refine blk_alloc ?_ _)); refine blk_put (cs := #[.int .i64 0, .int .i64 0, .int .i64 0, .int .i64 0]) ?_ 0 _ rfl; (with_reducible repeat (first | refine blk_drewN ?_ _ | refine blk_drew ?_ | refine blk_alloc ?_ _)); exact BK225.out⟩, ⟨by repeat (first | (with_reducible first | exact HB.out | apply below_alloc | apply pw_below_drewN | apply below_drew1 | refine below_set ?_ GE217.out | refine below_set ?_ GE218.out | refine below_set ?_ GE219.out | refine below_set ?_ GE225.out) | exact HB.out)⟩⟩
         ·rw [if_neg c82] at H
          have c82b0 : decide (t223 < a1_2) = false := decide_eq_false c82
          clear c82
          by_cases c92 : t223 = a0_2
          ·rw [if_pos c92] at H
           have c92b0 : (t223 == a0_2) = true := beq_iff_eq.mpr c92
           have c92b1 : (t223 != a0_2) = false := bne_eq_false_iff_eq.mpr c92
           clear c92
           obtain ⟨ji93, hji93⟩ : ∃ j_ : Int, (mx a0_3 a1_3) = j_ := ⟨_, rfl⟩
           replace H : (pannierlaw14_UsageFits.j1 kj5 (t224 != (ji93)) a0_0 a0_1 a0_2 a0_3 a1_0 a1_1 a1_2 a1_3 a2_0 a2_1 a2_2 a2_3 a2_4 a2_5 a2_6 t221 t222 t223 t224) = some r := by first | (rw [hji93] at H; exact H) | (simp only [hji93] at H ⊢; exact H)
           have hji93_ : (if a0_3 < a1_3 then a1_3 else a0_3) = ji93 := hji93
           have H' := Aside0.mk H
           clear H
           have hnb94 := NB225_217.out
           have hnc94 := NB217_225.out
           have hnb95 := NB225_218.out
           have hnc95 := NB218_225.out
           have hnb96 := NB225_219.out
           have hnc96 := NB219_225.out
           have hcz97_0 : w65.cell? ⟨gb225, 0, none⟩ = some (.int .i64 0) := (blk_cell BK225.out 0).trans rfl
           have hcz97_1 : w65.cell? ⟨gb225, 1, none⟩ = some (.int .i64 0) := (blk_cell BK225.out 1).trans rfl
           have hcz97_2 : w65.cell? ⟨gb225, 2, none⟩ = some (.int .i64 0) := (blk_cell BK225.out 2).trans rfl
           have hcz97_3 : w65.cell? ⟨gb225, 3, none⟩ = some (.int .i64 0) := (blk_cell BK225.out 3).trans rfl
           have hfz97_0 := blk_frozen BK225.out 0
           have hfz97_1 := blk_frozen BK225.out 1
           have hfz97_2 := blk_frozen BK225.out 2
           have hfz97_3 := blk_frozen BK225.out 3
           have hnb98 := NB217_218.out
           have hnc98 := NB218_217.out
           have hnb99 := NB217_219.out
           have hnc99 := NB219_217.out
           have hcz100_0 : w65.cell? ⟨gb217, 0, none⟩ = some (.int .i64 a0_0) := (blk_cell BK217.out 0).trans rfl
           have hcz100_1 : w65.cell? ⟨gb217, 1, none⟩ = some (.int .i64 a0_1) := (blk_cell BK217.out 1).trans rfl
           have hcz100_2 : w65.cell? ⟨gb217, 2, none⟩ = some (.int .i64 a0_2) := (blk_cell BK217.out 2).trans rfl
           have hcz100_3 : w65.cell? ⟨gb217, 3, none⟩ = some (.int .i64 a0_3) := (blk_cell BK217.out 3).trans rfl
           have hfz100_0 := blk_frozen BK217.out 0
           have hfz100_1 := blk_frozen BK217.out 1
           have hfz100_2 := blk_frozen BK217.out 2
           have hfz100_3 := blk_frozen BK217.out 3
           have hnb101 := NB218_219.out
           have hnc101 := NB219_218.out
           have hcz102_0 : w65.cell? ⟨gb218, 0, none⟩ = some (.int .i64 a1_0) := (blk_cell BK218.out 0).trans rfl
           have hcz102_1 : w65.cell? ⟨gb218, 1, none⟩ = some (.int .i64 a1_1) := (blk_cell BK218.out 1).trans rfl
           have hcz102_2 : w65.cell? ⟨gb218, 2, none⟩ = some (.int .i64 a1_2) := (blk_cell BK218.out 2).trans rfl
           have hcz102_3 : w65.cell? ⟨gb218, 3, none⟩ = some (.int .i64 a1_3) := (blk_cell BK218.out 3).trans rfl
           have hfz102_0 := blk_frozen BK218.out 0
           have hfz102_1 := blk_frozen BK218.out 1
           have hfz102_2 := blk_frozen BK218.out 2
           have hfz102_3 := blk_frozen BK218.out 3
           go_wp2
           go_meet
           case rel => exact ⟨_, ((t224 != (ji93))), (by first | rfl | (simp; done) | (simp only [← hji93] <;> (first | rfl | simp)) | (simp [*]; done)), H', ⟨by have := HJ5.out; first | omega | exact Nat.le_refl _⟩, ⟨by (with_reducible repeat (first | refine blk_drewN ?_ _ | refine blk_drew ?_ | refine blk_alloc ?_ _)); refine blk_far ?_ NB217_225.out _; (with_reducible repeat (first | refine blk_drewN ?_ _ | refine blk_drew ?_ | refine blk_alloc ?_ _)); refine blk_far ?_ NB217_225.out _; (with_reducible repeat (first | refine blk_drewN ?_ _ | refine blk_drew ?_ | refine blk_alloc ?_ _)); refine blk_far ?_ NB217_225.out _; (with_reducible repeat (first | refine blk_drewN ?_ _ | refine blk_drew ?_ | refine blk_alloc ?_ _)); refine blk_far ?_ NB217_225.out _; (with_reducible repeat (first | refine blk_drewN ?_ _ | refine blk_drew ?_ | refine blk_alloc ?_ _)); exact BK217.out⟩, ⟨by (with_reducible repeat (first | refine blk_drewN ?_ _ | refine blk_drew ?_ | refine blk_alloc ?_ _)); refine blk_far ?_ NB218_225.out _; (with_reducible repeat (first | refine blk_drewN ?_ _ | refine blk_drew ?_ | refine blk_alloc ?_ _)); refine blk_far ?_ NB218_225.out _; (with_reducible repeat (first | refine blk_drewN ?_ _ | refine blk_drew ?_ | refine blk_alloc ?_ _)); refine blk_far ?_ NB218_225.out _; (with_reducible repeat (first | refine blk_drewN ?_ _ | refine blk_drew ?_ | refine blk_alloc ?_ _)); refine blk_far ?_ NB218_225.out _; (with_reducible repeat (first | refine blk_drewN ?_ _ | refine blk_drew ?_ | refine blk_alloc ?_ _)); exact BK218.out⟩, ⟨by (with_reducible repeat (first | refine blk_drewN ?_ _ | refine blk_drew ?_ | refine blk_alloc ?_ _)); refine blk_far ?_ NB219_225.out _; (with_reducible repeat (first | refine blk_drewN ?_ _ | refine blk_drew ?_ | refine blk_alloc ?_ _)); refine blk_far ?_ NB219_225.out _; (with_reducible repeat (first | refine blk_drewN ?_ _ | refine blk_drew ?_ | refine blk_alloc ?_ _)); refine blk_far ?_ NB219_225.out _; (with_reducible repeat (first | refine blk_drewN ?_ _ | refine blk_drew ?_ | refine blk_alloc ?_ _)); refine blk_far ?_ NB219_225.out _; (with_reducible repeat (first | refine blk_drewN ?_ _ | refine blk_drew ?_ | refine blk_alloc ?_ _)); exact BK219.out⟩, ⟨by (with_reducible repeat (first | refine blk_drewN ?_ _ | refine blk_drew ?_ | refine blk_alloc ?_ _)); refine blk_put (cs := #[.int .i64 t221, .int .i64 t222, .int .i64 t223, .int .i64 0]) ?_ 3 _ rfl; (with_reducible repeat (first | refine blk_drewN ?_ _ | refine blk_drew ?_ | refine blk_alloc ?_ _)); refine blk_put (cs := #[.int .i64 t221, .int .i64 t222, .int .i64 0, .int .i64 0]) ?_ 2 _ rfl; (with_reducible repeat (first | refine blk_drewN ?_ _ | refine blk_drew ?_ | refine blk_alloc ?_ _)); refine blk_put (cs := #[.int .i64 t221, .int .i64 0, .int .i64 0, .int .i64 0]) ?_ 1 _ rfl; (with_reducible repeat (first | refine blk_drewN ?_ _ | refine blk_drew ?_ | refine blk_alloc ?_ _)); refine blk_put (cs := #[.int .i64 0, .int .i64 0, .int .i64 0, .int .i64 0]) ?_ 0 _ rfl; (with_reducible repeat (first | refine blk_drewN ?_ _ | refine blk_drew ?_ | refine blk_alloc ?_ _)); exact BK225.out⟩, ⟨by repeat (first | (with_reducible first | exact HB.out | apply below_alloc | apply pw_below_drewN | apply below_drew1 | refine below_set ?_ GE217.out | refine below_set ?_ GE218.out | refine below_set ?_ GE219.out | refine below_set ?_ GE225.out) | exact HB.out)⟩⟩
          ·rw [if_neg c92] at H
           have c92b0 : (t223 == a0_2) = false := beq_eq_false_iff_ne.mpr c92
           have c92b1 : (t223 != a0_2) = true := bne_iff_ne.mpr c92
           by_cases c103 : t223 = a1_2
           ·rw [if_pos c103] at H
            have c103b0 : (t223 == a1_2) = true := beq_iff_eq.mpr c103
            have c103b1 : (t223 != a1_2) = false := bne_eq_false_iff_eq.mpr c103
            clear c103
            obtain ⟨ji104, hji104⟩ : ∃ j_ : Int, (mx a0_3 a1_3) = j_ := ⟨_, rfl⟩
            replace H : (pannierlaw14_UsageFits.j1 kj5 (t224 != (ji104)) a0_0 a0_1 a0_2 a0_3 a1_0 a1_1 a1_2 a1_3 a2_0 a2_1 a2_2 a2_3 a2_4 a2_5 a2_6 t221 t222 t223 t224) = some r := by first | (rw [hji104] at H; exact H) | (simp only [hji104] at H ⊢; exact H)
            have hji104_ : (if a0_3 < a1_3 then a1_3 else a0_3) = ji104 := hji104
            have H' := Aside0.mk H
            clear H
            have hnb105 := NB225_217.out
            have hnc105 := NB217_225.out
            have hnb106 := NB225_218.out
            have hnc106 := NB218_225.out
            have hnb107 := NB225_219.out
            have hnc107 := NB219_225.out
            have hcz108_0 : w65.cell? ⟨gb225, 0, none⟩ = some (.int .i64 0) := (blk_cell BK225.out 0).trans rfl
            have hcz108_1 : w65.cell? ⟨gb225, 1, none⟩ = some (.int .i64 0) := (blk_cell BK225.out 1).trans rfl
            have hcz108_2 : w65.cell? ⟨gb225, 2, none⟩ = some (.int .i64 0) := (blk_cell BK225.out 2).trans rfl
            have hcz108_3 : w65.cell? ⟨gb225, 3, none⟩ = some (.int .i64 0) := (blk_cell BK225.out 3).trans rfl
            have hfz108_0 := blk_frozen BK225.out 0
            have hfz108_1 := blk_frozen BK225.out 1
            have hfz108_2 := blk_frozen BK225.out 2
            have hfz108_3 := blk_frozen BK225.out 3
            have hnb109 := NB217_218.out
            have hnc109 := NB218_217.out
            have hnb110 := NB217_219.out
            have hnc110 := NB219_217.out
            have hcz111_0 : w65.cell? ⟨gb217, 0, none⟩ = some (.int .i64 a0_0) := (blk_cell BK217.out 0).trans rfl
            have hcz111_1 : w65.cell? ⟨gb217, 1, none⟩ = some (.int .i64 a0_1) := (blk_cell BK217.out 1).trans rfl
            have hcz111_2 : w65.cell? ⟨gb217, 2, none⟩ = some (.int .i64 a0_2) := (blk_cell BK217.out 2).trans rfl
            have hcz111_3 : w65.cell? ⟨gb217, 3, none⟩ = some (.int .i64 a0_3) := (blk_cell BK217.out 3).trans rfl
            have hfz111_0 := blk_frozen BK217.out 0
            have hfz111_1 := blk_frozen BK217.out 1
            have hfz111_2 := blk_frozen BK217.out 2
            have hfz111_3 := blk_frozen BK217.out 3
            have hnb112 := NB218_219.out
            have hnc112 := NB219_218.out
            have hcz113_0 : w65.cell? ⟨gb218, 0, none⟩ = some (.int .i64 a1_0) := (blk_cell BK218.out 0).trans rfl
            have hcz113_1 : w65.cell? ⟨gb218, 1, none⟩ = some (.int .i64 a1_1) := (blk_cell BK218.out 1).trans rfl
            have hcz113_2 : w65.cell? ⟨gb218, 2, none⟩ = some (.int .i64 a1_2) := (blk_cell BK218.out 2).trans rfl
            have hcz113_3 : w65.cell? ⟨gb218, 3, none⟩ = some (.int .i64 a1_3) := (blk_cell BK218.out 3).trans rfl
            have hfz113_0 := blk_frozen BK218.out 0
            have hfz113_1 := blk_frozen BK218.out 1
            have hfz113_2 := blk_frozen BK218.out 2
            have hfz113_3 := blk_frozen BK218.out 3
            go_wp2
            go_meet
            case rel => exact ⟨_, ((t224 != (ji104))), (by first | rfl | (simp; done) | (simp only [← hji104] <;> (first | rfl | simp)) | (simp [*]; done)), H', ⟨by have := HJ5.out; first | omega | exact Nat.le_refl _⟩, ⟨by (with_reducible repeat (first | refine blk_drewN ?_ _ | refine blk_drew ?_ | refine blk_alloc ?_ _)); refine blk_far ?_ NB217_225.out _; (with_reducible repeat (first | refine blk_drewN ?_ _ | refine blk_drew ?_ | refine blk_alloc ?_ _)); refine blk_far ?_ NB217_225.out _; (with_reducible repeat (first | refine blk_drewN ?_ _ | refine blk_drew ?_ | refine blk_alloc ?_ _)); refine blk_far ?_ NB217_225.out _; (with_reducible repeat (first | refine blk_drewN ?_ _ | refine blk_drew ?_ | refine blk_alloc ?_ _)); refine blk_far ?_ NB217_225.out _; (with_reducible repeat (first | refine blk_drewN ?_ _ | refine blk_drew ?_ | refine blk_alloc ?_ _)); exact BK217.out⟩, ⟨by (with_reducible repeat (first | refine blk_drewN ?_ _ | refine blk_drew ?_ | refine blk_alloc ?_ _)); refine blk_far ?_ NB218_225.out _; (with_reducible repeat (first | refine blk_drewN ?_ _ | refine blk_drew ?_ | refine blk_alloc ?_ _)); refine blk_far ?_ NB218_225.out _; (with_reducible repeat (first | refine blk_drewN ?_ _ | refine blk_drew ?_ | refine blk_alloc ?_ _)); refine blk_far ?_ NB218_225.out _; (with_reducible repeat (first | refine blk_drewN ?_ _ | refine blk_drew ?_ | refine blk_alloc ?_ _)); refine blk_far ?_ NB218_225.out _; (with_reducible repeat (first | refine blk_drewN ?_ _ | refine blk_drew ?_ | refine blk_alloc ?_ _)); exact BK218.out⟩, ⟨by (with_reducible repeat (first | refine blk_drewN ?_ _ | refine blk_drew ?_ | refine blk_alloc ?_ _)); refine blk_far ?_ NB219_225.out _; (with_reducible repeat (first | refine blk_drewN ?_ _ | refine blk_drew ?_ | refine blk_alloc ?_ _)); refine blk_far ?_ NB219_225.out _; (with_reducible repeat (first | refine blk_drewN ?_ _ | refine blk_drew ?_ | refine blk_alloc ?_ _)); refine blk_far ?_ NB219_225.out _; (with_reducible repeat (first | refine blk_drewN ?_ _ | refine blk_drew ?_ | refine blk_alloc ?_ _)); refine blk_far ?_ NB219_225.out _; (with_reducible repeat (first | refine blk_drewN ?_ _ | refine blk_drew ?_ | refine blk_alloc ?_ _)); exact BK219.out⟩, ⟨by (with_reducible repeat (first | refine blk_drewN ?_ _ | refine blk_drew ?_ | refine blk_alloc ?_ _)); refine blk_put (cs := #[.int .i64 t221, .int .i64 t222, .int .i64 t223, .int .i64 0]) ?_ 3 _ rfl; (with_reducible repeat (first | refine blk_drewN ?_ _ | refine blk_drew ?_ | refine blk_alloc ?_ _)); refine blk_put (cs := #[.int .i64 t221, .int .i64 t222, .int .i64 0, .int .i64 0]) ?_ 2 _ rfl; (with_reducible repeat (first | refine blk_drewN ?_ _ | refine blk_drew ?_ | refine blk_alloc ?_ _)); refine blk_put (cs := #[.int .i64 t221, .int .i64 0, .int .i64 0, .int .i64 0]) ?_ 1 _ rfl; (with_reducible repeat (first | refine blk_drewN ?_ _ | refine blk_drew ?_ | refine blk_alloc ?_ _)); refine blk_put (cs := #[.int .i64 0, .int .i64 0, .int .i64 0, .int .i64 0]) ?_ 0 _ rfl; (with_reducible repeat (first | refine blk_drewN ?_ _ | refine blk_drew ?_ | refine blk_alloc ?_ _)); exact BK225.out⟩, ⟨by repeat (first | (with_reducible first | exact HB.out | apply below_alloc | apply pw_below_drewN | apply below_drew1 | refine below_set ?_ GE217.out | refine below_set ?_ GE218.out | refine below_set ?_ GE219.out | refine below_set ?_ GE225.out) | exact HB.out)⟩⟩
           ·rw [if_neg c103] at H
            have c103b0 : (t223 == a1_2) = false := beq_eq_false_iff_ne.mpr c103
            have c103b1 : (t223 != a1_2) = true := bne_iff_ne.mpr c103
            have H' := Aside0.mk H
            clear H
            have hnb114 := NB225_217.out
            have hnc114 := NB217_225.out
            have hnb115 := NB225_218.out
            have hnc115 := NB218_225.out
            have hnb116 := NB225_219.out
            have hnc116 := NB219_225.out
            have hcz117_0 : w65.cell? ⟨gb225, 0, none⟩ = some (.int .i64 0) := (blk_cell BK225.out 0).trans rfl
            have hcz117_1 : w65.cell? ⟨gb225, 1, none⟩ = some (.int .i64 0) := (blk_cell BK225.out 1).trans rfl
            have hcz117_2 : w65.cell? ⟨gb225, 2, none⟩ = some (.int .i64 0) := (blk_cell BK225.out 2).trans rfl
            have hcz117_3 : w65.cell? ⟨gb225, 3, none⟩ = some (.int .i64 0) := (blk_cell BK225.out 3).trans rfl
            have hfz117_0 := blk_frozen BK225.out 0
            have hfz117_1 := blk_frozen BK225.out 1
            have hfz117_2 := blk_frozen BK225.out 2
            have hfz117_3 := blk_frozen BK225.out 3
            have hnb118 := NB217_218.out
            have hnc118 := NB218_217.out
            have hnb119 := NB217_219.out
            have hnc119 := NB219_217.out
            have hcz120_0 : w65.cell? ⟨gb217, 0, none⟩ = some (.int .i64 a0_0) := (blk_cell BK217.out 0).trans rfl
            have hcz120_1 : w65.cell? ⟨gb217, 1, none⟩ = some (.int .i64 a0_1) := (blk_cell BK217.out 1).trans rfl
            have hcz120_2 : w65.cell? ⟨gb217, 2, none⟩ = some (.int .i64 a0_2) := (blk_cell BK217.out 2).trans rfl
            have hcz120_3 : w65.cell? ⟨gb217, 3, none⟩ = some (.int .i64 a0_3) := (blk_cell BK217.out 3).trans rfl
            have hfz120_0 := blk_frozen BK217.out 0
            have hfz120_1 := blk_frozen BK217.out 1
            have hfz120_2 := blk_frozen BK217.out 2
            have hfz120_3 := blk_frozen BK217.out 3
            have hnb121 := NB218_219.out
            have hnc121 := NB219_218.out
            have hcz122_0 : w65.cell? ⟨gb218, 0, none⟩ = some (.int .i64 a1_0) := (blk_cell BK218.out 0).trans rfl
            have hcz122_1 : w65.cell? ⟨gb218, 1, none⟩ = some (.int .i64 a1_1) := (blk_cell BK218.out 1).trans rfl
            have hcz122_2 : w65.cell? ⟨gb218, 2, none⟩ = some (.int .i64 a1_2) := (blk_cell BK218.out 2).trans rfl
            have hcz122_3 : w65.cell? ⟨gb218, 3, none⟩ = some (.int .i64 a1_3) := (blk_cell BK218.out 3).trans rfl
            have hfz122_0 := blk_frozen BK218.out 0
            have hfz122_1 := blk_frozen BK218.out 1
            have hfz122_2 := blk_frozen BK218.out 2
            have hfz122_3 := blk_frozen BK218.out 3
            go_wp2
            go_meet
            case rel => exact ⟨_, (true), (by first | rfl | (simp; done) | (simp [*]; done)), H', ⟨by have := HJ5.out; first | omega | exact Nat.le_refl _⟩, ⟨by (with_reducible repeat (first | refine blk_drewN ?_ _ | refine blk_drew ?_ | refine blk_alloc ?_ _)); refine blk_far ?_ NB217_225.out _; (with_reducible repeat (first | refine blk_drewN ?_ _ | refine blk_drew ?_ | refine blk_alloc ?_ _)); refine blk_far ?_ NB217_225.out _; (with_reducible repeat (first | refine blk_drewN ?_ _ | refine blk_drew ?_ | refine blk_alloc ?_ _)); refine blk_far ?_ NB217_225.out _; (with_reducible repeat (first | refine blk_drewN ?_ _ | refine blk_drew ?_ | refine blk_alloc ?_ _)); refine blk_far ?_ NB217_225.out _; (with_reducible repeat (first | refine blk_drewN ?_ _ | refine blk_drew ?_ | refine blk_alloc ?_ _)); exact BK217.out⟩, ⟨by (with_reducible repeat (first | refine blk_drewN ?_ _ | refine blk_drew ?_ | refine blk_alloc ?_ _)); refine blk_far ?_ NB218_225.out _; (with_reducible repeat (first | refine blk_drewN ?_ _ | refine blk_drew ?_ | refine blk_alloc ?_ _)); refine blk_far ?_ NB218_225.out _; (with_reducible repeat (first | refine blk_drewN ?_ _ | refine blk_drew ?_ | refine blk_alloc ?_ _)); refine blk_far ?_ NB218_225.out _; (with_reducible repeat (first | refine blk_drewN ?_ _ | refine blk_drew ?_ | refine blk_alloc ?_ _)); refine blk_far ?_ NB218_225.out _; (with_reducible repeat (first | refine blk_drewN ?_ _ | refine blk_drew ?_ | refine blk_alloc ?_ _)); exact BK218.out⟩, ⟨by (with_reducible repeat (first | refine blk_drewN ?_ _ | refine blk_drew ?_ | refine blk_alloc ?_ _)); refine blk_far ?_ NB219_225.out _; (with_reducible repeat (first | refine blk_drewN ?_ _ | refine blk_drew ?_ | refine blk_alloc ?_ _)); refine blk_far ?_ NB219_225.out _; (with_reducible repeat (first | refine blk_drewN ?_ _ | refine blk_drew ?_ | refine blk_alloc ?_ _)); refine blk_far ?_ NB219_225.out _; (with_reducible repeat (first | refine blk_drewN ?_ _ | refine blk_drew ?_ | refine blk_alloc ?_ _)); refine blk_far ?_ NB219_225.out _; (with_reducible repeat (first | refine blk_drewN ?_ _ | refine blk_drew ?_ | refine blk_alloc ?_ _)); exact BK219.out⟩, ⟨by (with_reducible repeat (first | refine blk_drewN ?_ _ | refine blk_drew ?_ | refine blk_alloc ?_ _)); refine blk_put (cs := #[.int .i64 t221, .int .i64 t222, .int .i64 t223, .int .i64 0]) ?_ 3 _ rfl; (with_reducible repeat (first | refine blk_drewN ?_ _ | refine blk_drew ?_ | refine blk_alloc ?_ _)); refine blk_put (cs := #[.int .i64 t221, .int .i64 t222, .int .i64 0, .int .i64 0]) ?_ 2 _ rfl; (with_reducible repeat (first | refine blk_drewN ?_ _ | refine blk_drew ?_ | refine blk_alloc ?_ _)); refine blk_put (cs := #[.int .i64 t221, .int .i64 0, .int .i64 0, .int .i64 0]) ?_ 1 _ rfl; (with_reducible repeat (first | refine blk_drewN ?_ _ | refine blk_drew ?_ | refine blk_alloc ?_ _)); refine blk_put (cs := #[.int .i64 0, .int .i64 0, .int .i64 0, .int .i64 0]) ?_ 0 _ rfl; (with_reducible repeat (first | refine blk_drewN ?_ _ | refine blk_drew ?_ | refine blk_alloc ?_ _)); exact BK225.out⟩, ⟨by repeat (first | (with_reducible first | exact HB.out | apply below_alloc | apply pw_below_drewN | apply below_drew1 | refine below_set ?_ GE217.out | refine below_set ?_ GE218.out | refine below_set ?_ GE219.out | refine below_set ?_ GE225.out) | exact HB.out)⟩⟩
       ·rw [if_neg c71] at H
        have c71b0 : (t222 == (wrap64 (a0_1 + a1_1))) = false := beq_eq_false_iff_ne.mpr c71
        have c71b1 : (t222 != (wrap64 (a0_1 + a1_1))) = true := bne_iff_ne.mpr c71
        have H' := Aside0.mk H
        clear H
        have hnb123 := NB225_217.out
        have hnc123 := NB217_225.out
        have hnb124 := NB225_218.out
        have hnc124 := NB218_225.out
        have hnb125 := NB225_219.out
        have hnc125 := NB219_225.out
        have hcz126_0 : w65.cell? ⟨gb225, 0, none⟩ = some (.int .i64 0) := (blk_cell BK225.out 0).trans rfl
        have hcz126_1 : w65.cell? ⟨gb225, 1, none⟩ = some (.int .i64 0) := (blk_cell BK225.out 1).trans rfl
        have hcz126_2 : w65.cell? ⟨gb225, 2, none⟩ = some (.int .i64 0) := (blk_cell BK225.out 2).trans rfl
        have hcz126_3 : w65.cell? ⟨gb225, 3, none⟩ = some (.int .i64 0) := (blk_cell BK225.out 3).trans rfl
        have hfz126_0 := blk_frozen BK225.out 0
        have hfz126_1 := blk_frozen BK225.out 1
        have hfz126_2 := blk_frozen BK225.out 2
        have hfz126_3 := blk_frozen BK225.out 3
        have hnb127 := NB217_218.out
        have hnc127 := NB218_217.out
        have hnb128 := NB217_219.out
        have hnc128 := NB219_217.out
        have hcz129_0 : w65.cell? ⟨gb217, 0, none⟩ = some (.int .i64 a0_0) := (blk_cell BK217.out 0).trans rfl
        have hcz129_1 : w65.cell? ⟨gb217, 1, none⟩ = some (.int .i64 a0_1) := (blk_cell BK217.out 1).trans rfl
        have hcz129_2 : w65.cell? ⟨gb217, 2, none⟩ = some (.int .i64 a0_2) := (blk_cell BK217.out 2).trans rfl
        have hcz129_3 : w65.cell? ⟨gb217, 3, none⟩ = some (.int .i64 a0_3) := (blk_cell BK217.out 3).trans rfl
        have hfz129_0 := blk_frozen BK217.out 0
        have hfz129_1 := blk_frozen BK217.out 1
        have hfz129_2 := blk_frozen BK217.out 2
        have hfz129_3 := blk_frozen BK217.out 3
        have hnb130 := NB218_219.out
        have hnc130 := NB219_218.out
        have hcz131_0 : w65.cell? ⟨gb218, 0, none⟩ = some (.int .i64 a1_0) := (blk_cell BK218.out 0).trans rfl
        have hcz131_1 : w65.cell? ⟨gb218, 1, none⟩ = some (.int .i64 a1_1) := (blk_cell BK218.out 1).trans rfl
        have hcz131_2 : w65.cell? ⟨gb218, 2, none⟩ = some (.int .i64 a1_2) := (blk_cell BK218.out 2).trans rfl
        have hcz131_3 : w65.cell? ⟨gb218, 3, none⟩ = some (.int .i64 a1_3) := (blk_cell BK218.out 3).trans rfl
        have hfz131_0 := blk_frozen BK218.out 0
        have hfz131_1 := blk_frozen BK218.out 1
        have hfz131_2 := blk_frozen BK218.out 2
        have hfz131_3 := blk_frozen BK218.out 3
        go_wp2
        go_meet
        case rel => exact ⟨_, (true), (by first | rfl | (simp; done) | (simp [*]; done)), H', ⟨by have := HJ5.out; first | omega | exact Nat.le_refl _⟩, ⟨by (with_reducible repeat (first | refine blk_drewN ?_ _ | refine blk_drew ?_ | refine blk_alloc ?_ _)); refine blk_far ?_ NB217_225.out _; (with_reducible repeat (first | refine blk_drewN ?_ _ | refine blk_drew ?_ | refine blk_alloc ?_ _)); refine blk_far ?_ NB217_225.out _; (with_reducible repeat (first | refine blk_drewN ?_ _ | refine blk_drew ?_ | refine blk_alloc ?_ _)); refine blk_far ?_ NB217_225.out _; (with_reducible repeat (first | refine blk_drewN ?_ _ | refine blk_drew ?_ | refine blk_alloc ?_ _)); refine blk_far ?_ NB217_225.out _; (with_reducible repeat (first | refine blk_drewN ?_ _ | refine blk_drew ?_ | refine blk_alloc ?_ _)); exact BK217.out⟩, ⟨by (with_reducible repeat (first | refine blk_drewN ?_ _ | refine blk_drew ?_ | refine blk_alloc ?_ _)); refine blk_far ?_ NB218_225.out _; (with_reducible repeat (first | refine blk_drewN ?_ _ | refine blk_drew ?_ | refine blk_alloc ?_ _)); refine blk_far ?_ NB218_225.out _; (with_reducible repeat (first | refine blk_drewN ?_ _ | refine blk_drew ?_ | refine blk_alloc ?_ _)); refine blk_far ?_ NB218_225.out _; (with_reducible repeat (first | refine blk_drewN ?_ _ | refine blk_drew ?_ | refine blk_alloc ?_ _)); refine blk_far ?_ NB218_225.out _; (with_reducible repeat (first | refine blk_drewN ?_ _ | refine blk_drew ?_ | refine blk_alloc ?_ _)); exact BK218.out⟩, ⟨by (with_reducible repeat (first | refine blk_drewN ?_ _ | refine blk_drew ?_ | refine blk_alloc ?_ _)); refine blk_far ?_ NB219_225.out _; (with_reducible repeat (first | refine blk_drewN ?_ _ | refine blk_drew ?_ | refine blk_alloc ?_ _)); refine blk_far ?_ NB219_225.out _; (with_reducible repeat (first | refine blk_drewN ?_ _ | refine blk_drew ?_ | refine blk_alloc ?_ _)); refine blk_far ?_ NB219_225.out _; (with_reducible repeat (first | refine blk_drewN ?_ _ | refine blk_drew ?_ | refine blk_alloc ?_ _)); refine blk_far ?_ NB219_225.out _; (with_reducible repeat (first | refine blk_drewN ?_ _ | refine blk_drew ?_ | refine blk_alloc ?_ _)); exact BK219.out⟩, ⟨by (with_reducible repeat (first | refine blk_drewN ?_ _ | refine blk_drew ?_ | refine blk_alloc ?_ _)); refine blk_put (cs := #[.int .i64 t221, .int .i64 t222, .int .i64 t223, .int .i64 0]) ?_ 3 _ rfl; (with_reducible repeat (first | refine blk_drewN ?_ _ | refine blk_drew ?_ | refine blk_alloc ?_ _)); refine blk_put (cs := #[.int .i64 t221, .int .i64 t222, .int .i64 0, .int .i64 0]) ?_ 2 _ rfl; (with_reducible repeat (first | refine blk_drewN ?_ _ | refine blk_drew ?_ | refine blk_alloc ?_ _)); refine blk_put (cs := #[.int .i64 t221, .int .i64 0, .int .i64 0, .int .i64 0]) ?_ 1 _ rfl; (with_reducible repeat (first | refine blk_drewN ?_ _ | refine blk_drew ?_ | refine blk_alloc ?_ _)); refine blk_put (cs := #[.int .i64 0, .int .i64 0, .int .i64 0, .int .i64 0]) ?_ 0 _ rfl; (with_reducible repeat (first | refine blk_drewN ?_ _ | refine blk_drew ?_ | refine blk_alloc ?_ _)); exact BK225.out⟩, ⟨by repeat (first | (with_reducible first | exact HB.out | apply below_alloc | apply pw_below_drewN | apply below_drew1 | refine below_set ?_ GE217.out | refine below_set ?_ GE218.out | refine below_set ?_ GE219.out | refine below_set ?_ GE225.out) | exact HB.out)⟩⟩
      ·rw [if_neg c70] at H
       have c70b0 : (t221 == (wrap64 (a0_0 + a1_0))) = false := beq_eq_false_iff_ne.mpr c70
       have c70b1 : (t221 != (wrap64 (a0_0 + a1_0))) = true := bne_iff_ne.mpr c70
       (first | rw [c70b0] | (simp only [i64_w, i32_w]; rw [c70b0]) | skip)
       have H' := Aside0.mk H
       clear H
       have hnb132 := NB225_217.out
       have hnc132 := NB217_225.out
       have hnb133 := NB225_218.out
       have hnc133 := NB218_225.out
       have hnb134 := NB225_219.out
       have hnc134 := NB219_225.out
       have hcz135_0 : w65.cell? ⟨gb225, 0, none⟩ = some (.int .i64 0) := (blk_cell BK225.out 0).trans rfl
       have hcz135_1 : w65.cell? ⟨gb225, 1, none⟩ = some (.int .i64 0) := (blk_cell BK225.out 1).trans rfl
       have hcz135_2 : w65.cell? ⟨gb225, 2, none⟩ = some (.int .i64 0) := (blk_cell BK225.out 2).trans rfl
       have hcz135_3 : w65.cell? ⟨gb225, 3, none⟩ = some (.int .i64 0) := (blk_cell BK225.out 3).trans rfl
       have hfz135_0 := blk_frozen BK225.out 0
       have hfz135_1 := blk_frozen BK225.out 1
       have hfz135_2 := blk_frozen BK225.out 2
       have hfz135_3 := blk_frozen BK225.out 3
       have hnb136 := NB217_218.out
       have hnc136 := NB218_217.out
       have hnb137 := NB217_219.out
       have hnc137 := NB219_217.out
       have hcz138_0 : w65.cell? ⟨gb217, 0, none⟩ = some (.int .i64 a0_0) := (blk_cell BK217.out 0).trans rfl
       have hcz138_1 : w65.cell? ⟨gb217, 1, none⟩ = some (.int .i64 a0_1) := (blk_cell BK217.out 1).trans rfl
       have hcz138_2 : w65.cell? ⟨gb217, 2, none⟩ = some (.int .i64 a0_2) := (blk_cell BK217.out 2).trans rfl
       have hcz138_3 : w65.cell? ⟨gb217, 3, none⟩ = some (.int .i64 a0_3) := (blk_cell BK217.out 3).trans rfl
       have hfz138_0 := blk_frozen BK217.out 0
       have hfz138_1 := blk_frozen BK217.out 1
       have hfz138_2 := blk_frozen BK217.out 2
       have hfz138_3 := blk_frozen BK217.out 3
       have hnb139 := NB218_219.out
       have hnc139 := NB219_218.out
       have hcz140_0 : w65.cell? ⟨gb218, 0, none⟩ = some (.int .i64 a1_0) := (blk_cell BK218.out 0).trans rfl
       have hcz140_1 : w65.cell? ⟨gb218, 1, none⟩ = some (.int .i64 a1_1) := (blk_cell BK218.out 1).trans rfl
       have hcz140_2 : w65.cell? ⟨gb218, 2, none⟩ = some (.int .i64 a1_2) := (blk_cell BK218.out 2).trans rfl
       have hcz140_3 : w65.cell? ⟨gb218, 3, none⟩ = some (.int .i64 a1_3) := (blk_cell BK218.out 3).trans rfl
       have hfz140_0 := blk_frozen BK218.out 0
       have hfz140_1 := blk_frozen BK218.out 1
       have hfz140_2 := blk_frozen BK218.out 2
       have hfz140_3 := blk_frozen BK218.out 3
       go_wp2
       go_meet
       case rel => exact ⟨_, (true), (by first | rfl | (simp; done) | (simp [*]; done)), H', ⟨by have := HJ5.out; first | omega | exact Nat.le_refl _⟩, ⟨by (with_reducible repeat (first | refine blk_drewN ?_ _ | refine blk_drew ?_ | refine blk_alloc ?_ _)); refine blk_far ?_ NB217_225.out _; (with_reducible repeat (first | refine blk_drewN ?_ _ | refine blk_drew ?_ | refine blk_alloc ?_ _)); refine blk_far ?_ NB217_225.out _; (with_reducible repeat (first | refine blk_drewN ?_ _ | refine blk_drew ?_ | refine blk_alloc ?_ _)); refine blk_far ?_ NB217_225.out _; (with_reducible repeat (first | refine blk_drewN ?_ _ | refine blk_drew ?_ | refine blk_alloc ?_ _)); refine blk_far ?_ NB217_225.out _; (with_reducible repeat (first | refine blk_drewN ?_ _ | refine blk_drew ?_ | refine blk_alloc ?_ _)); exact BK217.out⟩, ⟨by (with_reducible repeat (first | refine blk_drewN ?_ _ | refine blk_drew ?_ | refine blk_alloc ?_ _)); refine blk_far ?_ NB218_225.out _; (with_reducible repeat (first | refine blk_drewN ?_ _ | refine blk_drew ?_ | refine blk_alloc ?_ _)); refine blk_far ?_ NB218_225.out _; (with_reducible repeat (first | refine blk_drewN ?_ _ | refine blk_drew ?_ | refine blk_alloc ?_ _)); refine blk_far ?_ NB218_225.out _; (with_reducible repeat (first | refine blk_drewN ?_ _ | refine blk_drew ?_ | refine blk_alloc ?_ _)); refine blk_far ?_ NB218_225.out _; (with_reducible repeat (first | refine blk_drewN ?_ _ | refine blk_drew ?_ | refine blk_alloc ?_ _)); exact BK218.out⟩, ⟨by (with_reducible repeat (first | refine blk_drewN ?_ _ | refine blk_drew ?_ | refine blk_alloc ?_ _)); refine blk_far ?_ NB219_225.out _; (with_reducible repeat (first | refine blk_drewN ?_ _ | refine blk_drew ?_ | refine blk_alloc ?_ _)); refine blk_far ?_ NB219_225.out _; (with_reducible repeat (first | refine blk_drewN ?_ _ | refine blk_drew ?_ | refine blk_alloc ?_ _)); refine blk_far ?_ NB219_225.out _; (with_reducible repeat (first | refine blk_drewN ?_ _ | refine blk_drew ?_ | refine blk_alloc ?_ _)); refine blk_far ?_ NB219_225.out _; (with_reducible repeat (first | refine blk_drewN ?_ _ | refine blk_drew ?_ | refine blk_alloc ?_ _)); exact BK219.out⟩, ⟨by (with_reducible repeat (first | refine blk_drewN ?_ _ | refine blk_drew ?_ | refine blk_alloc ?_ _)); refine blk_put (cs := #[.int .i64 t221, .int .i64 t222, .int .i64 t223, .int .i64 0]) ?_ 3 _ rfl; (with_reducible repeat (first | refine blk_drewN ?_ _ | refine blk_drew ?_ | refine blk_alloc ?_ _)); refine blk_put (cs := #[.int .i64 t221, .int .i64 t222, .int .i64 0, .int .i64 0]) ?_ 2 _ rfl; (with_reducible repeat (first | refine blk_drewN ?_ _ | refine blk_drew ?_ | refine blk_alloc ?_ _)); refine blk_put (cs := #[.int .i64 t221, .int .i64 0, .int .i64 0, .int .i64 0]) ?_ 1 _ rfl; (with_reducible repeat (first | refine blk_drewN ?_ _ | refine blk_drew ?_ | refine blk_alloc ?_ _)); refine blk_put (cs := #[.int .i64 0, .int .i64 0, .int .i64 0, .int .i64 0]) ?_ 0 _ rfl; (with_reducible repeat (first | refine blk_drewN ?_ _ | refine blk_drew ?_ | refine blk_alloc ?_ _)); exact BK225.out⟩, ⟨by repeat (first | (with_reducible first | exact HB.out | apply below_alloc | apply pw_below_drewN | apply below_drew1 | refine below_set ?_ GE217.out | refine below_set ?_ GE218.out | refine below_set ?_ GE219.out | refine below_set ?_ GE225.out) | exact HB.out)⟩⟩
     case rest =>
      clear HC58
      try clear c1
      try clear c2
      try clear p2
      try clear c3
      try clear c4
      try clear c5
      try clear c6
      try clear p6
      try clear c7
      try clear c8
      try clear c9
      try clear c10
      try clear c11
      try clear c11b0
      try clear c12
      try clear c13
      try clear c15
      try clear c15b0
      try clear c16
      try clear c17
      try clear c19
      try clear c21
      try clear c21b0
      try clear c22
      try clear c23
      try clear c25
      try clear c27
      try clear c27b0
      try clear c28
      try clear c29
      try clear c31
      try clear c33
      try clear c33b0
      try clear c34
      try clear c35
      try clear c37
      try clear c39
      try clear c39b0
      try clear c40
      try clear c41
      try clear c43
      try clear c45
      try clear c45b0
      try clear c46
      try clear c47
      try clear c49
      try clear c51
      try clear c52
      try clear c54
      try clear c56
      try clear c59
      try clear c60
      try clear c62
      try clear p64
      try clear c66
      try clear c67
      try clear c68
      try clear c70
      try clear c70b0
      try clear c70b1
      try clear c71
      try clear c71b0
      try clear c71b1
      try clear c72
      try clear c72b0
      try clear c73
      try clear c74
      try clear c75
      try clear c77
      try clear c78
      try clear c80
      try clear c82
      try clear c82b0
      try clear c83
      try clear c84
      try clear c85
      try clear c87
      try clear c88
      try clear c90
      try clear c92
      try clear c92b0
      try clear c92b1
      try clear c94
      try clear c95
      try clear c96
      try clear c98
      try clear c99
      try clear c101
      try clear c103
      try clear c103b0
      try clear c103b1
      try clear c105
      try clear c106
      try clear c107
      try clear c109
      try clear c110
      try clear c112
      try clear c114
      try clear c115
      try clear c116
      try clear c118
      try clear c119
      try clear c121
      try clear c123
      try clear c124
      try clear c125
      try clear c127
      try clear c128
      try clear c130
      try clear c132
      try clear c133
      try clear c134
      try clear c136
      try clear c137
      try clear c139
      try clear hcz100_0
      try clear hcz100_1
      try clear hcz100_2
      try clear hcz100_3
      try clear hcz102_0
      try clear hcz102_1
      try clear hcz102_2
      try clear hcz102_3
      try clear hcz108_0
      try clear hcz108_1
      try clear hcz108_2
      try clear hcz108_3
      try clear hcz111_0
      try clear hcz111_1
      try clear hcz111_2
      try clear hcz111_3
      try clear hcz113_0
      try clear hcz113_1
      try clear hcz113_2
      try clear hcz113_3
      try clear hcz117_0
      try clear hcz117_1
      try clear hcz117_2
      try clear hcz117_3
      try clear hcz120_0
      try clear hcz120_1
      try clear hcz120_2
      try clear hcz120_3
      try clear hcz122_0
      try clear hcz122_1
      try clear hcz122_2
      try clear hcz122_3
      try clear hcz126_0
      try clear hcz126_1
      try clear hcz126_2
      try clear hcz126_3
      try clear hcz129_0
      try clear hcz129_1
      try clear hcz129_2
      try clear hcz129_3
      try clear hcz131_0
      try clear hcz131_1
      try clear hcz131_2
      try clear hcz131_3
      try clear hcz135_0
      try clear hcz135_1
      try clear hcz135_2
      try clear hcz135_3
      try clear hcz138_0
      try clear hcz138_1
      try clear hcz138_2
      try clear hcz138_3
      try clear hcz140_0
      try clear hcz140_1
      try clear hcz140_2
      try clear hcz140_3
      try clear hcz14_0
      try clear hcz14_1
      try clear hcz14_2
      try clear hcz14_3
      try clear hcz18_0
      try clear hcz18_1
      try clear hcz18_2
      try clear hcz18_3
      try clear hcz20_0
      try clear hcz20_1
      try clear hcz20_2
      try clear hcz20_3
      try clear hcz24_0
      try clear hcz24_1
      try clear hcz24_2
      try clear hcz24_3
      try clear hcz26_0
      try clear hcz26_1
      try clear hcz26_2
      try clear hcz26_3
      try clear hcz30_0
      try clear hcz30_1
      try clear hcz30_2
      try clear hcz30_3
      try clear hcz32_0
      try clear hcz32_1
      try clear hcz32_2
      try clear hcz32_3
      try clear hcz36_0
      try clear hcz36_1
      try clear hcz36_2
      try clear hcz36_3
      try clear hcz38_0
      try clear hcz38_1
      try clear hcz38_2
      try clear hcz38_3
      try clear hcz42_0
      try clear hcz42_1
      try clear hcz42_2
      try clear hcz42_3
      try clear hcz44_0
      try clear hcz44_1
      try clear hcz44_2
      try clear hcz44_3
      try clear hcz48_0
      try clear hcz48_1
      try clear hcz48_2
      try clear hcz48_3
      try clear hcz50_0
      try clear hcz50_1
      try clear hcz50_2
      try clear hcz50_3
      try clear hcz53_0
      try clear hcz53_1
      try clear hcz53_2
      try clear hcz53_3
      try clear hcz55_0
      try clear hcz55_1
      try clear hcz55_2
      try clear hcz55_3
      try clear hcz61_0
      try clear hcz61_1
      try clear hcz61_2
      try clear hcz61_3
      try clear hcz63_0
      try clear hcz63_1
      try clear hcz63_2
      try clear hcz63_3
      try clear hcz69_0
      try clear hcz69_1
      try clear hcz69_2
      try clear hcz69_3
      try clear hcz76_0
      try clear hcz76_1
      try clear hcz76_2
      try clear hcz76_3
      try clear hcz79_0
      try clear hcz79_1
      try clear hcz79_2
      try clear hcz79_3
      try clear hcz81_0
      try clear hcz81_1
      try clear hcz81_2
      try clear hcz81_3
      try clear hcz86_0
      try clear hcz86_1
      try clear hcz86_2
      try clear hcz86_3
      try clear hcz89_0
      try clear hcz89_1
      try clear hcz89_2
      try clear hcz89_3
      try clear hcz91_0
      try clear hcz91_1
      try clear hcz91_2
      try clear hcz91_3
      try clear hcz97_0
      try clear hcz97_1
      try clear hcz97_2
      try clear hcz97_3
      try clear hfz100_0
      try clear hfz100_1
      try clear hfz100_2
      try clear hfz100_3
      try clear hfz102_0
      try clear hfz102_1
      try clear hfz102_2
      try clear hfz102_3
      try clear hfz108_0
      try clear hfz108_1
      try clear hfz108_2
      try clear hfz108_3
      try clear hfz111_0
      try clear hfz111_1
      try clear hfz111_2
      try clear hfz111_3
      try clear hfz113_0
      try clear hfz113_1
      try clear hfz113_2
      try clear hfz113_3
      try clear hfz117_0
      try clear hfz117_1
      try clear hfz117_2
      try clear hfz117_3
      try clear hfz120_0
      try clear hfz120_1
      try clear hfz120_2
      try clear hfz120_3
      try clear hfz122_0
      try clear hfz122_1
      try clear hfz122_2
      try clear hfz122_3
      try clear hfz126_0
      try clear hfz126_1
      try clear hfz126_2
      try clear hfz126_3
      try clear hfz129_0
      try clear hfz129_1
      try clear hfz129_2
      try clear hfz129_3
      try clear hfz131_0
      try clear hfz131_1
      try clear hfz131_2
      try clear hfz131_3
      try clear hfz135_0
      try clear hfz135_1
      try clear hfz135_2
      try clear hfz135_3
      try clear hfz138_0
      try clear hfz138_1
      try clear hfz138_2
      try clear hfz138_3
      try clear hfz140_0
      try clear hfz140_1
      try clear hfz140_2
      try clear hfz140_3
      try clear hfz14_0
      try clear hfz14_1
      try clear hfz14_2
      try clear hfz14_3
      try clear hfz18_0
      try clear hfz18_1
      try clear hfz18_2
      try clear hfz18_3
      try clear hfz20_0
      try clear hfz20_1
      try clear hfz20_2
      try clear hfz20_3
      try clear hfz24_0
      try clear hfz24_1
      try clear hfz24_2
      try clear hfz24_3
      try clear hfz26_0
      try clear hfz26_1
      try clear hfz26_2
      try clear hfz26_3
      try clear hfz30_0
      try clear hfz30_1
      try clear hfz30_2
      try clear hfz30_3
      try clear hfz32_0
      try clear hfz32_1
      try clear hfz32_2
      try clear hfz32_3
      try clear hfz36_0
      try clear hfz36_1
      try clear hfz36_2
      try clear hfz36_3
      try clear hfz38_0
      try clear hfz38_1
      try clear hfz38_2
      try clear hfz38_3
      try clear hfz42_0
      try clear hfz42_1
      try clear hfz42_2
      try clear hfz42_3
      try clear hfz44_0
      try clear hfz44_1
      try clear hfz44_2
      try clear hfz44_3
      try clear hfz48_0
      try clear hfz48_1
      try clear hfz48_2
      try clear hfz48_3
      try clear hfz50_0
      try clear hfz50_1
      try clear hfz50_2
      try clear hfz50_3
      try clear hfz53_0
      try clear hfz53_1
      try clear hfz53_2
      try clear hfz53_3
      try clear hfz55_0
      try clear hfz55_1
      try clear hfz55_2
      try clear hfz55_3
      try clear hfz61_0
      try clear hfz61_1
      try clear hfz61_2
      try clear hfz61_3
      try clear hfz63_0
      try clear hfz63_1
      try clear hfz63_2
      try clear hfz63_3
      try clear hfz69_0
      try clear hfz69_1
      try clear hfz69_2
      try clear hfz69_3
      try clear hfz76_0
      try clear hfz76_1
      try clear hfz76_2
      try clear hfz76_3
      try clear hfz79_0
      try clear hfz79_1
      try clear hfz79_2
      try clear hfz79_3
      try clear hfz81_0
      try clear hfz81_1
      try clear hfz81_2
      try clear hfz81_3
      try clear hfz86_0
      try clear hfz86_1
      try clear hfz86_2
      try clear hfz86_3
      try clear hfz89_0
      try clear hfz89_1
      try clear hfz89_2
      try clear hfz89_3
      try clear hfz91_0
      try clear hfz91_1
      try clear hfz91_2
      try clear hfz91_3
      try clear hfz97_0
      try clear hfz97_1
      try clear hfz97_2
      try clear hfz97_3
      try clear p2
      obtain ⟨kq, x107_57, rfl, HA, HJ57, BK217, BK218, BK219, BK225, HB⟩ := hcut
      cases kq with
      | zero => exact absurd HA.out (by simp [pannierlaw14_UsageFits.j1])
      | succ kj57 =>
       have H := HA.out
       clear HA
       simp only [pannierlaw14_UsageFits.j1] at H
       by_cases c141 : x107_57 = true
       ·subst c141
        have H1 : (some false) = some r := by rw [if_pos rfl] at H; exact H
        clear H
        have H := H1
        clear H1
        obtain rfl := Option.some.inj H
        go_wp2
        all_goals (go_ret; exact ⟨by first | rfl | (simp [errW_none, errW_some] <;> rfl) | (simp [*, errW_none, errW_some] <;> rfl), by repeat (first | (with_reducible first | exact HB.out | apply below_alloc | apply pw_below_drewN | apply below_drew1 | refine below_set ?_ GE217.out | refine below_set ?_ GE218.out | refine below_set ?_ GE219.out | refine below_set ?_ GE225.out) | exact HB.out)⟩)
       ·replace c141 := Bool.eq_false_iff.mpr c141
        subst c141
        have H1 : (if a0_0 ≤ a2_0 then (if a0_1 ≤ a2_1 then (if a0_2 ≤ a2_2 then (pannierlaw14_UsageFits.j2 kj57 (decide (a0_3 ≤ a2_3)) a0_0 a0_1 a0_2 a0_3 a1_0 a1_1 a1_2 a1_3 a2_0 a2_1 a2_2 a2_3 a2_4 a2_5 a2_6 t221 t222 t223 t224) else (pannierlaw14_UsageFits.j2 kj57 false a0_0 a0_1 a0_2 a0_3 a1_0 a1_1 a1_2 a1_3 a2_0 a2_1 a2_2 a2_3 a2_4 a2_5 a2_6 t221 t222 t223 t224)) else (pannierlaw14_UsageFits.j2 kj57 false a0_0 a0_1 a0_2 a0_3 a1_0 a1_1 a1_2 a1_3 a2_0 a2_1 a2_2 a2_3 a2_4 a2_5 a2_6 t221 t222 t223 t224)) else (pannierlaw14_UsageFits.j2 kj57 false a0_0 a0_1 a0_2 a0_3 a1_0 a1_1 a1_2 a1_3 a2_0 a2_1 a2_2 a2_3 a2_4 a2_5 a2_6 t221 t222 t223 t224)) = some r := by rw [if_neg (show ¬ (false = true) by decide)] at H; exact H
        clear H
        have H := H1
        clear H1
        have HC142 := Aside0.mk H
        clear H
        go_upto_region 8 with (fail)
        go_cut [8] (fun v8 wc => ∃ (kq : Nat) (x8_141 : Bool), v8 = .bool x8_141 ∧ Aside0 (pannierlaw14_UsageFits.j2 kq x8_141 a0_0 a0_1 a0_2 a0_3 a1_0 a1_1 a1_2 a1_3 a2_0 a2_1 a2_2 a2_3 a2_4 a2_5 a2_6 t221 t222 t223 t224 = some r) ∧ Aside0 (kq ≤ kj57) ∧ Aside0 (wc.heap[gb217]? = some (.cells #[.int .i64 a0_0, .int .i64 a0_1, .int .i64 a0_2, .int .i64 a0_3] 23 (0, 0))) ∧ Aside0 (wc.heap[gb218]? = some (.cells #[.int .i64 a1_0, .int .i64 a1_1, .int .i64 a1_2, .int .i64 a1_3] 23 (0, 0))) ∧ Aside0 (wc.heap[gb219]? = some (.cells #[.int .i64 a2_0, .int .i64 a2_1, .int .i64 a2_2, .int .i64 a2_3, .int .i64 a2_4, .int .i64 a2_5, .int .i64 a2_6] 29 (0, 0))) ∧ Aside0 (wc.heap[gb225]? = some (.cells #[.int .i64 t221, .int .i64 t222, .int .i64 t223, .int .i64 t224] 23 (0, 0))) ∧ Aside0 (Below w.heap.size w wc))
        case first =>
         have H := HC142.out
         clear HC142
         by_cases c143 : a0_0 ≤ a2_0
         ·rw [if_pos c143] at H
          have c143b0 : decide (a0_0 ≤ a2_0) = true := decide_eq_true c143
          clear c143
          (first | rw [c143b0] | (simp only [i64_w, i32_w]; rw [c143b0]) | skip)
          by_cases c144 : a0_1 ≤ a2_1
          ·rw [if_pos c144] at H
           have c144b0 : decide (a0_1 ≤ a2_1) = true := decide_eq_true c144
           clear c144
           by_cases c145 : a0_2 ≤ a2_2
           ·rw [if_pos c145] at H
            have c145b0 : decide (a0_2 ≤ a2_2) = true := decide_eq_true c145
            clear c145
            have H' := Aside0.mk H
            clear H
            have hnb146 := NB217_218.out
            have hnc146 := NB218_217.out
            have hnb147 := NB217_219.out
            have hnc147 := NB219_217.out
            have hnb148 := NB217_225.out
            have hnc148 := NB225_217.out
            have hcz149_0 : wc.cell? ⟨gb217, 0, none⟩ = some (.int .i64 a0_0) := (blk_cell BK217.out 0).trans rfl
            have hcz149_1 : wc.cell? ⟨gb217, 1, none⟩ = some (.int .i64 a0_1) := (blk_cell BK217.out 1).trans rfl
            have hcz149_2 : wc.cell? ⟨gb217, 2, none⟩ = some (.int .i64 a0_2) := (blk_cell BK217.out 2).trans rfl
            have hcz149_3 : wc.cell? ⟨gb217, 3, none⟩ = some (.int .i64 a0_3) := (blk_cell BK217.out 3).trans rfl
            have hfz149_0 := blk_frozen BK217.out 0
            have hfz149_1 := blk_frozen BK217.out 1
            have hfz149_2 := blk_frozen BK217.out 2
            have hfz149_3 := blk_frozen BK217.out 3
            have hnb150 := NB219_218.out
            have hnc150 := NB218_219.out
            have hnb151 := NB219_225.out
            have hnc151 := NB225_219.out
            have hcz152_0 : wc.cell? ⟨gb219, 0, none⟩ = some (.int .i64 a2_0) := (blk_cell BK219.out 0).trans rfl
            have hcz152_1 : wc.cell? ⟨gb219, 1, none⟩ = some (.int .i64 a2_1) := (blk_cell BK219.out 1).trans rfl
            have hcz152_2 : wc.cell? ⟨gb219, 2, none⟩ = some (.int .i64 a2_2) := (blk_cell BK219.out 2).trans rfl
            have hcz152_3 : wc.cell? ⟨gb219, 3, none⟩ = some (.int .i64 a2_3) := (blk_cell BK219.out 3).trans rfl
            have hcz152_4 : wc.cell? ⟨gb219, 4, none⟩ = some (.int .i64 a2_4) := (blk_cell BK219.out 4).trans rfl
            have hcz152_5 : wc.cell? ⟨gb219, 5, none⟩ = some (.int .i64 a2_5) := (blk_cell BK219.out 5).trans rfl
            have hcz152_6 : wc.cell? ⟨gb219, 6, none⟩ = some (.int .i64 a2_6) := (blk_cell BK219.out 6).trans rfl
            have hfz152_0 := blk_frozen BK219.out 0
            have hfz152_1 := blk_frozen BK219.out 1
            have hfz152_2 := blk_frozen BK219.out 2
            have hfz152_3 := blk_frozen BK219.out 3
            have hfz152_4 := blk_frozen BK219.out 4
            have hfz152_5 := blk_frozen BK219.out 5
            have hfz152_6 := blk_frozen BK219.out 6
            go_wp2
            go_meet
            case rel => exact ⟨_, (decide (a0_3 ≤ a2_3)), (by first | rfl | (simp; done) | (simp [*]; done)), H', ⟨by have := HJ5.out; have := HJ57.out; first | omega | exact Nat.le_refl _⟩, ⟨by (with_reducible repeat (first | refine blk_drewN ?_ _ | refine blk_drew ?_ | refine blk_alloc ?_ _)); exact BK217.out⟩, ⟨by (with_reducible repeat (first | refine blk_drewN ?_ _ | refine blk_drew ?_ | refine blk_alloc ?_ _)); exact BK218.out⟩, ⟨by (with_reducible repeat (first | refine blk_drewN ?_ _ | refine blk_drew ?_ | refine blk_alloc ?_ _)); exact BK219.out⟩, ⟨by (with_reducible repeat (first | refine blk_drewN ?_ _ | refine blk_drew ?_ | refine blk_alloc ?_ _)); exact BK225.out⟩, ⟨by repeat (first | (with_reducible first | exact HB.out | apply below_alloc | apply pw_below_drewN | apply below_drew1 | refine below_set ?_ GE217.out | refine below_set ?_ GE218.out | refine below_set ?_ GE219.out | refine below_set ?_ GE225.out) | exact HB.out)⟩⟩
           ·rw [if_neg c145] at H
            have c145b0 : decide (a0_2 ≤ a2_2) = false := decide_eq_false c145
            clear c145
            have H' := Aside0.mk H
            clear H
            have hnb153 := NB217_218.out
            have hnc153 := NB218_217.out
            have hnb154 := NB217_219.out
            have hnc154 := NB219_217.out
            have hnb155 := NB217_225.out
            have hnc155 := NB225_217.out
            have hcz156_0 : wc.cell? ⟨gb217, 0, none⟩ = some (.int .i64 a0_0) := (blk_cell BK217.out 0).trans rfl
            have hcz156_1 : wc.cell? ⟨gb217, 1, none⟩ = some (.int .i64 a0_1) := (blk_cell BK217.out 1).trans rfl
            have hcz156_2 : wc.cell? ⟨gb217, 2, none⟩ = some (.int .i64 a0_2) := (blk_cell BK217.out 2).trans rfl
            have hcz156_3 : wc.cell? ⟨gb217, 3, none⟩ = some (.int .i64 a0_3) := (blk_cell BK217.out 3).trans rfl
            have hfz156_0 := blk_frozen BK217.out 0
            have hfz156_1 := blk_frozen BK217.out 1
            have hfz156_2 := blk_frozen BK217.out 2
            have hfz156_3 := blk_frozen BK217.out 3
            have hnb157 := NB219_218.out
            have hnc157 := NB218_219.out
            have hnb158 := NB219_225.out
            have hnc158 := NB225_219.out
            have hcz159_0 : wc.cell? ⟨gb219, 0, none⟩ = some (.int .i64 a2_0) := (blk_cell BK219.out 0).trans rfl
            have hcz159_1 : wc.cell? ⟨gb219, 1, none⟩ = some (.int .i64 a2_1) := (blk_cell BK219.out 1).trans rfl
            have hcz159_2 : wc.cell? ⟨gb219, 2, none⟩ = some (.int .i64 a2_2) := (blk_cell BK219.out 2).trans rfl
            have hcz159_3 : wc.cell? ⟨gb219, 3, none⟩ = some (.int .i64 a2_3) := (blk_cell BK219.out 3).trans rfl
            have hcz159_4 : wc.cell? ⟨gb219, 4, none⟩ = some (.int .i64 a2_4) := (blk_cell BK219.out 4).trans rfl
            have hcz159_5 : wc.cell? ⟨gb219, 5, none⟩ = some (.int .i64 a2_5) := (blk_cell BK219.out 5).trans rfl
            have hcz159_6 : wc.cell? ⟨gb219, 6, none⟩ = some (.int .i64 a2_6) := (blk_cell BK219.out 6).trans rfl
            have hfz159_0 := blk_frozen BK219.out 0
            have hfz159_1 := blk_frozen BK219.out 1
            have hfz159_2 := blk_frozen BK219.out 2
            have hfz159_3 := blk_frozen BK219.out 3
            have hfz159_4 := blk_frozen BK219.out 4
            have hfz159_5 := blk_frozen BK219.out 5
            have hfz159_6 := blk_frozen BK219.out 6
            go_wp2
            go_meet
            case rel => exact ⟨_, (false), (by first | rfl | (simp; done) | (simp [*]; done)), H', ⟨by have := HJ5.out; have := HJ57.out; first | omega | exact Nat.le_refl _⟩, ⟨by (with_reducible repeat (first | refine blk_drewN ?_ _ | refine blk_drew ?_ | refine blk_alloc ?_ _)); exact BK217.out⟩, ⟨by (with_reducible repeat (first | refine blk_drewN ?_ _ | refine blk_drew ?_ | refine blk_alloc ?_ _)); exact BK218.out⟩, ⟨by (with_reducible repeat (first | refine blk_drewN ?_ _ | refine blk_drew ?_ | refine blk_alloc ?_ _)); exact BK219.out⟩, ⟨by (with_reducible repeat (first | refine blk_drewN ?_ _ | refine blk_drew ?_ | refine blk_alloc ?_ _)); exact BK225.out⟩, ⟨by repeat (first | (with_reducible first | exact HB.out | apply below_alloc | apply pw_below_drewN | apply below_drew1 | refine below_set ?_ GE217.out | refine below_set ?_ GE218.out | refine below_set ?_ GE219.out | refine below_set ?_ GE225.out) | exact HB.out)⟩⟩
          ·rw [if_neg c144] at H
           have c144b0 : decide (a0_1 ≤ a2_1) = false := decide_eq_false c144
           clear c144
           have H' := Aside0.mk H
           clear H
           have hnb160 := NB217_218.out
           have hnc160 := NB218_217.out
           have hnb161 := NB217_219.out
           have hnc161 := NB219_217.out
           have hnb162 := NB217_225.out
           have hnc162 := NB225_217.out
           have hcz163_0 : wc.cell? ⟨gb217, 0, none⟩ = some (.int .i64 a0_0) := (blk_cell BK217.out 0).trans rfl
           have hcz163_1 : wc.cell? ⟨gb217, 1, none⟩ = some (.int .i64 a0_1) := (blk_cell BK217.out 1).trans rfl
           have hcz163_2 : wc.cell? ⟨gb217, 2, none⟩ = some (.int .i64 a0_2) := (blk_cell BK217.out 2).trans rfl
           have hcz163_3 : wc.cell? ⟨gb217, 3, none⟩ = some (.int .i64 a0_3) := (blk_cell BK217.out 3).trans rfl
           have hfz163_0 := blk_frozen BK217.out 0
           have hfz163_1 := blk_frozen BK217.out 1
           have hfz163_2 := blk_frozen BK217.out 2
           have hfz163_3 := blk_frozen BK217.out 3
           have hnb164 := NB219_218.out
           have hnc164 := NB218_219.out
           have hnb165 := NB219_225.out
           have hnc165 := NB225_219.out
           have hcz166_0 : wc.cell? ⟨gb219, 0, none⟩ = some (.int .i64 a2_0) := (blk_cell BK219.out 0).trans rfl
           have hcz166_1 : wc.cell? ⟨gb219, 1, none⟩ = some (.int .i64 a2_1) := (blk_cell BK219.out 1).trans rfl
           have hcz166_2 : wc.cell? ⟨gb219, 2, none⟩ = some (.int .i64 a2_2) := (blk_cell BK219.out 2).trans rfl
           have hcz166_3 : wc.cell? ⟨gb219, 3, none⟩ = some (.int .i64 a2_3) := (blk_cell BK219.out 3).trans rfl
           have hcz166_4 : wc.cell? ⟨gb219, 4, none⟩ = some (.int .i64 a2_4) := (blk_cell BK219.out 4).trans rfl
           have hcz166_5 : wc.cell? ⟨gb219, 5, none⟩ = some (.int .i64 a2_5) := (blk_cell BK219.out 5).trans rfl
           have hcz166_6 : wc.cell? ⟨gb219, 6, none⟩ = some (.int .i64 a2_6) := (blk_cell BK219.out 6).trans rfl
           have hfz166_0 := blk_frozen BK219.out 0
           have hfz166_1 := blk_frozen BK219.out 1
           have hfz166_2 := blk_frozen BK219.out 2
           have hfz166_3 := blk_frozen BK219.out 3
           have hfz166_4 := blk_frozen BK219.out 4
           have hfz166_5 := blk_frozen BK219.out 5
           have hfz166_6 := blk_frozen BK219.out 6
           go_wp2
           go_meet
           case rel => exact ⟨_, (false), (by first | rfl | (simp; done) | (simp [*]; done)), H', ⟨by have := HJ5.out; have := HJ57.out; first | omega | exact Nat.le_refl _⟩, ⟨by (with_reducible repeat (first | refine blk_drewN ?_ _ | refine blk_drew ?_ | refine blk_alloc ?_ _)); exact BK217.out⟩, ⟨by (with_reducible repeat (first | refine blk_drewN ?_ _ | refine blk_drew ?_ | refine blk_alloc ?_ _)); exact BK218.out⟩, ⟨by (with_reducible repeat (first | refine blk_drewN ?_ _ | refine blk_drew ?_ | refine blk_alloc ?_ _)); exact BK219.out⟩, ⟨by (with_reducible repeat (first | refine blk_drewN ?_ _ | refine blk_drew ?_ | refine blk_alloc ?_ _)); exact BK225.out⟩, ⟨by repeat (first | (with_reducible first | exact HB.out | apply below_alloc | apply pw_below_drewN | apply below_drew1 | refine below_set ?_ GE217.out | refine below_set ?_ GE218.out | refine below_set ?_ GE219.out | refine below_set ?_ GE225.out) | exact HB.out)⟩⟩
         ·rw [if_neg c143] at H
          have c143b0 : decide (a0_0 ≤ a2_0) = false := decide_eq_false c143
          clear c143
          (first | rw [c143b0] | (simp only [i64_w, i32_w]; rw [c143b0]) | skip)
          have H' := Aside0.mk H
          clear H
          have hnb167 := NB217_218.out
          have hnc167 := NB218_217.out
          have hnb168 := NB217_219.out
          have hnc168 := NB219_217.out
          have hnb169 := NB217_225.out
          have hnc169 := NB225_217.out
          have hcz170_0 : wc.cell? ⟨gb217, 0, none⟩ = some (.int .i64 a0_0) := (blk_cell BK217.out 0).trans rfl
          have hcz170_1 : wc.cell? ⟨gb217, 1, none⟩ = some (.int .i64 a0_1) := (blk_cell BK217.out 1).trans rfl
          have hcz170_2 : wc.cell? ⟨gb217, 2, none⟩ = some (.int .i64 a0_2) := (blk_cell BK217.out 2).trans rfl
          have hcz170_3 : wc.cell? ⟨gb217, 3, none⟩ = some (.int .i64 a0_3) := (blk_cell BK217.out 3).trans rfl
          have hfz170_0 := blk_frozen BK217.out 0
          have hfz170_1 := blk_frozen BK217.out 1
          have hfz170_2 := blk_frozen BK217.out 2
          have hfz170_3 := blk_frozen BK217.out 3
          have hnb171 := NB219_218.out
          have hnc171 := NB218_219.out
          have hnb172 := NB219_225.out
          have hnc172 := NB225_219.out
          have hcz173_0 : wc.cell? ⟨gb219, 0, none⟩ = some (.int .i64 a2_0) := (blk_cell BK219.out 0).trans rfl
          have hcz173_1 : wc.cell? ⟨gb219, 1, none⟩ = some (.int .i64 a2_1) := (blk_cell BK219.out 1).trans rfl
          have hcz173_2 : wc.cell? ⟨gb219, 2, none⟩ = some (.int .i64 a2_2) := (blk_cell BK219.out 2).trans rfl
          have hcz173_3 : wc.cell? ⟨gb219, 3, none⟩ = some (.int .i64 a2_3) := (blk_cell BK219.out 3).trans rfl
          have hcz173_4 : wc.cell? ⟨gb219, 4, none⟩ = some (.int .i64 a2_4) := (blk_cell BK219.out 4).trans rfl
          have hcz173_5 : wc.cell? ⟨gb219, 5, none⟩ = some (.int .i64 a2_5) := (blk_cell BK219.out 5).trans rfl
          have hcz173_6 : wc.cell? ⟨gb219, 6, none⟩ = some (.int .i64 a2_6) := (blk_cell BK219.out 6).trans rfl
          have hfz173_0 := blk_frozen BK219.out 0
          have hfz173_1 := blk_frozen BK219.out 1
          have hfz173_2 := blk_frozen BK219.out 2
          have hfz173_3 := blk_frozen BK219.out 3
          have hfz173_4 := blk_frozen BK219.out 4
          have hfz173_5 := blk_frozen BK219.out 5
          have hfz173_6 := blk_frozen BK219.out 6
          go_wp2
          go_meet
          case rel => exact ⟨_, (false), (by first | rfl | (simp; done) | (simp [*]; done)), H', ⟨by have := HJ5.out; have := HJ57.out; first | omega | exact Nat.le_refl _⟩, ⟨by (with_reducible repeat (first | refine blk_drewN ?_ _ | refine blk_drew ?_ | refine blk_alloc ?_ _)); exact BK217.out⟩, ⟨by (with_reducible repeat (first | refine blk_drewN ?_ _ | refine blk_drew ?_ | refine blk_alloc ?_ _)); exact BK218.out⟩, ⟨by (with_reducible repeat (first | refine blk_drewN ?_ _ | refine blk_drew ?_ | refine blk_alloc ?_ _)); exact BK219.out⟩, ⟨by (with_reducible repeat (first | refine blk_drewN ?_ _ | refine blk_drew ?_ | refine blk_alloc ?_ _)); exact BK225.out⟩, ⟨by repeat (first | (with_reducible first | exact HB.out | apply below_alloc | apply pw_below_drewN | apply below_drew1 | refine below_set ?_ GE217.out | refine below_set ?_ GE218.out | refine below_set ?_ GE219.out | refine below_set ?_ GE225.out) | exact HB.out)⟩⟩
        case rest =>
         clear HC142
         try clear c1
         try clear p2
         try clear c3
         try clear c4
         try clear c5
         try clear c6
         try clear p6
         try clear c7
         try clear c8
         try clear c9
         try clear c10
         try clear c11
         try clear c12
         try clear c13
         try clear c14
         try clear c15
         try clear c16
         try clear c17
         try clear c33
         try clear c33b0
         try clear c34
         try clear c35
         try clear c37
         try clear c39
         try clear c39b0
         try clear c40
         try clear c41
         try clear c43
         try clear c45
         try clear c45b0
         try clear c46
         try clear c47
         try clear c49
         try clear c51
         try clear c52
         try clear c54
         try clear c56
         try clear c59
         try clear c60
         try clear c62
         try clear p64
         try clear c66
         try clear c67
         try clear c68
         try clear c70
         try clear c70b0
         try clear c70b1
         try clear c71
         try clear c71b0
         try clear c71b1
         try clear c72
         try clear c72b0
         try clear c73
         try clear c74
         try clear c75
         try clear c77
         try clear c78
         try clear c80
         try clear c82
         try clear c82b0
         try clear c83
         try clear c84
         try clear c85
         try clear c87
         try clear c88
         try clear c90
         try clear c92
         try clear c92b0
         try clear c92b1
         try clear c94
         try clear c95
         try clear c96
         try clear c98
         try clear c99
         try clear c101
         try clear c103
         try clear c103b0
         try clear c103b1
         try clear c105
         try clear c106
         try clear c107
         try clear c109
         try clear c110
         try clear c112
         try clear c114
         try clear c115
         try clear c116
         try clear c118
         try clear c119
         try clear c121
         try clear c123
         try clear c124
         try clear c125
         try clear c127
         try clear c128
         try clear c130
         try clear c132
         try clear c133
         try clear c134
         try clear c136
         try clear c137
         try clear c139
         try clear c141
         try clear c143
         try clear c143b0
         try clear c144
         try clear c144b0
         try clear c145
         try clear c145b0
         try clear c146
         try clear c147
         try clear c148
         try clear c150
         try clear c151
         try clear c153
         try clear c154
         try clear c155
         try clear c157
         try clear c158
         try clear c160
         try clear c161
         try clear c162
         try clear c164
         try clear c165
         try clear c167
         try clear c168
         try clear c169
         try clear c171
         try clear c172
         try clear hcz100_0
         try clear hcz100_1
         try clear hcz100_2
         try clear hcz100_3
         try clear hcz102_0
         try clear hcz102_1
         try clear hcz102_2
         try clear hcz102_3
         try clear hcz108_0
         try clear hcz108_1
         try clear hcz108_2
         try clear hcz108_3
         try clear hcz111_0
         try clear hcz111_1
         try clear hcz111_2
         try clear hcz111_3
         try clear hcz113_0
         try clear hcz113_1
         try clear hcz113_2
         try clear hcz113_3
         try clear hcz117_0
         try clear hcz117_1
         try clear hcz117_2
         try clear hcz117_3
         try clear hcz120_0
         try clear hcz120_1
         try clear hcz120_2
         try clear hcz120_3
         try clear hcz122_0
         try clear hcz122_1
         try clear hcz122_2
         try clear hcz122_3
         try clear hcz126_0
         try clear hcz126_1
         try clear hcz126_2
         try clear hcz126_3
         try clear hcz129_0
         try clear hcz129_1
         try clear hcz129_2
         try clear hcz129_3
         try clear hcz131_0
         try clear hcz131_1
         try clear hcz131_2
         try clear hcz131_3
         try clear hcz135_0
         try clear hcz135_1
         try clear hcz135_2
         try clear hcz135_3
         try clear hcz138_0
         try clear hcz138_1
         try clear hcz138_2
         try clear hcz138_3
         try clear hcz140_0
         try clear hcz140_1
         try clear hcz140_2
         try clear hcz140_3
         try clear hcz149_0
         try clear hcz149_1
         try clear hcz149_2
         try clear hcz149_3
         try clear hcz14_0
         try clear hcz14_1
         try clear hcz14_2
         try clear hcz14_3
         try clear hcz152_0
         try clear hcz152_1
         try clear hcz152_2
         try clear hcz152_3
         try clear hcz152_4
         try clear hcz152_5
         try clear hcz152_6
         try clear hcz156_0
         try clear hcz156_1
         try clear hcz156_2
         try clear hcz156_3
         try clear hcz159_0
         try clear hcz159_1
         try clear hcz159_2
         try clear hcz159_3
         try clear hcz159_4
         try clear hcz159_5
         try clear hcz159_6
         try clear hcz163_0
         try clear hcz163_1
         try clear hcz163_2
         try clear hcz163_3
         try clear hcz166_0
         try clear hcz166_1
         try clear hcz166_2
         try clear hcz166_3
         try clear hcz166_4
         try clear hcz166_5
         try clear hcz166_6
         try clear hcz170_0
         try clear hcz170_1
         try clear hcz170_2
         try clear hcz170_3
         try clear hcz173_0
         try clear hcz173_1
         try clear hcz173_2
         try clear hcz173_3
         try clear hcz173_4
         try clear hcz173_5
         try clear hcz173_6
         try clear hcz18_0
         try clear hcz18_1
         try clear hcz18_2
         try clear hcz18_3
         try clear hcz20_0
         try clear hcz20_1
         try clear hcz20_2
         try clear hcz20_3
         try clear hcz24_0
         try clear hcz24_1
         try clear hcz24_2
         try clear hcz24_3
         try clear hcz26_0
         try clear hcz26_1
         try clear hcz26_2
         try clear hcz26_3
         try clear hcz30_0
         try clear hcz30_1
         try clear hcz30_2
         try clear hcz30_3
         try clear hcz32_0
         try clear hcz32_1
         try clear hcz32_2
         try clear hcz32_3
         try clear hcz36_0
         try clear hcz36_1
         try clear hcz36_2
         try clear hcz36_3
         try clear hcz38_0
         try clear hcz38_1
         try clear hcz38_2
         try clear hcz38_3
         try clear hcz42_0
         try clear hcz42_1
         try clear hcz42_2
         try clear hcz42_3
         try clear hcz44_0
         try clear hcz44_1
         try clear hcz44_2
         try clear hcz44_3
         try clear hcz48_0
         try clear hcz48_1
         try clear hcz48_2
         try clear hcz48_3
         try clear hcz50_0
         try clear hcz50_1
         try clear hcz50_2
         try clear hcz50_3
         try clear hcz53_0
         try clear hcz53_1
         try clear hcz53_2
         try clear hcz53_3
         try clear hcz55_0
         try clear hcz55_1
         try clear hcz55_2
         try clear hcz55_3
         try clear hcz61_0
         try clear hcz61_1
         try clear hcz61_2
         try clear hcz61_3
         try clear hcz63_0
         try clear hcz63_1
         try clear hcz63_2
         try clear hcz63_3
         try clear hcz69_0
         try clear hcz69_1
         try clear hcz69_2
         try clear hcz69_3
         try clear hcz76_0
         try clear hcz76_1
         try clear hcz76_2
         try clear hcz76_3
         try clear hcz79_0
         try clear hcz79_1
         try clear hcz79_2
         try clear hcz79_3
         try clear hcz81_0
         try clear hcz81_1
         try clear hcz81_2
         try clear hcz81_3
         try clear hcz86_0
         try clear hcz86_1
         try clear hcz86_2
         try clear hcz86_3
         try clear hcz89_0
         try clear hcz89_1
         try clear hcz89_2
         try clear hcz89_3
         try clear hcz91_0
         try clear hcz91_1
         try clear hcz91_2
         try clear hcz91_3
         try clear hcz97_0
         try clear hcz97_1
         try clear hcz97_2
         try clear hcz97_3
         try clear hfz100_0
         try clear hfz100_1
         try clear hfz100_2
         try clear hfz100_3
         try clear hfz102_0
         try clear hfz102_1
         try clear hfz102_2
         try clear hfz102_3
         try clear hfz108_0
         try clear hfz108_1
         try clear hfz108_2
         try clear hfz108_3
         try clear hfz111_0
         try clear hfz111_1
         try clear hfz111_2
         try clear hfz111_3
         try clear hfz113_0
         try clear hfz113_1
         try clear hfz113_2
         try clear hfz113_3
         try clear hfz117_0
         try clear hfz117_1
         try clear hfz117_2
         try clear hfz117_3
         try clear hfz120_0
         try clear hfz120_1
         try clear hfz120_2
         try clear hfz120_3
         try clear hfz122_0
         try clear hfz122_1
         try clear hfz122_2
         try clear hfz122_3
         try clear hfz126_0
         try clear hfz126_1
         try clear hfz126_2
         try clear hfz126_3
         try clear hfz129_0
         try clear hfz129_1
         try clear hfz129_2
         try clear hfz129_3
         try clear hfz131_0
         try clear hfz131_1
         try clear hfz131_2
         try clear hfz131_3
         try clear hfz135_0
         try clear hfz135_1
         try clear hfz135_2
         try clear hfz135_3
         try clear hfz138_0
         try clear hfz138_1
         try clear hfz138_2
         try clear hfz138_3
         try clear hfz140_0
         try clear hfz140_1
         try clear hfz140_2
         try clear hfz140_3
         try clear hfz149_0
         try clear hfz149_1
         try clear hfz149_2
         try clear hfz149_3
         try clear hfz14_0
         try clear hfz14_1
         try clear hfz14_2
         try clear hfz14_3
         try clear hfz152_0
         try clear hfz152_1
         try clear hfz152_2
         try clear hfz152_3
         try clear hfz152_4
         try clear hfz152_5
         try clear hfz152_6
         try clear hfz156_0
         try clear hfz156_1
         try clear hfz156_2
         try clear hfz156_3
         try clear hfz159_0
         try clear hfz159_1
         try clear hfz159_2
         try clear hfz159_3
         try clear hfz159_4
         try clear hfz159_5
         try clear hfz159_6
         try clear hfz163_0
         try clear hfz163_1
         try clear hfz163_2
         try clear hfz163_3
         try clear hfz166_0
         try clear hfz166_1
         try clear hfz166_2
         try clear hfz166_3
         try clear hfz166_4
         try clear hfz166_5
         try clear hfz166_6
         try clear hfz170_0
         try clear hfz170_1
         try clear hfz170_2
         try clear hfz170_3
         try clear hfz173_0
         try clear hfz173_1
         try clear hfz173_2
         try clear hfz173_3
         try clear hfz173_4
         try clear hfz173_5
         try clear hfz173_6
         try clear hfz18_0
         try clear hfz18_1
         try clear hfz18_2
         try clear hfz18_3
         try clear hfz20_0
         try clear hfz20_1
         try clear hfz20_2
         try clear hfz20_3
         try clear hfz24_0
         try clear hfz24_1
         try clear hfz24_2
         try clear hfz24_3
         try clear hfz26_0
         try clear hfz26_1
         try clear hfz26_2
         try clear hfz26_3
         try clear hfz30_0
         try clear hfz30_1
         try clear hfz30_2
         try clear hfz30_3
         try clear hfz32_0
         try clear hfz32_1
         try clear hfz32_2
         try clear hfz32_3
         try clear hfz36_0
         try clear hfz36_1
         try clear hfz36_2
         try clear hfz36_3
         try clear hfz38_0
         try clear hfz38_1
         try clear hfz38_2
         try clear hfz38_3
         try clear hfz42_0
         try clear hfz42_1
         try clear hfz42_2
         try clear hfz42_3
         try clear hfz44_0
         try clear hfz44_1
         try clear hfz44_2
         try clear hfz44_3
         try clear hfz48_0
         try clear hfz48_1
         try clear hfz48_2
         try clear hfz48_3
         try clear hfz50_0
         try clear hfz50_1
         try clear hfz50_2
         try clear hfz50_3
         try clear hfz53_0
         try clear hfz53_1
         try clear hfz53_2
         try clear hfz53_3
         try clear hfz55_0
         try clear hfz55_1
         try clear hfz55_2
         try clear hfz55_3
         try clear hfz61_0
         try clear hfz61_1
         try clear hfz61_2
         try clear hfz61_3
         try clear hfz63_0
         try clear hfz63_1
         try clear hfz63_2
         try clear hfz63_3
         try clear hfz69_0
         try clear hfz69_1
         try clear hfz69_2
         try clear hfz69_3
         try clear hfz76_0
         try clear hfz76_1
         try clear hfz76_2
         try clear hfz76_3
         try clear hfz79_0
         try clear hfz79_1
         try clear hfz79_2
         try clear hfz79_3
         try clear hfz81_0
         try clear hfz81_1
         try clear hfz81_2
         try clear hfz81_3
         try clear hfz86_0
         try clear hfz86_1
         try clear hfz86_2
         try clear hfz86_3
         try clear hfz89_0
         try clear hfz89_1
         try clear hfz89_2
         try clear hfz89_3
         try clear hfz91_0
         try clear hfz91_1
         try clear hfz91_2
         try clear hfz91_3
         try clear hfz97_0
         try clear hfz97_1
         try clear hfz97_2
         try clear hfz97_3
         try clear p2
         try clear p64
         obtain ⟨kq, x8_141, rfl, HA, HJ141, BK217, BK218, BK219, BK225, HB⟩ := hcut
         cases kq with
         | zero => exact absurd HA.out (by simp [pannierlaw14_UsageFits.j2])
         | succ kj141 =>
          have H := HA.out
          clear HA
          simp only [pannierlaw14_UsageFits.j2] at H
          replace H := Option.bind_eq_some_iff.mp H
          obtain ⟨t226, A1740, H⟩ := H
          replace H : (if (t226 == x8_141) = true then ((usage_Usage_Fits.f t221 t222 t223 t224 a2_0 a2_1 a2_2 a2_3 a2_4 a2_5 a2_6).bind fun t227 => (if t227 = true then ((usage_Usage_Fits.f a0_0 a0_1 a0_2 a0_3 a2_0 a2_1 a2_2 a2_3 a2_4 a2_5 a2_6).bind fun t228 => (if t228 = true then ((usage_Usage_Fits.f a1_0 a1_1 a1_2 a1_3 a2_0 a2_1 a2_2 a2_3 a2_4 a2_5 a2_6).bind fun t229 => (some t229)) else (some false))) else (some true))) else (some false)) = some r := H
          have A174 := Aside0.mk A1740
          clear A1740
          by_cases c175 : (t226 == x8_141) = true
          ·rw [if_pos c175] at H
           have c175b0 : (t226 == x8_141) = true := c175
           (try (have c175b1 : decide (t226 = x8_141) = true := by simpa using c175))
           (try (have c175b2 : (t226 == x8_141) = true := by simpa using c175))
           clear c175
           replace H := Option.bind_eq_some_iff.mp H
           obtain ⟨t227, A1760, H⟩ := H
           replace H : (if t227 = true then ((usage_Usage_Fits.f a0_0 a0_1 a0_2 a0_3 a2_0 a2_1 a2_2 a2_3 a2_4 a2_5 a2_6).bind fun t228 => (if t228 = true then ((usage_Usage_Fits.f a1_0 a1_1 a1_2 a1_3 a2_0 a2_1 a2_2 a2_3 a2_4 a2_5 a2_6).bind fun t229 => (some t229)) else (some false))) else (some true)) = some r := H
           have A176 := Aside0.mk A1760
           clear A1760
           by_cases c177 : t227 = true
           ·subst c177
            have H1 : ((usage_Usage_Fits.f a0_0 a0_1 a0_2 a0_3 a2_0 a2_1 a2_2 a2_3 a2_4 a2_5 a2_6).bind fun t228 => (if t228 = true then ((usage_Usage_Fits.f a1_0 a1_1 a1_2 a1_3 a2_0 a2_1 a2_2 a2_3 a2_4 a2_5 a2_6).bind fun t229 => (some t229)) else (some false))) = some r := by rw [if_pos rfl] at H; exact H
            clear H
            have H := H1
            clear H1
            replace H := Option.bind_eq_some_iff.mp H
            obtain ⟨t228, A1780, H⟩ := H
            replace H : (if t228 = true then ((usage_Usage_Fits.f a1_0 a1_1 a1_2 a1_3 a2_0 a2_1 a2_2 a2_3 a2_4 a2_5 a2_6).bind fun t229 => (some t229)) else (some false)) = some r := H
            have A178 := Aside0.mk A1780
            clear A1780
            have E179 := Aside0.mk (Option.some.inj (A174.out.symm.trans A178.out))
            by_cases c180 : t228 = true
            ·subst c180
             have H1 : ((usage_Usage_Fits.f a1_0 a1_1 a1_2 a1_3 a2_0 a2_1 a2_2 a2_3 a2_4 a2_5 a2_6).bind fun t229 => (some t229)) = some r := by rw [if_pos rfl] at H; exact H
             clear H
             have H := H1
             clear H1
             replace H := Option.bind_eq_some_iff.mp H
             obtain ⟨t229, A1810, H⟩ := H
             replace H : (some t229) = some r := H
             have A181 := Aside0.mk A1810
             clear A1810
             obtain rfl := Option.some.inj H
             have hnb182 := NB217_218.out
             have hnc182 := NB218_217.out
             have hnb183 := NB217_219.out
             have hnc183 := NB219_217.out
             have hnb184 := NB217_225.out
             have hnc184 := NB225_217.out
             have hcz185_0 : wc.cell? ⟨gb217, 0, none⟩ = some (.int .i64 a0_0) := (blk_cell BK217.out 0).trans rfl
             have hcz185_1 : wc.cell? ⟨gb217, 1, none⟩ = some (.int .i64 a0_1) := (blk_cell BK217.out 1).trans rfl
             have hcz185_2 : wc.cell? ⟨gb217, 2, none⟩ = some (.int .i64 a0_2) := (blk_cell BK217.out 2).trans rfl
             have hcz185_3 : wc.cell? ⟨gb217, 3, none⟩ = some (.int .i64 a0_3) := (blk_cell BK217.out 3).trans rfl
             have hfz185_0 := blk_frozen BK217.out 0
             have hfz185_1 := blk_frozen BK217.out 1
             have hfz185_2 := blk_frozen BK217.out 2
             have hfz185_3 := blk_frozen BK217.out 3
             have hnb186 := NB219_218.out
             have hnc186 := NB218_219.out
             have hnb187 := NB219_225.out
             have hnc187 := NB225_219.out
             have hcz188_0 : wc.cell? ⟨gb219, 0, none⟩ = some (.int .i64 a2_0) := (blk_cell BK219.out 0).trans rfl
             have hcz188_1 : wc.cell? ⟨gb219, 1, none⟩ = some (.int .i64 a2_1) := (blk_cell BK219.out 1).trans rfl
             have hcz188_2 : wc.cell? ⟨gb219, 2, none⟩ = some (.int .i64 a2_2) := (blk_cell BK219.out 2).trans rfl
             have hcz188_3 : wc.cell? ⟨gb219, 3, none⟩ = some (.int .i64 a2_3) := (blk_cell BK219.out 3).trans rfl
             have hcz188_4 : wc.cell? ⟨gb219, 4, none⟩ = some (.int .i64 a2_4) := (blk_cell BK219.out 4).trans rfl
             have hcz188_5 : wc.cell? ⟨gb219, 5, none⟩ = some (.int .i64 a2_5) := (blk_cell BK219.out 5).trans rfl
             have hcz188_6 : wc.cell? ⟨gb219, 6, none⟩ = some (.int .i64 a2_6) := (blk_cell BK219.out 6).trans rfl
             have hfz188_0 := blk_frozen BK219.out 0
             have hfz188_1 := blk_frozen BK219.out 1
             have hfz188_2 := blk_frozen BK219.out 2
             have hfz188_3 := blk_frozen BK219.out 3
             have hfz188_4 := blk_frozen BK219.out 4
             have hfz188_5 := blk_frozen BK219.out 5
             have hfz188_6 := blk_frozen BK219.out 6
             go_wp2_with (first | ((with_reducible refine gate_callee (f := 18) rfl ?_); refine goesL_ (some 136) rfl rfl Tryd.func18 (by kernel_rfl) rfl #[.agg #[.int .i64 a0_0, .int .i64 a0_1, .int .i64 a0_2, .int .i64 a0_3], .agg #[.int .i64 a2_0, .int .i64 a2_1, .int .i64 a2_2, .int .i64 a2_3, .int .i64 a2_4, .int .i64 a2_5, .int .i64 a2_6]] rfl (by (try simp only [List.map_toArray, List.map_cons, List.map_nil]); first | done | rfl | (simp only [List.length_drop, List.length_take]; rfl)) ?_; (with_reducible refine (usage_Usage_Fits.calls a0_0 a0_1 a0_2 a0_3 a2_0 a2_1 a2_2 a2_3 a2_4 a2_5 a2_6 t226 _ A174.out).mono ?_); rintro e w189 ⟨rfl, hb⟩; refine ⟨_, rfl, ?_⟩; have n0_ := Aside0.mk (blk_below (g := gb217) (o := .cells #[.int .i64 a0_0, .int .i64 a0_1, .int .i64 a0_2, .int .i64 a0_3] 23 (0, 0)) (by (with_reducible repeat (first | refine blk_drewN ?_ _ | refine blk_drew ?_ | refine blk_alloc ?_ _)); exact BK217.out) hb); have n1_ := Aside0.mk (blk_below (g := gb218) (o := .cells #[.int .i64 a1_0, .int .i64 a1_1, .int .i64 a1_2, .int .i64 a1_3] 23 (0, 0)) (by (with_reducible repeat (first | refine blk_drewN ?_ _ | refine blk_drew ?_ | refine blk_alloc ?_ _)); exact BK218.out) hb); have n2_ := Aside0.mk (blk_below (g := gb219) (o := .cells #[.int .i64 a2_0, .int .i64 a2_1, .int .i64 a2_2, .int .i64 a2_3, .int .i64 a2_4, .int .i64 a2_5, .int .i64 a2_6] 29 (0, 0)) (by (with_reducible repeat (first | refine blk_drewN ?_ _ | refine blk_drew ?_ | refine blk_alloc ?_ _)); exact BK219.out) hb); have n3_ := Aside0.mk (blk_below (g := gb225) (o := .cells #[.int .i64 t221, .int .i64 t222, .int .i64 t223, .int .i64 t224] 23 (0, 0)) (by (with_reducible repeat (first | refine blk_drewN ?_ _ | refine blk_drew ?_ | refine blk_alloc ?_ _)); exact BK225.out) hb); have n4_ := Aside0.mk (below_step (by repeat (first | (with_reducible first | exact HB.out | apply below_alloc | apply pw_below_drewN | apply below_drew1 | refine below_set ?_ GE217.out | refine below_set ?_ GE218.out | refine below_set ?_ GE219.out | refine below_set ?_ GE225.out) | exact HB.out)) hb); clear BK217; clear BK218; clear BK219; clear BK225; clear HB; have BK217 := n0_; have BK218 := n1_; have BK219 := n2_; have BK225 := n3_; have HB := n4_; clear n0_ n1_ n2_ n3_ n4_; (try clear hb); (try clear hb2); (try clear hk); (try clear hi); have hnb190 := NB225_218.out; have hnc190 := NB218_225.out; have hcz191_0 : w189.cell? ⟨gb225, 0, none⟩ = some (.int .i64 t221) := (blk_cell BK225.out 0).trans rfl; have hcz191_1 : w189.cell? ⟨gb225, 1, none⟩ = some (.int .i64 t222) := (blk_cell BK225.out 1).trans rfl; have hcz191_2 : w189.cell? ⟨gb225, 2, none⟩ = some (.int .i64 t223) := (blk_cell BK225.out 2).trans rfl; have hcz191_3 : w189.cell? ⟨gb225, 3, none⟩ = some (.int .i64 t224) := (blk_cell BK225.out 3).trans rfl; have hfz191_0 := blk_frozen BK225.out 0; have hfz191_1 := blk_frozen BK225.out 1; have hfz191_2 := blk_frozen BK225.out 2; have hfz191_3 := blk_frozen BK225.out 3; have hcz192_0 : w189.cell? ⟨gb219, 0, none⟩ = some (.int .i64 a2_0) := (blk_cell BK219.out 0).trans rfl; have hcz192_1 : w189.cell? ⟨gb219, 1, none⟩ = some (.int .i64 a2_1) := (blk_cell BK219.out 1).trans rfl; have hcz192_2 : w189.cell? ⟨gb219, 2, none⟩ = some (.int .i64 a2_2) := (blk_cell BK219.out 2).trans rfl; have hcz192_3 : w189.cell? ⟨gb219, 3, none⟩ = some (.int .i64 a2_3) := (blk_cell BK219.out 3).trans rfl; have hcz192_4 : w189.cell? ⟨gb219, 4, none⟩ = some (.int .i64 a2_4) := (blk_cell BK219.out 4).trans rfl; have hcz192_5 : w189.cell? ⟨gb219, 5, none⟩ = some (.int .i64 a2_5) := (blk_cell BK219.out 5).trans rfl; have hcz192_6 : w189.cell? ⟨gb219, 6, none⟩ = some (.int .i64 a2_6) := (blk_cell BK219.out 6).trans rfl; have hfz192_0 := blk_frozen BK219.out 0; have hfz192_1 := blk_frozen BK219.out 1; have hfz192_2 := blk_frozen BK219.out 2; have hfz192_3 := blk_frozen BK219.out 3; have hfz192_4 := blk_frozen BK219.out 4; have hfz192_5 := blk_frozen BK219.out 5; have hfz192_6 := blk_frozen BK219.out 6) | (go_at_call 18; (with_reducible refine (usage_Usage_Fits.calls t221 t222 t223 t224 a2_0 a2_1 a2_2 a2_3 a2_4 a2_5 a2_6 true _ A176.out).mono ?_); rintro e w193 ⟨rfl, hb⟩; have n0_ := Aside0.mk (blk_below (g := gb217) (o := .cells #[.int .i64 a0_0, .int .i64 a0_1, .int .i64 a0_2, .int .i64 a0_3] 23 (0, 0)) (by (with_reducible repeat (first | refine blk_drewN ?_ _ | refine blk_drew ?_ | refine blk_alloc ?_ _)); exact BK217.out) hb); have n1_ := Aside0.mk (blk_below (g := gb218) (o := .cells #[.int .i64 a1_0, .int .i64 a1_1, .int .i64 a1_2, .int .i64 a1_3] 23 (0, 0)) (by (with_reducible repeat (first | refine blk_drewN ?_ _ | refine blk_drew ?_ | refine blk_alloc ?_ _)); exact BK218.out) hb); have n2_ := Aside0.mk (blk_below (g := gb219) (o := .cells #[.int .i64 a2_0, .int .i64 a2_1, .int .i64 a2_2, .int .i64 a2_3, .int .i64 a2_4, .int .i64 a2_5, .int .i64 a2_6] 29 (0, 0)) (by (with_reducible repeat (first | refine blk_drewN ?_ _ | refine blk_drew ?_ | refine blk_alloc ?_ _)); exact BK219.out) hb); have n3_ := Aside0.mk (blk_below (g := gb225) (o := .cells #[.int .i64 t221, .int .i64 t222, .int .i64 t223, .int .i64 t224] 23 (0, 0)) (by (with_reducible repeat (first | refine blk_drewN ?_ _ | refine blk_drew ?_ | refine blk_alloc ?_ _)); exact BK225.out) hb); have n4_ := Aside0.mk (below_step (by repeat (first | (with_reducible first | exact HB.out | apply below_alloc | apply pw_below_drewN | apply below_drew1 | refine below_set ?_ GE217.out | refine below_set ?_ GE218.out | refine below_set ?_ GE219.out | refine below_set ?_ GE225.out) | exact HB.out)) hb); clear BK217; clear BK218; clear BK219; clear BK225; clear HB; have BK217 := n0_; have BK218 := n1_; have BK219 := n2_; have BK225 := n3_; have HB := n4_; clear n0_ n1_ n2_ n3_ n4_; (try clear hb); (try clear hb2); (try clear hk); (try clear hi); have hcz194_0 : w193.cell? ⟨gb217, 0, none⟩ = some (.int .i64 a0_0) := (blk_cell BK217.out 0).trans rfl; have hcz194_1 : w193.cell? ⟨gb217, 1, none⟩ = some (.int .i64 a0_1) := (blk_cell BK217.out 1).trans rfl; have hcz194_2 : w193.cell? ⟨gb217, 2, none⟩ = some (.int .i64 a0_2) := (blk_cell BK217.out 2).trans rfl; have hcz194_3 : w193.cell? ⟨gb217, 3, none⟩ = some (.int .i64 a0_3) := (blk_cell BK217.out 3).trans rfl; have hfz194_0 := blk_frozen BK217.out 0; have hfz194_1 := blk_frozen BK217.out 1; have hfz194_2 := blk_frozen BK217.out 2; have hfz194_3 := blk_frozen BK217.out 3; have hcz195_0 : w193.cell? ⟨gb219, 0, none⟩ = some (.int .i64 a2_0) := (blk_cell BK219.out 0).trans rfl; have hcz195_1 : w193.cell? ⟨gb219, 1, none⟩ = some (.int .i64 a2_1) := (blk_cell BK219.out 1).trans rfl; have hcz195_2 : w193.cell? ⟨gb219, 2, none⟩ = some (.int .i64 a2_2) := (blk_cell BK219.out 2).trans rfl; have hcz195_3 : w193.cell? ⟨gb219, 3, none⟩ = some (.int .i64 a2_3) := (blk_cell BK219.out 3).trans rfl; have hcz195_4 : w193.cell? ⟨gb219, 4, none⟩ = some (.int .i64 a2_4) := (blk_cell BK219.out 4).trans rfl; have hcz195_5 : w193.cell? ⟨gb219, 5, none⟩ = some (.int .i64 a2_5) := (blk_cell BK219.out 5).trans rfl; have hcz195_6 : w193.cell? ⟨gb219, 6, none⟩ = some (.int .i64 a2_6) := (blk_cell BK219.out 6).trans rfl; have hfz195_0 := blk_frozen BK219.out 0; have hfz195_1 := blk_frozen BK219.out 1; have hfz195_2 := blk_frozen BK219.out 2; have hfz195_3 := blk_frozen BK219.out 3; have hfz195_4 := blk_frozen BK219.out 4; have hfz195_5 := blk_frozen BK219.out 5; have hfz195_6 := blk_frozen BK219.out 6) | (go_at_call 18; (with_reducible refine (usage_Usage_Fits.calls a0_0 a0_1 a0_2 a0_3 a2_0 a2_1 a2_2 a2_3 a2_4 a2_5 a2_6 true _ A178.out).mono ?_); rintro e w196 ⟨rfl, hb⟩; have n0_ := Aside0.mk (blk_below (g := gb217) (o := .cells #[.int .i64 a0_0, .int .i64 a0_1, .int .i64 a0_2, .int .i64 a0_3] 23 (0, 0)) (by (with_reducible repeat (first | refine blk_drewN ?_ _ | refine blk_drew ?_ | refine blk_alloc ?_ _)); exact BK217.out) hb); have n1_ := Aside0.mk (blk_below (g := gb218) (o := .cells #[.int .i64 a1_0, .int .i64 a1_1, .int .i64 a1_2, .int .i64 a1_3] 23 (0, 0)) (by (with_reducible repeat (first | refine blk_drewN ?_ _ | refine blk_drew ?_ | refine blk_alloc ?_ _)); exact BK218.out) hb); have n2_ := Aside0.mk (blk_below (g := gb219) (o := .cells #[.int .i64 a2_0, .int .i64 a2_1, .int .i64 a2_2, .int .i64 a2_3, .int .i64 a2_4, .int .i64 a2_5, .int .i64 a2_6] 29 (0, 0)) (by (with_reducible repeat (first | refine blk_drewN ?_ _ | refine blk_drew ?_ | refine blk_alloc ?_ _)); exact BK219.out) hb); have n3_ := Aside0.mk (blk_below (g := gb225) (o := .cells #[.int .i64 t221, .int .i64 t222, .int .i64 t223, .int .i64 t224] 23 (0, 0)) (by (with_reducible repeat (first | refine blk_drewN ?_ _ | refine blk_drew ?_ | refine blk_alloc ?_ _)); exact BK225.out) hb); have n4_ := Aside0.mk (below_step (by repeat (first | (with_reducible first | exact HB.out | apply below_alloc | apply pw_below_drewN | apply below_drew1 | refine below_set ?_ GE217.out | refine below_set ?_ GE218.out | refine below_set ?_ GE219.out | refine below_set ?_ GE225.out) | exact HB.out)) hb); clear BK217; clear BK218; clear BK219; clear BK225; clear HB; have BK217 := n0_; have BK218 := n1_; have BK219 := n2_; have BK225 := n3_; have HB := n4_; clear n0_ n1_ n2_ n3_ n4_; (try clear hb); (try clear hb2); (try clear hk); (try clear hi); have hcz197_0 : w196.cell? ⟨gb218, 0, none⟩ = some (.int .i64 a1_0) := (blk_cell BK218.out 0).trans rfl; have hcz197_1 : w196.cell? ⟨gb218, 1, none⟩ = some (.int .i64 a1_1) := (blk_cell BK218.out 1).trans rfl; have hcz197_2 : w196.cell? ⟨gb218, 2, none⟩ = some (.int .i64 a1_2) := (blk_cell BK218.out 2).trans rfl; have hcz197_3 : w196.cell? ⟨gb218, 3, none⟩ = some (.int .i64 a1_3) := (blk_cell BK218.out 3).trans rfl; have hfz197_0 := blk_frozen BK218.out 0; have hfz197_1 := blk_frozen BK218.out 1; have hfz197_2 := blk_frozen BK218.out 2; have hfz197_3 := blk_frozen BK218.out 3; have hcz198_0 : w196.cell? ⟨gb219, 0, none⟩ = some (.int .i64 a2_0) := (blk_cell BK219.out 0).trans rfl; have hcz198_1 : w196.cell? ⟨gb219, 1, none⟩ = some (.int .i64 a2_1) := (blk_cell BK219.out 1).trans rfl; have hcz198_2 : w196.cell? ⟨gb219, 2, none⟩ = some (.int .i64 a2_2) := (blk_cell BK219.out 2).trans rfl; have hcz198_3 : w196.cell? ⟨gb219, 3, none⟩ = some (.int .i64 a2_3) := (blk_cell BK219.out 3).trans rfl; have hcz198_4 : w196.cell? ⟨gb219, 4, none⟩ = some (.int .i64 a2_4) := (blk_cell BK219.out 4).trans rfl; have hcz198_5 : w196.cell? ⟨gb219, 5, none⟩ = some (.int .i64 a2_5) := (blk_cell BK219.out 5).trans rfl; have hcz198_6 : w196.cell? ⟨gb219, 6, none⟩ = some (.int .i64 a2_6) := (blk_cell BK219.out 6).trans rfl; have hfz198_0 := blk_frozen BK219.out 0; have hfz198_1 := blk_frozen BK219.out 1; have hfz198_2 := blk_frozen BK219.out 2; have hfz198_3 := blk_frozen BK219.out 3; have hfz198_4 := blk_frozen BK219.out 4; have hfz198_5 := blk_frozen BK219.out 5; have hfz198_6 := blk_frozen BK219.out 6) | (go_at_call 18; (with_reducible refine (usage_Usage_Fits.calls a1_0 a1_1 a1_2 a1_3 a2_0 a2_1 a2_2 a2_3 a2_4 a2_5 a2_6 t229 _ A181.out).mono ?_); rintro e w199 ⟨rfl, hb⟩; have n0_ := Aside0.mk (blk_below (g := gb217) (o := .cells #[.int .i64 a0_0, .int .i64 a0_1, .int .i64 a0_2, .int .i64 a0_3] 23 (0, 0)) (by (with_reducible repeat (first | refine blk_drewN ?_ _ | refine blk_drew ?_ | refine blk_alloc ?_ _)); exact BK217.out) hb); have n1_ := Aside0.mk (blk_below (g := gb218) (o := .cells #[.int .i64 a1_0, .int .i64 a1_1, .int .i64 a1_2, .int .i64 a1_3] 23 (0, 0)) (by (with_reducible repeat (first | refine blk_drewN ?_ _ | refine blk_drew ?_ | refine blk_alloc ?_ _)); exact BK218.out) hb); have n2_ := Aside0.mk (blk_below (g := gb219) (o := .cells #[.int .i64 a2_0, .int .i64 a2_1, .int .i64 a2_2, .int .i64 a2_3, .int .i64 a2_4, .int .i64 a2_5, .int .i64 a2_6] 29 (0, 0)) (by (with_reducible repeat (first | refine blk_drewN ?_ _ | refine blk_drew ?_ | refine blk_alloc ?_ _)); exact BK219.out) hb); have n3_ := Aside0.mk (blk_below (g := gb225) (o := .cells #[.int .i64 t221, .int .i64 t222, .int .i64 t223, .int .i64 t224] 23 (0, 0)) (by (with_reducible repeat (first | refine blk_drewN ?_ _ | refine blk_drew ?_ | refine blk_alloc ?_ _)); exact BK225.out) hb); have n4_ := Aside0.mk (below_step (by repeat (first | (with_reducible first | exact HB.out | apply below_alloc | apply pw_below_drewN | apply below_drew1 | refine below_set ?_ GE217.out | refine below_set ?_ GE218.out | refine below_set ?_ GE219.out | refine below_set ?_ GE225.out) | exact HB.out)) hb); clear BK217; clear BK218; clear BK219; clear BK225; clear HB; have BK217 := n0_; have BK218 := n1_; have BK219 := n2_; have BK225 := n3_; have HB := n4_; clear n0_ n1_ n2_ n3_ n4_; (try clear hb); (try clear hb2); (try clear hk); (try clear hi)))
             (try have hE179 := E179.out)
             all_goals (go_ret; exact ⟨by first | rfl | (simp [errW_none, errW_some] <;> rfl) | (simp [*, errW_none, errW_some] <;> rfl), by repeat (first | (with_reducible first | exact HB.out | apply below_alloc | apply pw_below_drewN | apply below_drew1 | refine below_set ?_ GE217.out | refine below_set ?_ GE218.out | refine below_set ?_ GE219.out | refine below_set ?_ GE225.out) | exact HB.out)⟩)
            ·replace c180 := Bool.eq_false_iff.mpr c180
             subst c180
             have H1 : (some false) = some r := by rw [if_neg (show ¬ (false = true) by decide)] at H; exact H
             clear H
             have H := H1
             clear H1
             obtain rfl := Option.some.inj H
             have hnb200 := NB217_218.out
             have hnc200 := NB218_217.out
             have hnb201 := NB217_219.out
             have hnc201 := NB219_217.out
             have hnb202 := NB217_225.out
             have hnc202 := NB225_217.out
             have hcz203_0 : wc.cell? ⟨gb217, 0, none⟩ = some (.int .i64 a0_0) := (blk_cell BK217.out 0).trans rfl
             have hcz203_1 : wc.cell? ⟨gb217, 1, none⟩ = some (.int .i64 a0_1) := (blk_cell BK217.out 1).trans rfl
             have hcz203_2 : wc.cell? ⟨gb217, 2, none⟩ = some (.int .i64 a0_2) := (blk_cell BK217.out 2).trans rfl
             have hcz203_3 : wc.cell? ⟨gb217, 3, none⟩ = some (.int .i64 a0_3) := (blk_cell BK217.out 3).trans rfl
             have hfz203_0 := blk_frozen BK217.out 0
             have hfz203_1 := blk_frozen BK217.out 1
             have hfz203_2 := blk_frozen BK217.out 2
             have hfz203_3 := blk_frozen BK217.out 3
             have hnb204 := NB219_218.out
             have hnc204 := NB218_219.out
             have hnb205 := NB219_225.out
             have hnc205 := NB225_219.out
             have hcz206_0 : wc.cell? ⟨gb219, 0, none⟩ = some (.int .i64 a2_0) := (blk_cell BK219.out 0).trans rfl
             have hcz206_1 : wc.cell? ⟨gb219, 1, none⟩ = some (.int .i64 a2_1) := (blk_cell BK219.out 1).trans rfl
             have hcz206_2 : wc.cell? ⟨gb219, 2, none⟩ = some (.int .i64 a2_2) := (blk_cell BK219.out 2).trans rfl
             have hcz206_3 : wc.cell? ⟨gb219, 3, none⟩ = some (.int .i64 a2_3) := (blk_cell BK219.out 3).trans rfl
             have hcz206_4 : wc.cell? ⟨gb219, 4, none⟩ = some (.int .i64 a2_4) := (blk_cell BK219.out 4).trans rfl
             have hcz206_5 : wc.cell? ⟨gb219, 5, none⟩ = some (.int .i64 a2_5) := (blk_cell BK219.out 5).trans rfl
             have hcz206_6 : wc.cell? ⟨gb219, 6, none⟩ = some (.int .i64 a2_6) := (blk_cell BK219.out 6).trans rfl
             have hfz206_0 := blk_frozen BK219.out 0
             have hfz206_1 := blk_frozen BK219.out 1
             have hfz206_2 := blk_frozen BK219.out 2
             have hfz206_3 := blk_frozen BK219.out 3
             have hfz206_4 := blk_frozen BK219.out 4
             have hfz206_5 := blk_frozen BK219.out 5
             have hfz206_6 := blk_frozen BK219.out 6
             go_wp2_with (first | ((with_reducible refine gate_callee (f := 18) rfl ?_); refine goesL_ (some 136) rfl rfl Tryd.func18 (by kernel_rfl) rfl #[.agg #[.int .i64 a0_0, .int .i64 a0_1, .int .i64 a0_2, .int .i64 a0_3], .agg #[.int .i64 a2_0, .int .i64 a2_1, .int .i64 a2_2, .int .i64 a2_3, .int .i64 a2_4, .int .i64 a2_5, .int .i64 a2_6]] rfl (by (try simp only [List.map_toArray, List.map_cons, List.map_nil]); first | done | rfl | (simp only [List.length_drop, List.length_take]; rfl)) ?_; (with_reducible refine (usage_Usage_Fits.calls a0_0 a0_1 a0_2 a0_3 a2_0 a2_1 a2_2 a2_3 a2_4 a2_5 a2_6 t226 _ A174.out).mono ?_); rintro e w207 ⟨rfl, hb⟩; refine ⟨_, rfl, ?_⟩; have n0_ := Aside0.mk (blk_below (g := gb217) (o := .cells #[.int .i64 a0_0, .int .i64 a0_1, .int .i64 a0_2, .int .i64 a0_3] 23 (0, 0)) (by (with_reducible repeat (first | refine blk_drewN ?_ _ | refine blk_drew ?_ | refine blk_alloc ?_ _)); exact BK217.out) hb); have n1_ := Aside0.mk (blk_below (g := gb218) (o := .cells #[.int .i64 a1_0, .int .i64 a1_1, .int .i64 a1_2, .int .i64 a1_3] 23 (0, 0)) (by (with_reducible repeat (first | refine blk_drewN ?_ _ | refine blk_drew ?_ | refine blk_alloc ?_ _)); exact BK218.out) hb); have n2_ := Aside0.mk (blk_below (g := gb219) (o := .cells #[.int .i64 a2_0, .int .i64 a2_1, .int .i64 a2_2, .int .i64 a2_3, .int .i64 a2_4, .int .i64 a2_5, .int .i64 a2_6] 29 (0, 0)) (by (with_reducible repeat (first | refine blk_drewN ?_ _ | refine blk_drew ?_ | refine blk_alloc ?_ _)); exact BK219.out) hb); have n3_ := Aside0.mk (blk_below (g := gb225) (o := .cells #[.int .i64 t221, .int .i64 t222, .int .i64 t223, .int .i64 t224] 23 (0, 0)) (by (with_reducible repeat (first | refine blk_drewN ?_ _ | refine blk_drew ?_ | refine blk_alloc ?_ _)); exact BK225.out) hb); have n4_ := Aside0.mk (below_step (by repeat (first | (with_reducible first | exact HB.out | apply below_alloc | apply pw_below_drewN | apply below_drew1 | refine below_set ?_ GE217.out | refine below_set ?_ GE218.out | refine below_set ?_ GE219.out | refine below_set ?_ GE225.out) | exact HB.out)) hb); clear BK217; clear BK218; clear BK219; clear BK225; clear HB; have BK217 := n0_; have BK218 := n1_; have BK219 := n2_; have BK225 := n3_; have HB := n4_; clear n0_ n1_ n2_ n3_ n4_; (try clear hb); (try clear hb2); (try clear hk); (try clear hi); have hnb208 := NB225_218.out; have hnc208 := NB218_225.out; have hcz209_0 : w207.cell? ⟨gb225, 0, none⟩ = some (.int .i64 t221) := (blk_cell BK225.out 0).trans rfl; have hcz209_1 : w207.cell? ⟨gb225, 1, none⟩ = some (.int .i64 t222) := (blk_cell BK225.out 1).trans rfl; have hcz209_2 : w207.cell? ⟨gb225, 2, none⟩ = some (.int .i64 t223) := (blk_cell BK225.out 2).trans rfl; have hcz209_3 : w207.cell? ⟨gb225, 3, none⟩ = some (.int .i64 t224) := (blk_cell BK225.out 3).trans rfl; have hfz209_0 := blk_frozen BK225.out 0; have hfz209_1 := blk_frozen BK225.out 1; have hfz209_2 := blk_frozen BK225.out 2; have hfz209_3 := blk_frozen BK225.out 3; have hcz210_0 : w207.cell? ⟨gb219, 0, none⟩ = some (.int .i64 a2_0) := (blk_cell BK219.out 0).trans rfl; have hcz210_1 : w207.cell? ⟨gb219, 1, none⟩ = some (.int .i64 a2_1) := (blk_cell BK219.out 1).trans rfl; have hcz210_2 : w207.cell? ⟨gb219, 2, none⟩ = some (.int .i64 a2_2) := (blk_cell BK219.out 2).trans rfl; have hcz210_3 : w207.cell? ⟨gb219, 3, none⟩ = some (.int .i64 a2_3) := (blk_cell BK219.out 3).trans rfl; have hcz210_4 : w207.cell? ⟨gb219, 4, none⟩ = some (.int .i64 a2_4) := (blk_cell BK219.out 4).trans rfl; have hcz210_5 : w207.cell? ⟨gb219, 5, none⟩ = some (.int .i64 a2_5) := (blk_cell BK219.out 5).trans rfl; have hcz210_6 : w207.cell? ⟨gb219, 6, none⟩ = some (.int .i64 a2_6) := (blk_cell BK219.out 6).trans rfl; have hfz210_0 := blk_frozen BK219.out 0; have hfz210_1 := blk_frozen BK219.out 1; have hfz210_2 := blk_frozen BK219.out 2; have hfz210_3 := blk_frozen BK219.out 3; have hfz210_4 := blk_frozen BK219.out 4; have hfz210_5 := blk_frozen BK219.out 5; have hfz210_6 := blk_frozen BK219.out 6) | (go_at_call 18; (with_reducible refine (usage_Usage_Fits.calls t221 t222 t223 t224 a2_0 a2_1 a2_2 a2_3 a2_4 a2_5 a2_6 true _ A176.out).mono ?_); rintro e w211 ⟨rfl, hb⟩; have n0_ := Aside0.mk (blk_below (g := gb217) (o := .cells #[.int .i64 a0_0, .int .i64 a0_1, .int .i64 a0_2, .int .i64 a0_3] 23 (0, 0)) (by (with_reducible repeat (first | refine blk_drewN ?_ _ | refine blk_drew ?_ | refine blk_alloc ?_ _)); exact BK217.out) hb); have n1_ := Aside0.mk (blk_below (g := gb218) (o := .cells #[.int .i64 a1_0, .int .i64 a1_1, .int .i64 a1_2, .int .i64 a1_3] 23 (0, 0)) (by (with_reducible repeat (first | refine blk_drewN ?_ _ | refine blk_drew ?_ | refine blk_alloc ?_ _)); exact BK218.out) hb); have n2_ := Aside0.mk (blk_below (g := gb219) (o := .cells #[.int .i64 a2_0, .int .i64 a2_1, .int .i64 a2_2, .int .i64 a2_3, .int .i64 a2_4, .int .i64 a2_5, .int .i64 a2_6] 29 (0, 0)) (by (with_reducible repeat (first | refine blk_drewN ?_ _ | refine blk_drew ?_ | refine blk_alloc ?_ _)); exact BK219.out) hb); have n3_ := Aside0.mk (blk_below (g := gb225) (o := .cells #[.int .i64 t221, .int .i64 t222, .int .i64 t223, .int .i64 t224] 23 (0, 0)) (by (with_reducible repeat (first | refine blk_drewN ?_ _ | refine blk_drew ?_ | refine blk_alloc ?_ _)); exact BK225.out) hb); have n4_ := Aside0.mk (below_step (by repeat (first | (with_reducible first | exact HB.out | apply below_alloc | apply pw_below_drewN | apply below_drew1 | refine below_set ?_ GE217.out | refine below_set ?_ GE218.out | refine below_set ?_ GE219.out | refine below_set ?_ GE225.out) | exact HB.out)) hb); clear BK217; clear BK218; clear BK219; clear BK225; clear HB; have BK217 := n0_; have BK218 := n1_; have BK219 := n2_; have BK225 := n3_; have HB := n4_; clear n0_ n1_ n2_ n3_ n4_; (try clear hb); (try clear hb2); (try clear hk); (try clear hi); have hcz212_0 : w211.cell? ⟨gb217, 0, none⟩ = some (.int .i64 a0_0) := (blk_cell BK217.out 0).trans rfl; have hcz212_1 : w211.cell? ⟨gb217, 1, none⟩ = some (.int .i64 a0_1) := (blk_cell BK217.out 1).trans rfl; have hcz212_2 : w211.cell? ⟨gb217, 2, none⟩ = some (.int .i64 a0_2) := (blk_cell BK217.out 2).trans rfl; have hcz212_3 : w211.cell? ⟨gb217, 3, none⟩ = some (.int .i64 a0_3) := (blk_cell BK217.out 3).trans rfl; have hfz212_0 := blk_frozen BK217.out 0; have hfz212_1 := blk_frozen BK217.out 1; have hfz212_2 := blk_frozen BK217.out 2; have hfz212_3 := blk_frozen BK217.out 3; have hcz213_0 : w211.cell? ⟨gb219, 0, none⟩ = some (.int .i64 a2_0) := (blk_cell BK219.out 0).trans rfl; have hcz213_1 : w211.cell? ⟨gb219, 1, none⟩ = some (.int .i64 a2_1) := (blk_cell BK219.out 1).trans rfl; have hcz213_2 : w211.cell? ⟨gb219, 2, none⟩ = some (.int .i64 a2_2) := (blk_cell BK219.out 2).trans rfl; have hcz213_3 : w211.cell? ⟨gb219, 3, none⟩ = some (.int .i64 a2_3) := (blk_cell BK219.out 3).trans rfl; have hcz213_4 : w211.cell? ⟨gb219, 4, none⟩ = some (.int .i64 a2_4) := (blk_cell BK219.out 4).trans rfl; have hcz213_5 : w211.cell? ⟨gb219, 5, none⟩ = some (.int .i64 a2_5) := (blk_cell BK219.out 5).trans rfl; have hcz213_6 : w211.cell? ⟨gb219, 6, none⟩ = some (.int .i64 a2_6) := (blk_cell BK219.out 6).trans rfl; have hfz213_0 := blk_frozen BK219.out 0; have hfz213_1 := blk_frozen BK219.out 1; have hfz213_2 := blk_frozen BK219.out 2; have hfz213_3 := blk_frozen BK219.out 3; have hfz213_4 := blk_frozen BK219.out 4; have hfz213_5 := blk_frozen BK219.out 5; have hfz213_6 := blk_frozen BK219.out 6) | (go_at_call 18; (with_reducible refine (usage_Usage_Fits.calls a0_0 a0_1 a0_2 a0_3 a2_0 a2_1 a2_2 a2_3 a2_4 a2_5 a2_6 false _ A178.out).mono ?_); rintro e w214 ⟨rfl, hb⟩; have n0_ := Aside0.mk (blk_below (g := gb217) (o := .cells #[.int .i64 a0_0, .int .i64 a0_1, .int .i64 a0_2, .int .i64 a0_3] 23 (0, 0)) (by (with_reducible repeat (first | refine blk_drewN ?_ _ | refine blk_drew ?_ | refine blk_alloc ?_ _)); exact BK217.out) hb); have n1_ := Aside0.mk (blk_below (g := gb218) (o := .cells #[.int .i64 a1_0, .int .i64 a1_1, .int .i64 a1_2, .int .i64 a1_3] 23 (0, 0)) (by (with_reducible repeat (first | refine blk_drewN ?_ _ | refine blk_drew ?_ | refine blk_alloc ?_ _)); exact BK218.out) hb); have n2_ := Aside0.mk (blk_below (g := gb219) (o := .cells #[.int .i64 a2_0, .int .i64 a2_1, .int .i64 a2_2, .int .i64 a2_3, .int .i64 a2_4, .int .i64 a2_5, .int .i64 a2_6] 29 (0, 0)) (by (with_reducible repeat (first | refine blk_drewN ?_ _ | refine blk_drew ?_ | refine blk_alloc ?_ _)); exact BK219.out) hb); have n3_ := Aside0.mk (blk_below (g := gb225) (o := .cells #[.int .i64 t221, .int .i64 t222, .int .i64 t223, .int .i64 t224] 23 (0, 0)) (by (with_reducible repeat (first | refine blk_drewN ?_ _ | refine blk_drew ?_ | refine blk_alloc ?_ _)); exact BK225.out) hb); have n4_ := Aside0.mk (below_step (by repeat (first | (with_reducible first | exact HB.out | apply below_alloc | apply pw_below_drewN | apply below_drew1 | refine below_set ?_ GE217.out | refine below_set ?_ GE218.out | refine below_set ?_ GE219.out | refine below_set ?_ GE225.out) | exact HB.out)) hb); clear BK217; clear BK218; clear BK219; clear BK225; clear HB; have BK217 := n0_; have BK218 := n1_; have BK219 := n2_; have BK225 := n3_; have HB := n4_; clear n0_ n1_ n2_ n3_ n4_; (try clear hb); (try clear hb2); (try clear hk); (try clear hi)))
             (try have hE179 := E179.out)
             all_goals (go_ret; exact ⟨by first | rfl | (simp [errW_none, errW_some] <;> rfl) | (simp [*, errW_none, errW_some] <;> rfl), by repeat (first | (with_reducible first | exact HB.out | apply below_alloc | apply pw_below_drewN | apply below_drew1 | refine below_set ?_ GE217.out | refine below_set ?_ GE218.out | refine below_set ?_ GE219.out | refine below_set ?_ GE225.out) | exact HB.out)⟩)
           ·replace c177 := Bool.eq_false_iff.mpr c177
            subst c177
            have H1 : (some true) = some r := by rw [if_neg (show ¬ (false = true) by decide)] at H; exact H
            clear H
            have H := H1
            clear H1
            obtain rfl := Option.some.inj H
            have hnb215 := NB217_218.out
            have hnc215 := NB218_217.out
            have hnb216 := NB217_219.out
            have hnc216 := NB219_217.out
            have hnb217 := NB217_225.out
            have hnc217 := NB225_217.out
            have hcz218_0 : wc.cell? ⟨gb217, 0, none⟩ = some (.int .i64 a0_0) := (blk_cell BK217.out 0).trans rfl
            have hcz218_1 : wc.cell? ⟨gb217, 1, none⟩ = some (.int .i64 a0_1) := (blk_cell BK217.out 1).trans rfl
            have hcz218_2 : wc.cell? ⟨gb217, 2, none⟩ = some (.int .i64 a0_2) := (blk_cell BK217.out 2).trans rfl
            have hcz218_3 : wc.cell? ⟨gb217, 3, none⟩ = some (.int .i64 a0_3) := (blk_cell BK217.out 3).trans rfl
            have hfz218_0 := blk_frozen BK217.out 0
            have hfz218_1 := blk_frozen BK217.out 1
            have hfz218_2 := blk_frozen BK217.out 2
            have hfz218_3 := blk_frozen BK217.out 3
            have hnb219 := NB219_218.out
            have hnc219 := NB218_219.out
            have hnb220 := NB219_225.out
            have hnc220 := NB225_219.out
            have hcz221_0 : wc.cell? ⟨gb219, 0, none⟩ = some (.int .i64 a2_0) := (blk_cell BK219.out 0).trans rfl
            have hcz221_1 : wc.cell? ⟨gb219, 1, none⟩ = some (.int .i64 a2_1) := (blk_cell BK219.out 1).trans rfl
            have hcz221_2 : wc.cell? ⟨gb219, 2, none⟩ = some (.int .i64 a2_2) := (blk_cell BK219.out 2).trans rfl
            have hcz221_3 : wc.cell? ⟨gb219, 3, none⟩ = some (.int .i64 a2_3) := (blk_cell BK219.out 3).trans rfl
            have hcz221_4 : wc.cell? ⟨gb219, 4, none⟩ = some (.int .i64 a2_4) := (blk_cell BK219.out 4).trans rfl
            have hcz221_5 : wc.cell? ⟨gb219, 5, none⟩ = some (.int .i64 a2_5) := (blk_cell BK219.out 5).trans rfl
            have hcz221_6 : wc.cell? ⟨gb219, 6, none⟩ = some (.int .i64 a2_6) := (blk_cell BK219.out 6).trans rfl
            have hfz221_0 := blk_frozen BK219.out 0
            have hfz221_1 := blk_frozen BK219.out 1
            have hfz221_2 := blk_frozen BK219.out 2
            have hfz221_3 := blk_frozen BK219.out 3
            have hfz221_4 := blk_frozen BK219.out 4
            have hfz221_5 := blk_frozen BK219.out 5
            have hfz221_6 := blk_frozen BK219.out 6
            go_wp2_with (first | ((with_reducible refine gate_callee (f := 18) rfl ?_); refine goesL_ (some 136) rfl rfl Tryd.func18 (by kernel_rfl) rfl #[.agg #[.int .i64 a0_0, .int .i64 a0_1, .int .i64 a0_2, .int .i64 a0_3], .agg #[.int .i64 a2_0, .int .i64 a2_1, .int .i64 a2_2, .int .i64 a2_3, .int .i64 a2_4, .int .i64 a2_5, .int .i64 a2_6]] rfl (by (try simp only [List.map_toArray, List.map_cons, List.map_nil]); first | done | rfl | (simp only [List.length_drop, List.length_take]; rfl)) ?_; (with_reducible refine (usage_Usage_Fits.calls a0_0 a0_1 a0_2 a0_3 a2_0 a2_1 a2_2 a2_3 a2_4 a2_5 a2_6 t226 _ A174.out).mono ?_); rintro e w222 ⟨rfl, hb⟩; refine ⟨_, rfl, ?_⟩; have n0_ := Aside0.mk (blk_below (g := gb217) (o := .cells #[.int .i64 a0_0, .int .i64 a0_1, .int .i64 a0_2, .int .i64 a0_3] 23 (0, 0)) (by (with_reducible repeat (first | refine blk_drewN ?_ _ | refine blk_drew ?_ | refine blk_alloc ?_ _)); exact BK217.out) hb); have n1_ := Aside0.mk (blk_below (g := gb218) (o := .cells #[.int .i64 a1_0, .int .i64 a1_1, .int .i64 a1_2, .int .i64 a1_3] 23 (0, 0)) (by (with_reducible repeat (first | refine blk_drewN ?_ _ | refine blk_drew ?_ | refine blk_alloc ?_ _)); exact BK218.out) hb); have n2_ := Aside0.mk (blk_below (g := gb219) (o := .cells #[.int .i64 a2_0, .int .i64 a2_1, .int .i64 a2_2, .int .i64 a2_3, .int .i64 a2_4, .int .i64 a2_5, .int .i64 a2_6] 29 (0, 0)) (by (with_reducible repeat (first | refine blk_drewN ?_ _ | refine blk_drew ?_ | refine blk_alloc ?_ _)); exact BK219.out) hb); have n3_ := Aside0.mk (blk_below (g := gb225) (o := .cells #[.int .i64 t221, .int .i64 t222, .int .i64 t223, .int .i64 t224] 23 (0, 0)) (by (with_reducible repeat (first | refine blk_drewN ?_ _ | refine blk_drew ?_ | refine blk_alloc ?_ _)); exact BK225.out) hb); have n4_ := Aside0.mk (below_step (by repeat (first | (with_reducible first | exact HB.out | apply below_alloc | apply pw_below_drewN | apply below_drew1 | refine below_set ?_ GE217.out | refine below_set ?_ GE218.out | refine below_set ?_ GE219.out | refine below_set ?_ GE225.out) | exact HB.out)) hb); clear BK217; clear BK218; clear BK219; clear BK225; clear HB; have BK217 := n0_; have BK218 := n1_; have BK219 := n2_; have BK225 := n3_; have HB := n4_; clear n0_ n1_ n2_ n3_ n4_; (try clear hb); (try clear hb2); (try clear hk); (try clear hi); have hnb223 := NB225_218.out; have hnc223 := NB218_225.out; have hcz224_0 : w222.cell? ⟨gb225, 0, none⟩ = some (.int .i64 t221) := (blk_cell BK225.out 0).trans rfl; have hcz224_1 : w222.cell? ⟨gb225, 1, none⟩ = some (.int .i64 t222) := (blk_cell BK225.out 1).trans rfl; have hcz224_2 : w222.cell? ⟨gb225, 2, none⟩ = some (.int .i64 t223) := (blk_cell BK225.out 2).trans rfl; have hcz224_3 : w222.cell? ⟨gb225, 3, none⟩ = some (.int .i64 t224) := (blk_cell BK225.out 3).trans rfl; have hfz224_0 := blk_frozen BK225.out 0; have hfz224_1 := blk_frozen BK225.out 1; have hfz224_2 := blk_frozen BK225.out 2; have hfz224_3 := blk_frozen BK225.out 3; have hcz225_0 : w222.cell? ⟨gb219, 0, none⟩ = some (.int .i64 a2_0) := (blk_cell BK219.out 0).trans rfl; have hcz225_1 : w222.cell? ⟨gb219, 1, none⟩ = some (.int .i64 a2_1) := (blk_cell BK219.out 1).trans rfl; have hcz225_2 : w222.cell? ⟨gb219, 2, none⟩ = some (.int .i64 a2_2) := (blk_cell BK219.out 2).trans rfl; have hcz225_3 : w222.cell? ⟨gb219, 3, none⟩ = some (.int .i64 a2_3) := (blk_cell BK219.out 3).trans rfl; have hcz225_4 : w222.cell? ⟨gb219, 4, none⟩ = some (.int .i64 a2_4) := (blk_cell BK219.out 4).trans rfl; have hcz225_5 : w222.cell? ⟨gb219, 5, none⟩ = some (.int .i64 a2_5) := (blk_cell BK219.out 5).trans rfl; have hcz225_6 : w222.cell? ⟨gb219, 6, none⟩ = some (.int .i64 a2_6) := (blk_cell BK219.out 6).trans rfl; have hfz225_0 := blk_frozen BK219.out 0; have hfz225_1 := blk_frozen BK219.out 1; have hfz225_2 := blk_frozen BK219.out 2; have hfz225_3 := blk_frozen BK219.out 3; have hfz225_4 := blk_frozen BK219.out 4; have hfz225_5 := blk_frozen BK219.out 5; have hfz225_6 := blk_frozen BK219.out 6) | (go_at_call 18; (with_reducible refine (usage_Usage_Fits.calls t221 t222 t223 t224 a2_0 a2_1 a2_2 a2_3 a2_4 a2_5 a2_6 false _ A176.out).mono ?_); rintro e w226 ⟨rfl, hb⟩; have n0_ := Aside0.mk (blk_below (g := gb217) (o := .cells #[.int .i64 a0_0, .int .i64 a0_1, .int .i64 a0_2, .int .i64 a0_3] 23 (0, 0)) (by (with_reducible repeat (first | refine blk_drewN ?_ _ | refine blk_drew ?_ | refine blk_alloc ?_ _)); exact BK217.out) hb); have n1_ := Aside0.mk (blk_below (g := gb218) (o := .cells #[.int .i64 a1_0, .int .i64 a1_1, .int .i64 a1_2, .int .i64 a1_3] 23 (0, 0)) (by (with_reducible repeat (first | refine blk_drewN ?_ _ | refine blk_drew ?_ | refine blk_alloc ?_ _)); exact BK218.out) hb); have n2_ := Aside0.mk (blk_below (g := gb219) (o := .cells #[.int .i64 a2_0, .int .i64 a2_1, .int .i64 a2_2, .int .i64 a2_3, .int .i64 a2_4, .int .i64 a2_5, .int .i64 a2_6] 29 (0, 0)) (by (with_reducible repeat (first | refine blk_drewN ?_ _ | refine blk_drew ?_ | refine blk_alloc ?_ _)); exact BK219.out) hb); have n3_ := Aside0.mk (blk_below (g := gb225) (o := .cells #[.int .i64 t221, .int .i64 t222, .int .i64 t223, .int .i64 t224] 23 (0, 0)) (by (with_reducible repeat (first | refine blk_drewN ?_ _ | refine blk_drew ?_ | refine blk_alloc ?_ _)); exact BK225.out) hb); have n4_ := Aside0.mk (below_step (by repeat (first | (with_reducible first | exact HB.out | apply below_alloc | apply pw_below_drewN | apply below_drew1 | refine below_set ?_ GE217.out | refine below_set ?_ GE218.out | refine below_set ?_ GE219.out | refine below_set ?_ GE225.out) | exact HB.out)) hb); clear BK217; clear BK218; clear BK219; clear BK225; clear HB; have BK217 := n0_; have BK218 := n1_; have BK219 := n2_; have BK225 := n3_; have HB := n4_; clear n0_ n1_ n2_ n3_ n4_; (try clear hb); (try clear hb2); (try clear hk); (try clear hi)))
            all_goals (go_ret; exact ⟨by first | rfl | (simp [errW_none, errW_some] <;> rfl) | (simp [*, errW_none, errW_some] <;> rfl), by repeat (first | (with_reducible first | exact HB.out | apply below_alloc | apply pw_below_drewN | apply below_drew1 | refine below_set ?_ GE217.out | refine below_set ?_ GE218.out | refine below_set ?_ GE219.out | refine below_set ?_ GE225.out) | exact HB.out)⟩)
          ·rw [if_neg c175] at H
           have c175b0 : (t226 == x8_141) = false := by simpa using c175
           (try (have c175b1 : decide (t226 = x8_141) = false := by simpa using c175))
           (try (have c175b2 : (t226 == x8_141) = false := by simpa using c175))
           (try (have c175b3 : ¬ (t226 = x8_141) := by simpa using c175))
           clear c175
           obtain rfl := Option.some.inj H
           have hnb227 := NB217_218.out
           have hnc227 := NB218_217.out
           have hnb228 := NB217_219.out
           have hnc228 := NB219_217.out
           have hnb229 := NB217_225.out
           have hnc229 := NB225_217.out
           have hcz230_0 : wc.cell? ⟨gb217, 0, none⟩ = some (.int .i64 a0_0) := (blk_cell BK217.out 0).trans rfl
           have hcz230_1 : wc.cell? ⟨gb217, 1, none⟩ = some (.int .i64 a0_1) := (blk_cell BK217.out 1).trans rfl
           have hcz230_2 : wc.cell? ⟨gb217, 2, none⟩ = some (.int .i64 a0_2) := (blk_cell BK217.out 2).trans rfl
           have hcz230_3 : wc.cell? ⟨gb217, 3, none⟩ = some (.int .i64 a0_3) := (blk_cell BK217.out 3).trans rfl
           have hfz230_0 := blk_frozen BK217.out 0
           have hfz230_1 := blk_frozen BK217.out 1
           have hfz230_2 := blk_frozen BK217.out 2
           have hfz230_3 := blk_frozen BK217.out 3
           have hnb231 := NB219_218.out
           have hnc231 := NB218_219.out
           have hnb232 := NB219_225.out
           have hnc232 := NB225_219.out
           have hcz233_0 : wc.cell? ⟨gb219, 0, none⟩ = some (.int .i64 a2_0) := (blk_cell BK219.out 0).trans rfl
           have hcz233_1 : wc.cell? ⟨gb219, 1, none⟩ = some (.int .i64 a2_1) := (blk_cell BK219.out 1).trans rfl
           have hcz233_2 : wc.cell? ⟨gb219, 2, none⟩ = some (.int .i64 a2_2) := (blk_cell BK219.out 2).trans rfl
           have hcz233_3 : wc.cell? ⟨gb219, 3, none⟩ = some (.int .i64 a2_3) := (blk_cell BK219.out 3).trans rfl
           have hcz233_4 : wc.cell? ⟨gb219, 4, none⟩ = some (.int .i64 a2_4) := (blk_cell BK219.out 4).trans rfl
           have hcz233_5 : wc.cell? ⟨gb219, 5, none⟩ = some (.int .i64 a2_5) := (blk_cell BK219.out 5).trans rfl
           have hcz233_6 : wc.cell? ⟨gb219, 6, none⟩ = some (.int .i64 a2_6) := (blk_cell BK219.out 6).trans rfl
           have hfz233_0 := blk_frozen BK219.out 0
           have hfz233_1 := blk_frozen BK219.out 1
           have hfz233_2 := blk_frozen BK219.out 2
           have hfz233_3 := blk_frozen BK219.out 3
           have hfz233_4 := blk_frozen BK219.out 4
           have hfz233_5 := blk_frozen BK219.out 5
           have hfz233_6 := blk_frozen BK219.out 6
           go_wp2_with (first | ((with_reducible refine gate_callee (f := 18) rfl ?_); refine goesL_ (some 136) rfl rfl Tryd.func18 (by kernel_rfl) rfl #[.agg #[.int .i64 a0_0, .int .i64 a0_1, .int .i64 a0_2, .int .i64 a0_3], .agg #[.int .i64 a2_0, .int .i64 a2_1, .int .i64 a2_2, .int .i64 a2_3, .int .i64 a2_4, .int .i64 a2_5, .int .i64 a2_6]] rfl (by (try simp only [List.map_toArray, List.map_cons, List.map_nil]); first | done | rfl | (simp only [List.length_drop, List.length_take]; rfl)) ?_; (with_reducible refine (usage_Usage_Fits.calls a0_0 a0_1 a0_2 a0_3 a2_0 a2_1 a2_2 a2_3 a2_4 a2_5 a2_6 t226 _ A174.out).mono ?_); rintro e w234 ⟨rfl, hb⟩; refine ⟨_, rfl, ?_⟩; have n0_ := Aside0.mk (blk_below (g := gb217) (o := .cells #[.int .i64 a0_0, .int .i64 a0_1, .int .i64 a0_2, .int .i64 a0_3] 23 (0, 0)) (by (with_reducible repeat (first | refine blk_drewN ?_ _ | refine blk_drew ?_ | refine blk_alloc ?_ _)); exact BK217.out) hb); have n1_ := Aside0.mk (blk_below (g := gb218) (o := .cells #[.int .i64 a1_0, .int .i64 a1_1, .int .i64 a1_2, .int .i64 a1_3] 23 (0, 0)) (by (with_reducible repeat (first | refine blk_drewN ?_ _ | refine blk_drew ?_ | refine blk_alloc ?_ _)); exact BK218.out) hb); have n2_ := Aside0.mk (blk_below (g := gb219) (o := .cells #[.int .i64 a2_0, .int .i64 a2_1, .int .i64 a2_2, .int .i64 a2_3, .int .i64 a2_4, .int .i64 a2_5, .int .i64 a2_6] 29 (0, 0)) (by (with_reducible repeat (first | refine blk_drewN ?_ _ | refine blk_drew ?_ | refine blk_alloc ?_ _)); exact BK219.out) hb); have n3_ := Aside0.mk (blk_below (g := gb225) (o := .cells #[.int .i64 t221, .int .i64 t222, .int .i64 t223, .int .i64 t224] 23 (0, 0)) (by (with_reducible repeat (first | refine blk_drewN ?_ _ | refine blk_drew ?_ | refine blk_alloc ?_ _)); exact BK225.out) hb); have n4_ := Aside0.mk (below_step (by repeat (first | (with_reducible first | exact HB.out | apply below_alloc | apply pw_below_drewN | apply below_drew1 | refine below_set ?_ GE217.out | refine below_set ?_ GE218.out | refine below_set ?_ GE219.out | refine below_set ?_ GE225.out) | exact HB.out)) hb); clear BK217; clear BK218; clear BK219; clear BK225; clear HB; have BK217 := n0_; have BK218 := n1_; have BK219 := n2_; have BK225 := n3_; have HB := n4_; clear n0_ n1_ n2_ n3_ n4_; (try clear hb); (try clear hb2); (try clear hk); (try clear hi)))
           all_goals (go_ret; exact ⟨by first | rfl | (simp [errW_none, errW_some] <;> rfl) | (simp [*, errW_none, errW_some] <;> rfl), by repeat (first | (with_reducible first | exact HB.out | apply below_alloc | apply pw_below_drewN | apply below_drew1 | refine below_set ?_ GE217.out | refine below_set ?_ GE218.out | refine below_set ?_ GE219.out | refine below_set ?_ GE225.out) | exact HB.out)⟩)
 ·replace c5 := Bool.eq_false_iff.mpr c5
  subst c5
  have H1 : (some false) = some r := by rw [if_neg (show ¬ (false = true) by decide)] at H; exact H
  clear H
  have H := H1
  clear H1
  obtain rfl := Option.some.inj H
  go_enter Tryd.func4, Tryd.ntmps4
  go_wp2_with (first | ((with_reducible refine gate_dst (N := 3) rfl ?_); (try (refine gate_guard (by rfl) ?_; dsimp only)); refine box_event ?hg (N := 3) ?hd (cs := #[.int .i64 a0_0, .int .i64 a0_1, .int .i64 a0_2, .int .i64 a0_3]) (t := 23) ?hr ?_; (case hd => rfl); (case hg => rfl); (case hr => first | (go_simp; done) | (go_simp; rfl)); intro gb217 hg w235 hbox hb; have n0_ := Aside0.mk (below_step (by repeat (first | (with_reducible first | exact HB.out | apply below_alloc | apply pw_below_drewN | apply below_drew1) | exact HB.out)) hb); have n1_ := Aside0.mk (hbox); have n2_ := Aside0.mk ((by rw [hg]; exact (below_size (by repeat (first | (with_reducible first | exact HB.out | apply below_alloc | apply pw_below_drewN | apply below_drew1) | exact HB.out))) : w.heap.size ≤ gb217)); have n3_ := Aside0.mk ((by rw [hg]; exact (below_size (by repeat (first | (with_reducible first | exact HB.out | apply below_alloc | apply pw_below_drewN | apply below_drew1) | exact HB.out))) : w.heap.size ≤ gb217)); clear HB; have HB := n0_; have BK217 := n1_; have GW217 := n2_; have GE217 := n3_; clear n0_ n1_ n2_ n3_; clear hb hbox hg) | ((with_reducible refine gate_dst (N := 4) rfl ?_); (try (refine gate_guard (by rfl) ?_; dsimp only)); refine box_event ?hg (N := 4) ?hd (cs := #[.int .i64 a1_0, .int .i64 a1_1, .int .i64 a1_2, .int .i64 a1_3]) (t := 23) ?hr ?_; (case hd => rfl); (case hg => rfl); (case hr => first | (go_simp; done) | (go_simp; rfl)); intro gb218 hg w236 hbox hb; have n0_ := Aside0.mk (blk_below (g := gb217) (o := .cells #[.int .i64 a0_0, .int .i64 a0_1, .int .i64 a0_2, .int .i64 a0_3] 23 (0, 0)) (by (with_reducible repeat (first | refine blk_drewN ?_ _ | refine blk_drew ?_ | refine blk_alloc ?_ _)); exact BK217.out) hb); have n1_ := Aside0.mk (below_step (by repeat (first | (with_reducible first | exact HB.out | apply below_alloc | apply pw_below_drewN | apply below_drew1 | refine below_set ?_ GE217.out) | exact HB.out)) hb); have n2_ := Aside0.mk (hbox); have n3_ := Aside0.mk ((by rw [hg]; exact (below_size (by repeat (first | (with_reducible first | exact HB.out | apply below_alloc | apply pw_below_drewN | apply below_drew1 | refine below_set ?_ GE217.out) | exact HB.out))) : w.heap.size ≤ gb218)); have n4_ := Aside0.mk ((by rw [hg]; exact (below_size (by repeat (first | (with_reducible first | exact HB.out | apply below_alloc | apply pw_below_drewN | apply below_drew1 | refine below_set ?_ GE217.out) | exact HB.out))) : w.heap.size ≤ gb218)); have n5_ := Aside0.mk ((by rw [hg]; exact Nat.ne_of_lt (blk_lt (g := gb217) (o := .cells #[.int .i64 a0_0, .int .i64 a0_1, .int .i64 a0_2, .int .i64 a0_3] 23 (0, 0)) (by (with_reducible repeat (first | refine blk_drewN ?_ _ | refine blk_drew ?_ | refine blk_alloc ?_ _)); exact BK217.out)) : gb217 ≠ gb218)); have n6_ := Aside0.mk ((by rw [hg]; exact Nat.ne_of_gt (blk_lt (g := gb217) (o := .cells #[.int .i64 a0_0, .int .i64 a0_1, .int .i64 a0_2, .int .i64 a0_3] 23 (0, 0)) (by (with_reducible repeat (first | refine blk_drewN ?_ _ | refine blk_drew ?_ | refine blk_alloc ?_ _)); exact BK217.out)) : gb218 ≠ gb217)); clear BK217; clear HB; have BK217 := n0_; have HB := n1_; have BK218 := n2_; have GW218 := n3_; have GE218 := n4_; have NB217_218 := n5_; have NB218_217 := n6_; clear n0_ n1_ n2_ n3_ n4_ n5_ n6_; clear hb hbox hg) | ((with_reducible refine gate_dst (N := 5) rfl ?_); (try (refine gate_guard (by rfl) ?_; dsimp only)); refine box_event ?hg (N := 5) ?hd (cs := #[.int .i64 a2_0, .int .i64 a2_1, .int .i64 a2_2, .int .i64 a2_3, .int .i64 a2_4, .int .i64 a2_5, .int .i64 a2_6]) (t := 29) ?hr ?_; (case hd => rfl); (case hg => rfl); (case hr => first | (go_simp; done) | (go_simp; rfl)); intro gb219 hg w237 hbox hb; have n0_ := Aside0.mk (blk_below (g := gb217) (o := .cells #[.int .i64 a0_0, .int .i64 a0_1, .int .i64 a0_2, .int .i64 a0_3] 23 (0, 0)) (by (with_reducible repeat (first | refine blk_drewN ?_ _ | refine blk_drew ?_ | refine blk_alloc ?_ _)); exact BK217.out) hb); have n1_ := Aside0.mk (blk_below (g := gb218) (o := .cells #[.int .i64 a1_0, .int .i64 a1_1, .int .i64 a1_2, .int .i64 a1_3] 23 (0, 0)) (by (with_reducible repeat (first | refine blk_drewN ?_ _ | refine blk_drew ?_ | refine blk_alloc ?_ _)); exact BK218.out) hb); have n2_ := Aside0.mk (below_step (by repeat (first | (with_reducible first | exact HB.out | apply below_alloc | apply pw_below_drewN | apply below_drew1 | refine below_set ?_ GE217.out | refine below_set ?_ GE218.out) | exact HB.out)) hb); have n3_ := Aside0.mk (hbox); have n4_ := Aside0.mk ((by rw [hg]; exact (below_size (by repeat (first | (with_reducible first | exact HB.out | apply below_alloc | apply pw_below_drewN | apply below_drew1 | refine below_set ?_ GE217.out | refine below_set ?_ GE218.out) | exact HB.out))) : w.heap.size ≤ gb219)); have n5_ := Aside0.mk ((by rw [hg]; exact (below_size (by repeat (first | (with_reducible first | exact HB.out | apply below_alloc | apply pw_below_drewN | apply below_drew1 | refine below_set ?_ GE217.out | refine below_set ?_ GE218.out) | exact HB.out))) : w.heap.size ≤ gb219)); have n6_ := Aside0.mk ((by rw [hg]; exact Nat.ne_of_lt (blk_lt (g := gb217) (o := .cells #[.int .i64 a0_0, .int .i64 a0_1, .int .i64 a0_2, .int .i64 a0_3] 23 (0, 0)) (by (with_reducible repeat (first | refine blk_drewN ?_ _ | refine blk_drew ?_ | refine blk_alloc ?_ _)); exact BK217.out)) : gb217 ≠ gb219)); have n7_ := Aside0.mk ((by rw [hg]; exact Nat.ne_of_gt (blk_lt (g := gb217) (o := .cells #[.int .i64 a0_0, .int .i64 a0_1, .int .i64 a0_2, .int .i64 a0_3] 23 (0, 0)) (by (with_reducible repeat (first | refine blk_drewN ?_ _ | refine blk_drew ?_ | refine blk_alloc ?_ _)); exact BK217.out)) : gb219 ≠ gb217)); have n8_ := Aside0.mk ((by rw [hg]; exact Nat.ne_of_lt (blk_lt (g := gb218) (o := .cells #[.int .i64 a1_0, .int .i64 a1_1, .int .i64 a1_2, .int .i64 a1_3] 23 (0, 0)) (by (with_reducible repeat (first | refine blk_drewN ?_ _ | refine blk_drew ?_ | refine blk_alloc ?_ _)); exact BK218.out)) : gb218 ≠ gb219)); have n9_ := Aside0.mk ((by rw [hg]; exact Nat.ne_of_gt (blk_lt (g := gb218) (o := .cells #[.int .i64 a1_0, .int .i64 a1_1, .int .i64 a1_2, .int .i64 a1_3] 23 (0, 0)) (by (with_reducible repeat (first | refine blk_drewN ?_ _ | refine blk_drew ?_ | refine blk_alloc ?_ _)); exact BK218.out)) : gb219 ≠ gb218)); clear BK217; clear BK218; clear HB; have BK217 := n0_; have BK218 := n1_; have HB := n2_; have BK219 := n3_; have GW219 := n4_; have GE219 := n5_; have NB217_219 := n6_; have NB219_217 := n7_; have NB218_219 := n8_; have NB219_218 := n9_; clear n0_ n1_ n2_ n3_ n4_ n5_ n6_ n7_ n8_ n9_; clear hb hbox hg) | ((with_reducible refine gate_callee (f := 16) rfl ?_); refine goesL_ (some 9) rfl rfl Tryd.func16 (by kernel_rfl) rfl #[] rfl (by (try simp only [List.map_toArray, List.map_cons, List.map_nil]); first | done | rfl | (simp only [List.length_drop, List.length_take]; rfl)) ?_; (with_reducible refine (pannierlaw14_measures.calls k  false _ A4.out).mono ?_); rintro e w238 ⟨rfl, hb⟩; refine ⟨_, rfl, ?_⟩; have n0_ := Aside0.mk (blk_below (g := gb217) (o := .cells #[.int .i64 a0_0, .int .i64 a0_1, .int .i64 a0_2, .int .i64 a0_3] 23 (0, 0)) (by (with_reducible repeat (first | refine blk_drewN ?_ _ | refine blk_drew ?_ | refine blk_alloc ?_ _)); exact BK217.out) hb); have n1_ := Aside0.mk (blk_below (g := gb218) (o := .cells #[.int .i64 a1_0, .int .i64 a1_1, .int .i64 a1_2, .int .i64 a1_3] 23 (0, 0)) (by (with_reducible repeat (first | refine blk_drewN ?_ _ | refine blk_drew ?_ | refine blk_alloc ?_ _)); exact BK218.out) hb); have n2_ := Aside0.mk (blk_below (g := gb219) (o := .cells #[.int .i64 a2_0, .int .i64 a2_1, .int .i64 a2_2, .int .i64 a2_3, .int .i64 a2_4, .int .i64 a2_5, .int .i64 a2_6] 29 (0, 0)) (by (with_reducible repeat (first | refine blk_drewN ?_ _ | refine blk_drew ?_ | refine blk_alloc ?_ _)); exact BK219.out) hb); have n3_ := Aside0.mk (below_step (by repeat (first | (with_reducible first | exact HB.out | apply below_alloc | apply pw_below_drewN | apply below_drew1 | refine below_set ?_ GE217.out | refine below_set ?_ GE218.out | refine below_set ?_ GE219.out) | exact HB.out)) hb); clear BK217; clear BK218; clear BK219; clear HB; have BK217 := n0_; have BK218 := n1_; have BK219 := n2_; have HB := n3_; clear n0_ n1_ n2_ n3_; (try clear hb); (try clear hb2); (try clear hk); (try clear hi)))
  all_goals (go_ret; exact ⟨by first | rfl | (simp [errW_none, errW_some] <;> rfl) | (simp [*, errW_none, errW_some] <;> rfl), by repeat (first | (with_reducible first | exact HB.out | apply below_alloc | apply pw_below_drewN | apply below_drew1 | refine below_set ?_ GE217.out | refine below_set ?_ GE218.out | refine below_set ?_ GE219.out) | exact HB.out)⟩)
/-- THE ONE PURE STATEMENT of pannierlaw14_UsageFits. -/
def pannierlaw14_UsageFits.Pure : Prop := ∀ (a0_0 : Int) (a0_1 : Int) (a0_2 : Int) (a0_3 : Int) (a1_0 : Int) (a1_1 : Int) (a1_2 : Int) (a1_3 : Int) (a2_0 : Int) (a2_1 : Int) (a2_2 : Int) (a2_3 : Int) (a2_4 : Int) (a2_5 : Int) (a2_6 : Int), (Lit.int .i64 a0_0).wf = true → (Lit.int .i64 a0_1).wf = true → (Lit.int .i64 a0_2).wf = true → (Lit.int .i64 a0_3).wf = true → (Lit.int .i64 a1_0).wf = true → (Lit.int .i64 a1_1).wf = true → (Lit.int .i64 a1_2).wf = true → (Lit.int .i64 a1_3).wf = true → (Lit.int .i64 a2_0).wf = true → (Lit.int .i64 a2_1).wf = true → (Lit.int .i64 a2_2).wf = true → (Lit.int .i64 a2_3).wf = true → (Lit.int .i64 a2_4).wf = true → (Lit.int .i64 a2_5).wf = true → (Lit.int .i64 a2_6).wf = true → ∃ k, pannierlaw14_UsageFits.f k a0_0 a0_1 a0_2 a0_3 a1_0 a1_1 a1_2 a1_3 a2_0 a2_1 a2_2 a2_3 a2_4 a2_5 a2_6 = some true

end Go.Proofs.YtolpamojbiipaaaDoor.XA
